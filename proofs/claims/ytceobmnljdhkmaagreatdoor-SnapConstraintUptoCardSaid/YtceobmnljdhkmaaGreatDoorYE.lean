/- Contracts: quo, FromInt, Mul of the reference's layer 2. -/
import Derived.Test.YtceobmnljdhkmaaGreatDoorYD
import Derived.Test.YtceobmnljdhkmaaGreatDoorYC
import Derived.Laws.BytesArg
import Derived.Deep.DeepCutAuto
namespace Go.Proofs.YtceobmnljdhkmaaGreatDoor
open Go Go.RowKit
theorem mixed : Tryz.prog.follows .mixedOrders = true := by kernel_rfl
set_option maxHeartbeats 1600000 in
theorem ref02_quo {A A' : Option Addr} {n m c c' a b : Nat} {w : World} (h : Words w (.slice A n c) (limbs a)) (h' : Words w (.slice A' m c') (limbs b)) (hb : 0 < b) (hsz : n ≤ 230000000) (hsz' : m ≤ 230000000) :
  Calls Tryz.prog 302 #[.agg #[.bool false, .slice A n c], .agg #[.bool false, .slice A' m c']] w (Ret w fun r w' => ∃ u, r = .agg #[.bool false, u] ∧ Words w' u (limbs (a / b))) := by
 have HD := Lib.hid (fun w1 (hx : Ext w w1) => ref01_DivMod (h.ext hx) (h'.ext hx) hb hsz hsz')
 have HB0 := Lib.hid (boxes3 w false false A A' n m c c')
 clear h h'
 go_enter Tryz.func302, Tryz.ntmps302
 go_wp2_with fail
 refine (HD.out _ (by repeat first|exact xA _|assumption|refine xB ?_ _|refine xC ?_|refine xD ?_ _|refine xE ?_ (by simp <;> omega) _|refine xF ?_ (by assumption))).mono ?_
 rintro e w1 ⟨v, rfl, ⟨u1, u2, rfl, hu1, hu2⟩, hx1⟩
 obtain ⟨A1, c1, rfl, hl1, hm1⟩ := hu1.form
 obtain ⟨A2, c2, rfl, hl2, hm2⟩ := hu2.form
 have HB1 := Lib.hid (HB0.out.ext hx1)
 have HU1 := Lib.hid hu1
 have hE1 : Ext w w1 := (by repeat first|exact xA _|assumption|refine xB ?_ _|refine xC ?_|refine xD ?_ _|refine xE ?_ (by simp <;> omega) _|refine xF ?_ (by assumption))
 clear hu1 hu2 HD
 generalize (limbs (a / b)).length = l1 at *
 generalize (limbs (a % b)).length = l2 at *
 have HB2 := Lib.hid ((HB1.out.ext (Ext.alloc w1 (.cells #[.bool false, .slice A1 l1 c1] 55))).ext (Ext.alloc _ (.cells #[.bool false, .slice A2 l2 c2] 55)))
 have HU2 := Lib.hid ((HU1.out.ext (Ext.alloc w1 (.cells #[.bool false, .slice A1 l1 c1] 55))).ext (Ext.alloc _ (.cells #[.bool false, .slice A2 l2 c2] 55)))
 obtain ⟨-, -, ⟨y0, y1, y2, y3, y4, -⟩⟩ := HB2.out
 go_wp2_with fail
 refine bodyPost_ret ?_ rfl ⟨_, rfl, ⟨.slice A1 l1 c1, rfl, ?_⟩, ?_⟩
 ·simp [results, Tryz.results302, go_sem, y0, y1]
 ·exact HU2.out.put HB2.out.2.2 false _
 ·exact ((hE1.palloc _).palloc _ |>.pset (by simp <;> omega) _).pset (by simp <;> omega) _
set_option maxHeartbeats 1600000 in
theorem ref02_FromInt (n : Nat) (hn : n < 4294967296) (w : World) :
  Calls Tryz.prog 11 #[.int .i64 (n : Int)] w (Ret w fun r w' => ∃ u1 u2, r = .agg #[.bool false, u1, .bool false, u2] ∧ Words w' u1 (limbs n) ∧ Words w' u2 (limbs 1)) := by
 go_enter Tryz.func11, Tryz.ntmps11
 go_wp2_with fail
 refine (ref01_FromInt n hn _).mono ?_
 rintro e w1 ⟨v, rfl, ⟨u1, rfl, hu1⟩, hx1⟩
 obtain ⟨A1, c1, rfl, hl1, hm1⟩ := hu1.form
 have HU1 := Lib.hid hu1
 clear hu1
 go_wp2_with fail
 refine (ref01_FromInt 1 (by omega) _).mono ?_
 rintro e w2 ⟨v, rfl, ⟨u2, rfl, hu2⟩, hx2⟩
 obtain ⟨A2, c2, rfl, hl2, hm2⟩ := hu2.form
 have HU2 := Lib.hid hu2
 clear hu2
 have hx := Ext.trans hx1 hx2
 have HNW : Hid (NoWord w2 w.heap.size) := (NoWord.new w #[.bool false, .slice none 0 0, .bool false, .slice none 0 0] 57 (by simp)).ext (by simp) hx
 have HU1' := Lib.hid (HU1.out.ext hx2)
 have HX : Ext w w2 := (by repeat first|exact xA _|assumption|refine xB ?_ _|refine xC ?_|refine xD ?_ _|refine xE ?_ (by simp <;> omega) _|refine xF ?_ (by assumption))
 obtain ⟨hc, hf⟩ := bcell hx
 go_wp2_with fail
 refine bodyPost_ret ?_ rfl ⟨_, rfl, ⟨.slice A1 (limbs n).length c1, .slice A2 (limbs 1).length c2, rfl, ?_, ?_⟩, ?_⟩
 ·simp [results, Tryz.results11, go_sem, hc]
 ·exact (((HU1'.out.box HNW.out _ _).box (HNW.out.set_ _ (by simp)) _ _).box ((HNW.out.set_ _ (by simp)).set_ _ (by simp)) _ _).box (((HNW.out.set_ _ (by simp)).set_ _ (by simp)).set_ _ (by simp)) _ _
 ·exact (((HU2.out.box HNW.out _ _).box (HNW.out.set_ _ (by simp)) _ _).box ((HNW.out.set_ _ (by simp)).set_ _ (by simp)) _ _).box (((HNW.out.set_ _ (by simp)).set_ _ (by simp)).set_ _ (by simp)) _ _
 ·exact (((HX.pset (by simp <;> omega) _).pset (by simp <;> omega) _).pset (by simp <;> omega) _).pset (by simp <;> omega) _
end Go.Proofs.YtceobmnljdhkmaaGreatDoor
namespace Go.Proofs.YtceobmnljdhkmaaGreatDoor
open Go Go.RowKit
/-- A box that holds a rational number. -/
def BoxQ (w : World) (g : Nat) (s : Bool) (u : Value) (t : Bool) (v : Value) : Prop :=
 w.cell? ⟨g, 0, none⟩ = some (.bool s) ∧ w.cell? ⟨g, 1, none⟩ = some u ∧ w.cell? ⟨g, 2, none⟩ = some (.bool t) ∧ w.cell? ⟨g, 3, none⟩ = some v ∧
 w.frozen? ⟨g, 0, none⟩ = false ∧ w.frozen? ⟨g, 1, none⟩ = false ∧ w.frozen? ⟨g, 2, none⟩ = false ∧ w.frozen? ⟨g, 3, none⟩ = false ∧ g < w.heap.size ∧ NoWord w g
theorem BoxQ.ext {w w' : World} {g : Nat} {s t : Bool} {u v : Value} (h : BoxQ w g s u t v) (hx : Ext w w') : BoxQ w' g s u t v := by
 obtain ⟨h0, h1, h2, h3, f0, f1, f2, f3, h4, h5⟩ := h
 exact ⟨(hx.cell (p := ⟨g, 0, none⟩) h4).trans h0, (hx.cell (p := ⟨g, 1, none⟩) h4).trans h1, (hx.cell (p := ⟨g, 2, none⟩) h4).trans h2, (hx.cell (p := ⟨g, 3, none⟩) h4).trans h3,
  (Below.frozen hx (p := ⟨g, 0, none⟩) h4).trans f0, (Below.frozen hx (p := ⟨g, 1, none⟩) h4).trans f1, (Below.frozen hx (p := ⟨g, 2, none⟩) h4).trans f2, (Below.frozen hx (p := ⟨g, 3, none⟩) h4).trans f3, Nat.lt_of_lt_of_le h4 hx.size, h5.ext h4 hx⟩
theorem BoxQ.new (w : World) (s t : Bool) (u v : Value) (T : TypeId) (hu : ∀ n, u ≠ .int .u32 n) (hv : ∀ n, v ≠ .int .u32 n) : BoxQ (w.alloc (.cells #[.bool s, u, .bool t, v] T)) w.heap.size s u t v := by
 refine ⟨by simp [go_sem], by simp [go_sem], by simp [go_sem], by simp [go_sem], by simp [go_sem], by simp [go_sem], by simp [go_sem], by simp [go_sem], by simp, NoWord.new _ _ _ ?_⟩
 intro x hx n
 simp only [List.mem_toArray, List.mem_cons, List.not_mem_nil, or_false] at hx
 rcases hx with rfl | rfl | rfl | rfl
 ·simp
 ·exact hu n
 ·simp
 ·exact hv n
def Boxes3Q (w : World) (g : Nat) (u v x y : Value) : Prop := BoxQ w g false u false v ∧ BoxQ w (g + 1) false x false y ∧ BoxQ w (g + 1 + 1) false (.slice none 0 0) false (.slice none 0 0)
theorem Boxes3Q.ext {w w' : World} {g : Nat} {u v x y : Value} (h : Boxes3Q w g u v x y) (hx : Ext w w') : Boxes3Q w' g u v x y := ⟨h.1.ext hx, h.2.1.ext hx, h.2.2.ext hx⟩
theorem boxes3q (w : World) (A A' B B' : Option Addr) (n n' c c' m m' k k' : Nat) :
  Boxes3Q (((w.alloc (.cells #[.bool false, .slice A n c, .bool false, .slice A' n' c'] 57)).alloc (.cells #[.bool false, .slice B m k, .bool false, .slice B' m' k'] 57)).alloc (.cells #[.bool false, .slice none 0 0, .bool false, .slice none 0 0] 57)) w.heap.size (.slice A n c) (.slice A' n' c') (.slice B m k) (.slice B' m' k') := by
 refine ⟨?_, ?_, ?_⟩
 ·exact (BoxQ.new w false false _ _ _ (by simp) (by simp)).ext ((Ext.alloc _ _).trans (Ext.alloc _ _))
 ·have := (BoxQ.new (w.alloc (.cells #[.bool false, .slice A n c, .bool false, .slice A' n' c'] 57)) false false (.slice B m k) (.slice B' m' k') 57 (by simp) (by simp)).ext (Ext.alloc _ (.cells #[.bool false, .slice none 0 0, .bool false, .slice none 0 0] 57))
  simpa using this
 ·have := BoxQ.new ((w.alloc (.cells #[.bool false, .slice A n c, .bool false, .slice A' n' c'] 57)).alloc (.cells #[.bool false, .slice B m k, .bool false, .slice B' m' k'] 57)) false false (.slice none 0 0) (.slice none 0 0) 57 (by simp) (by simp)
  simpa using this
theorem quo_any {v v' : Value} {a b : Nat} {w : World} (h : Words w v (limbs a)) (h' : Words w v' (limbs b)) (hb : 0 < b) (hsz : (limbs a).length ≤ 230000000) (hsz' : (limbs b).length ≤ 230000000) :
  Calls Tryz.prog 302 #[.agg #[.bool false, v], .agg #[.bool false, v']] w (Ret w fun r w' => ∃ u, r = .agg #[.bool false, u] ∧ Words w' u (limbs (a / b))) := by
 obtain ⟨A, c, rfl, hl, hm⟩ := h.form
 obtain ⟨A', c', rfl, hl', hm'⟩ := h'.form
 exact ref02_quo h h' hb hsz hsz'
theorem mul_any {v v' : Value} {a b : Nat} {w : World} (h : Words w v (limbs a)) (h' : Words w v' (limbs b)) (hsz : (limbs a).length ≤ 230000000) (hsz' : (limbs b).length ≤ 230000000) :
  Calls Tryz.prog 294 #[.agg #[.bool false, v], .agg #[.bool false, v']] w (Ret w fun r w' => ∃ u, r = .agg #[.bool false, u] ∧ Words w' u (limbs (a * b))) := by
 obtain ⟨A, c, rfl, hl, hm⟩ := h.form
 obtain ⟨A', c', rfl, hl', hm'⟩ := h'.form
 exact ref01_Mul (s := false) (t := false) h h' (by simp) (by simp) (by omega)
theorem mul_len1 {A : Option Addr} {n c a : Nat} {w : World} (h : Words w (.slice A n c) (limbs a)) (hn : n ≤ 22000000) : (limbs a).length ≤ 230000000 := by have := h.len.1; omega
theorem mul_len2 {A : Option Addr} {n c a e : Nat} {w : World} (h : Words w (.slice A n c) (limbs a)) (hn : n ≤ 22000000) (ha : 0 < a) : (limbs (Nat.gcd a e)).length ≤ 230000000 := by
 have h1 := limbs_length_mono (Nat.gcd_le_left e ha)
 have := h.len.1; omega
theorem mul_len3 {A : Option Addr} {n c a : Nat} {w : World} (h : Words w (.slice A n c) (limbs a)) (hn : n ≤ 22000000) (g : Nat) : (limbs (a / g)).length ≤ 230000000 := by
 have h1 := limbs_length_mono (Nat.div_le_self a g)
 have := h.len.1; omega
theorem mul_len {A A' B B' : Option Addr} {n n' m m' c c' k k' a d b e : Nat} {w : World} (h : Words w (.slice A n c) (limbs a) ∧ Words w (.slice A' n' c') (limbs d) ∧ Words w (.slice B m k) (limbs b) ∧ Words w (.slice B' m' k') (limbs e)) (hn : n ≤ 22000000) (hn' : n' ≤ 22000000) (hm : m ≤ 22000000) (hm' : m' ≤ 22000000) :
  (limbs (a / Nat.gcd a e)).length ≤ 230000000 ∧ (limbs (b / Nat.gcd b d)).length ≤ 230000000 ∧ (limbs (d / Nat.gcd b d)).length ≤ 230000000 ∧ (limbs (e / Nat.gcd a e)).length ≤ 230000000 :=
 ⟨mul_len3 h.1 hn _, mul_len3 h.2.2.1 hm _, mul_len3 h.2.1 hn' _, mul_len3 h.2.2.2 hm' _⟩
set_option maxHeartbeats 6400000 in
theorem ref02_Mul {A A' B B' : Option Addr} {n n' m m' c c' k k' a d b e : Nat} {w : World} (h1 : Words w (.slice A n c) (limbs a)) (h2 : Words w (.slice A' n' c') (limbs d)) (h3 : Words w (.slice B m k) (limbs b)) (h4 : Words w (.slice B' m' k') (limbs e))
  (hd : 1 < d) (ha : 0 < a) (hb : 0 < b) (hn : n ≤ 22000000) (hn' : n' ≤ 22000000) (hm : m ≤ 22000000) (hm' : m' ≤ 22000000) :
  Calls Tryz.prog 251 #[.agg #[.bool false, .slice A n c, .bool false, .slice A' n' c'], .agg #[.bool false, .slice B m k, .bool false, .slice B' m' k']] w
   (Ret w fun r w' => ∃ u v, r = .agg #[.bool false, u, .bool false, v] ∧ Words w' u (limbs (a / Nat.gcd a e * (b / Nat.gcd b d))) ∧ Words w' v (limbs (d / Nat.gcd b d * (e / Nat.gcd a e)))) := by
 have hn2 : n ≤ c := h1.len.2.1
 have hn2' : n' ≤ c' := h2.len.2.1
 have hm2 : m ≤ k := h3.len.2.1
 have hm2' : m' ≤ k' := h4.len.2.1
 have hz : 0 < n := by have := h1.len.1; rw [this, limbs_pos (by omega)]; simp
 have hy : 0 < m := by have := h3.len.1; rw [this, limbs_pos (by omega)]; simp
 have hzn : ((n : Int) == 0) = false := by simp; omega
 have hym : ((m : Int) == 0) = false := by simp; omega
 have hnd : ¬ (limbs d = [1]) := by
  intro e1
  have := congrArg val e1
  rw [val_limbs] at this
  simp [val] at this
  omega
 have HONE := Lib.hid (fun w1 (hx : Ext w w1) => ref02_one (s := false) (h2.ext hx))
 have HH := Lib.hid (And.intro h1 (And.intro h2 (And.intro h3 h4)))
 have HB0 := Lib.hid (boxes3q w A A' B B' n n' c c' m m' k k')
 have HND := Lib.hid hnd
 have HG1 := Lib.hid (fun w1 (hx : Ext w w1) => by have := ref01_GCD (s := false) (t := false) (h1.ext hx) (h4.ext hx) (by rw [← h1.len.1]; omega) (by rw [← h4.len.1]; omega); rw [val_limbs, val_limbs] at this; exact this)
 have HG2 := Lib.hid (fun w1 (hx : Ext w w1) => by have := ref01_GCD (s := false) (t := false) (h3.ext hx) (h2.ext hx) (by rw [← h3.len.1]; omega) (by rw [← h2.len.1]; omega); rw [val_limbs, val_limbs] at this; exact this)
 clear h1 h2 h3 h4 hnd
 go_enter Tryz.func251, Tryz.ntmps251
 go_wp2_with fail
 refine (HONE.out _ (by repeat first|exact xA _|assumption|refine xB ?_ _|refine xC ?_|refine xD ?_ _|refine xE ?_ (by simp <;> omega) _|refine xF ?_ (by assumption))).mono ?_
 rintro e w1 ⟨rfl, hx1⟩
 rw [decide_eq_false HND.out, Bool.false_and]
 have HB1 := Lib.hid (HB0.out.ext hx1)
 have hE1 : Ext w w1 := (by repeat first|exact xA _|assumption|refine xB ?_ _|refine xC ?_|refine xD ?_ _|refine xE ?_ (by simp <;> omega) _|refine xF ?_ (by assumption))
 obtain ⟨⟨y0, y1, y2, y3, -⟩, ⟨z0, z1, z2, z3, -⟩, -⟩ := HB1.out
 clear HB0
 go_wp2_with fail
 have hS : w.heap.size + 1 + 1 < w1.heap.size := HB1.out.2.2.2.2.2.2.2.2.2.2.1
 refine wp_region_ext 12 65 (fun i v w' => match i with
  | 0 => v = .pointer (some ⟨w.heap.size, 0, none⟩)
  | 1 => v = .agg #[.bool false, .slice A n c]
  | 2 => v = .pointer (some ⟨w.heap.size + 1, 2, none⟩)
  | 3 => v = .agg #[.bool false, .slice B' m' k']
  | 4 => ∃ u, v = .agg #[.bool false, u] ∧ Words w' u (limbs (Nat.gcd a e))
  | 5 => v = .pointer (some ⟨w.heap.size + 1, 0, none⟩)
  | 6 => v = .agg #[.bool false, .slice B m k]
  | 7 => v = .pointer (some ⟨w.heap.size, 2, none⟩)
  | 8 => v = .agg #[.bool false, .slice A' n' c']
  | 9 => ∃ u, v = .agg #[.bool false, u] ∧ Words w' u (limbs (Nat.gcd b d))
  | 10 => ∃ q, v = .pointer (some ⟨q, 0, none⟩) ∧ BoxI w' q false (.slice none 0 0) ∧ w1.heap.size ≤ q
  | 11 => ∃ q, v = .pointer (some ⟨q, 0, none⟩) ∧ BoxI w' q false (.slice none 0 0) ∧ w1.heap.size ≤ q
  | _ => False)
  (fun i v j v' => (i = 10 ∧ j = 11 ∨ i = 11 ∧ j = 10) → v ≠ v') mixed (by kernel_rfl) rfl ?_ (AllLt.all ?_) ?_
 ·intro i v wa wb hx
  match i with
  | 4 => exact fun ⟨u, h, h'⟩ => ⟨u, h, h'.ext hx⟩
  | 9 => exact fun ⟨u, h, h'⟩ => ⟨u, h, h'.ext hx⟩
  | 10 => exact fun ⟨u, h, h', h''⟩ => ⟨u, h, h'.ext hx, h''⟩
  | 11 => exact fun ⟨u, h, h', h''⟩ => ⟨u, h, h'.ext hx, h''⟩
  | 0 | 1 | 2 | 3 | 5 | 6 | 7 | 8 => exact id
  | _ + 12 => exact id
 ·clear y0 y1 y2 y3 z0 z1 z2 z3
  refine ⟨⟨⟨⟨⟨⟨⟨⟨⟨⟨⟨⟨trivial, ?_⟩, ?_⟩, ?_⟩, ?_⟩, ?_⟩, ?_⟩, ?_⟩, ?_⟩, ?_⟩, ?_⟩, ?_⟩, ?_⟩
  ·refine PreOp.of _ _ rfl rfl rfl ?_
   intro vs w' hx hnd
   have HB2 := Lib.hid (HB1.out.ext (Ext.trans (Ext.drew _) hx))
   have hE2 : Ext w w' := hE1.trans (Ext.trans (Ext.drew _) hx)
   clear hnd
   simp only [fill]
   obtain ⟨⟨y0, y1, y2, y3, -⟩, ⟨z0, z1, z2, z3, -⟩, -⟩ := HB2.out
   go_wp2_with fail
   exact ⟨rfl, Ext.refl _, rfl, (by first | exact trivial | exact fun j u _ _ hh => by omega)⟩
  ·refine PreOp.of _ _ rfl rfl rfl ?_
   intro vs w' hx hnd
   have HB2 := Lib.hid (HB1.out.ext (Ext.trans (Ext.drew _) hx))
   have hE2 : Ext w w' := hE1.trans (Ext.trans (Ext.drew _) hx)
   have e0 : vs 0 = .pointer (some ⟨w.heap.size, 0, none⟩) := hnd 0 (by kernel_rfl) (by omega)
   clear hnd
   simp only [fill, dstOf, List.getElem?_toArray, List.getElem?_cons_zero, Option.bind_some, Act.put, List.setIfInBounds_toArray, List.set_cons_zero, List.set_cons_succ]
   rw [e0]
   obtain ⟨⟨y0, y1, y2, y3, -⟩, ⟨z0, z1, z2, z3, -⟩, -⟩ := HB2.out
   go_wp2_with fail
   exact ⟨rfl, Ext.refl _, rfl, (by first | exact trivial | exact fun j u _ _ hh => by omega)⟩
  ·refine PreOp.of _ _ rfl rfl rfl ?_
   intro vs w' hx hnd
   have HB2 := Lib.hid (HB1.out.ext (Ext.trans (Ext.drew _) hx))
   have hE2 : Ext w w' := hE1.trans (Ext.trans (Ext.drew _) hx)
   clear hnd
   simp only [fill, dstOf, List.getElem?_toArray, List.getElem?_cons_zero, List.getElem?_cons_succ, Option.bind_some, Act.put, List.setIfInBounds_toArray, List.set_cons_zero, List.set_cons_succ]
   obtain ⟨⟨y0, y1, y2, y3, -⟩, ⟨z0, z1, z2, z3, -⟩, -⟩ := HB2.out
   go_wp2_with fail
   exact ⟨rfl, Ext.refl _, rfl, (by first | exact trivial | exact fun j u _ _ hh => by omega)⟩
  ·refine PreOp.of _ _ rfl rfl rfl ?_
   intro vs w' hx hnd
   have HB2 := Lib.hid (HB1.out.ext (Ext.trans (Ext.drew _) hx))
   have hE2 : Ext w w' := hE1.trans (Ext.trans (Ext.drew _) hx)
   have e2 : vs 2 = .pointer (some ⟨w.heap.size + 1, 2, none⟩) := hnd 2 (by kernel_rfl) (by omega)
   clear hnd
   simp only [fill, dstOf, List.getElem?_toArray, List.getElem?_cons_zero, List.getElem?_cons_succ, Option.bind_some, Act.put, List.setIfInBounds_toArray, List.set_cons_zero, List.set_cons_succ]
   rw [e2]
   obtain ⟨⟨y0, y1, y2, y3, -⟩, ⟨z0, z1, z2, z3, -⟩, -⟩ := HB2.out
   go_wp2_with fail
   exact ⟨rfl, Ext.refl _, rfl, (by first | exact trivial | exact fun j u _ _ hh => by omega)⟩
  ·refine PreOp.of _ _ rfl rfl rfl ?_
   intro vs w' hx hnd
   have HB2 := Lib.hid (HB1.out.ext (Ext.trans (Ext.drew _) hx))
   have hE2 : Ext w w' := hE1.trans (Ext.trans (Ext.drew _) hx)
   have e1 : vs 1 = .agg #[.bool false, .slice A n c] := hnd 1 (by kernel_rfl) (by omega)
   have e3 : vs 3 = .agg #[.bool false, .slice B' m' k'] := hnd 3 (by kernel_rfl) (by omega)
   clear hnd
   simp only [fill, dstOf, List.getElem?_toArray, List.getElem?_cons_zero, List.getElem?_cons_succ, Option.bind_some, Act.put, List.setIfInBounds_toArray, List.set_cons_zero, List.set_cons_succ]
   rw [e1, e3]
   obtain ⟨⟨y0, y1, y2, y3, -⟩, ⟨z0, z1, z2, z3, -⟩, -⟩ := HB2.out
   go_wp2_with fail
   refine (HG1.out _ (by repeat first|exact xA _|assumption|refine xB ?_ _|refine xC ?_|refine xD ?_ _|refine xE ?_ (by simp <;> omega) _|refine xF ?_ (by assumption))).mono ?_
   rintro e w2 ⟨v, rfl, ⟨u, rfl, hu⟩, hx2⟩
   go_wp2_with fail
   exact ⟨rfl, hx2, ⟨u, rfl, hu⟩, (by intro j u _ _ h; omega)⟩
  ·refine PreOp.of _ _ rfl rfl rfl ?_
   intro vs w' hx hnd
   have HB2 := Lib.hid (HB1.out.ext (Ext.trans (Ext.drew _) hx))
   have hE2 : Ext w w' := hE1.trans (Ext.trans (Ext.drew _) hx)
   clear hnd
   simp only [fill, dstOf, List.getElem?_toArray, List.getElem?_cons_zero, List.getElem?_cons_succ, Option.bind_some, Act.put, List.setIfInBounds_toArray, List.set_cons_zero, List.set_cons_succ]
   obtain ⟨⟨y0, y1, y2, y3, -⟩, ⟨z0, z1, z2, z3, -⟩, -⟩ := HB2.out
   go_wp2_with fail
   exact ⟨rfl, Ext.refl _, rfl, (by first | exact trivial | exact fun j u _ _ hh => by omega)⟩
  ·refine PreOp.of _ _ rfl rfl rfl ?_
   intro vs w' hx hnd
   have HB2 := Lib.hid (HB1.out.ext (Ext.trans (Ext.drew _) hx))
   have hE2 : Ext w w' := hE1.trans (Ext.trans (Ext.drew _) hx)
   have e5 : vs 5 = .pointer (some ⟨w.heap.size + 1, 0, none⟩) := hnd 5 (by kernel_rfl) (by omega)
   clear hnd
   simp only [fill, dstOf, List.getElem?_toArray, List.getElem?_cons_zero, List.getElem?_cons_succ, Option.bind_some, Act.put, List.setIfInBounds_toArray, List.set_cons_zero, List.set_cons_succ]
   rw [e5]
   obtain ⟨⟨y0, y1, y2, y3, -⟩, ⟨z0, z1, z2, z3, -⟩, -⟩ := HB2.out
   go_wp2_with fail
   exact ⟨rfl, Ext.refl _, rfl, (by first | exact trivial | exact fun j u _ _ hh => by omega)⟩
  ·refine PreOp.of _ _ rfl rfl rfl ?_
   intro vs w' hx hnd
   have HB2 := Lib.hid (HB1.out.ext (Ext.trans (Ext.drew _) hx))
   have hE2 : Ext w w' := hE1.trans (Ext.trans (Ext.drew _) hx)
   clear hnd
   simp only [fill, dstOf, List.getElem?_toArray, List.getElem?_cons_zero, List.getElem?_cons_succ, Option.bind_some, Act.put, List.setIfInBounds_toArray, List.set_cons_zero, List.set_cons_succ]
   obtain ⟨⟨y0, y1, y2, y3, -⟩, ⟨z0, z1, z2, z3, -⟩, -⟩ := HB2.out
   go_wp2_with fail
   exact ⟨rfl, Ext.refl _, rfl, (by first | exact trivial | exact fun j u _ _ hh => by omega)⟩
  ·refine PreOp.of _ _ rfl rfl rfl ?_
   intro vs w' hx hnd
   have HB2 := Lib.hid (HB1.out.ext (Ext.trans (Ext.drew _) hx))
   have hE2 : Ext w w' := hE1.trans (Ext.trans (Ext.drew _) hx)
   have e7 : vs 7 = .pointer (some ⟨w.heap.size, 2, none⟩) := hnd 7 (by kernel_rfl) (by omega)
   clear hnd
   simp only [fill, dstOf, List.getElem?_toArray, List.getElem?_cons_zero, List.getElem?_cons_succ, Option.bind_some, Act.put, List.setIfInBounds_toArray, List.set_cons_zero, List.set_cons_succ]
   rw [e7]
   obtain ⟨⟨y0, y1, y2, y3, -⟩, ⟨z0, z1, z2, z3, -⟩, -⟩ := HB2.out
   go_wp2_with fail
   exact ⟨rfl, Ext.refl _, rfl, (by first | exact trivial | exact fun j u _ _ hh => by omega)⟩
  ·refine PreOp.of _ _ rfl rfl rfl ?_
   intro vs w' hx hnd
   have HB2 := Lib.hid (HB1.out.ext (Ext.trans (Ext.drew _) hx))
   have hE2 : Ext w w' := hE1.trans (Ext.trans (Ext.drew _) hx)
   have e6 : vs 6 = .agg #[.bool false, .slice B m k] := hnd 6 (by kernel_rfl) (by omega)
   have e8 : vs 8 = .agg #[.bool false, .slice A' n' c'] := hnd 8 (by kernel_rfl) (by omega)
   clear hnd
   simp only [fill, dstOf, List.getElem?_toArray, List.getElem?_cons_zero, List.getElem?_cons_succ, Option.bind_some, Act.put, List.setIfInBounds_toArray, List.set_cons_zero, List.set_cons_succ]
   rw [e6, e8]
   obtain ⟨⟨y0, y1, y2, y3, -⟩, ⟨z0, z1, z2, z3, -⟩, -⟩ := HB2.out
   go_wp2_with fail
   refine (HG2.out _ (by repeat first|exact xA _|assumption|refine xB ?_ _|refine xC ?_|refine xD ?_ _|refine xE ?_ (by simp <;> omega) _|refine xF ?_ (by assumption))).mono ?_
   rintro e w2 ⟨v, rfl, ⟨u, rfl, hu⟩, hx2⟩
   go_wp2_with fail
   exact ⟨rfl, hx2, ⟨u, rfl, hu⟩, (by intro j u _ _ h; omega)⟩
  ·refine PreOp.of _ _ rfl rfl rfl ?_
   intro vs w' hx hnd
   have HB2 := Lib.hid (HB1.out.ext (Ext.trans (Ext.drew _) hx))
   have hE2 : Ext w w' := hE1.trans (Ext.trans (Ext.drew _) hx)
   clear hnd
   simp only [fill, dstOf, List.getElem?_toArray, List.getElem?_cons_zero, List.getElem?_cons_succ, Option.bind_some, Act.put, List.setIfInBounds_toArray, List.set_cons_zero, List.set_cons_succ]
   obtain ⟨⟨y0, y1, y2, y3, -⟩, ⟨z0, z1, z2, z3, -⟩, -⟩ := HB2.out
   go_wp2_with fail
   refine ⟨rfl, Ext.alloc _ _, ⟨w'.heap.size, rfl, BoxI.new w' false (.slice none 0 0) _ (by simp), (by have := hx.size; simpa using this)⟩, ?_⟩
   rintro j u - hj hjj
   obtain rfl : j = 11 := by rcases hjj with ⟨h1, h2⟩ | ⟨h1, h2⟩ <;> first | exact h1 | omega
   obtain ⟨q, rfl, hq, -⟩ := hj
   intro e1
   have hqs := hq.2.2.2.2.1
   have e2 : (Value.pointer (some ⟨q, 0, none⟩)) = Value.pointer (some ⟨w'.heap.size, 0, none⟩) := e1
   injection e2 with e2
   injection e2 with e2
   injection e2 with e2
   omega
  ·refine PreOp.of _ _ rfl rfl rfl ?_
   intro vs w' hx hnd
   have HB2 := Lib.hid (HB1.out.ext (Ext.trans (Ext.drew _) hx))
   have hE2 : Ext w w' := hE1.trans (Ext.trans (Ext.drew _) hx)
   clear hnd
   simp only [fill, dstOf, List.getElem?_toArray, List.getElem?_cons_zero, List.getElem?_cons_succ, Option.bind_some, Act.put, List.setIfInBounds_toArray, List.set_cons_zero, List.set_cons_succ]
   obtain ⟨⟨y0, y1, y2, y3, -⟩, ⟨z0, z1, z2, z3, -⟩, -⟩ := HB2.out
   go_wp2_with fail
   refine ⟨rfl, Ext.alloc _ _, ⟨w'.heap.size, rfl, BoxI.new w' false (.slice none 0 0) _ (by simp), (by have := hx.size; simpa using this)⟩, ?_⟩
   rintro j u - hj hjj
   obtain rfl : j = 10 := by rcases hjj with ⟨h1, h2⟩ | ⟨h1, h2⟩ <;> first | exact h1 | omega
   obtain ⟨q, rfl, hq, -⟩ := hj
   intro e1
   have hqs := hq.2.2.2.2.1
   have e2 : (Value.pointer (some ⟨q, 0, none⟩)) = Value.pointer (some ⟨w'.heap.size, 0, none⟩) := e1
   injection e2 with e2
   injection e2 with e2
   injection e2 with e2
   omega
 ·intro vs w2 hx2 hP hD
  obtain ⟨u1, e4, hu1⟩ := hP 4 (by omega)
  obtain ⟨u2, e9, hu2⟩ := hP 9 (by omega)
  obtain ⟨q1, e10, hb1, hl1⟩ := hP 10 (by omega)
  obtain ⟨q2, e11, hb2, hl2⟩ := hP 11 (by omega)
  have hne : q1 ≠ q2 := by
   intro e1
   subst e1
   rcases hD 10 11 (by omega) (by omega) (by omega) with h | h
   ·exact h (.inl ⟨rfl, rfl⟩) (e10.trans e11.symm)
   ·exact h (.inr ⟨rfl, rfl⟩) (e11.trans e10.symm)
  clear hP hD
  obtain ⟨A1, c1, rfl, hc1, hc1'⟩ := hu1.form
  obtain ⟨A2, c2, rfl, hc2, hc2'⟩ := hu2.form
  have HE12 := Lib.hid (Ext.trans (Ext.drew _) hx2)
  have HU1 := Lib.hid hu1
  have HU2 := Lib.hid hu2
  generalize (limbs (Nat.gcd a e)).length = l1 at *
  generalize (limbs (Nat.gcd b d)).length = l2 at *
  clear hu1 hu2
  have HI1 := Lib.hid hb1
  have HI2 := Lib.hid hb2
  obtain ⟨p0, p1, p2, p3, -⟩ := hb1
  obtain ⟨r0, r1, r2, r3, -⟩ := hb2
  have hne' : ¬ q2 = q1 := fun e => hne e.symm
  simp only [fill, dstOf, List.getElem?_toArray, List.getElem?_cons_zero, List.getElem?_cons_succ, Option.bind_some, Act.put, List.setIfInBounds_toArray, List.set_cons_zero, List.set_cons_succ]
  rw [e4, e9, e10, e11]
  show wpList _ _ _ (List.cons _ (List.cons _ List.nil)) _ _
  clear y0 y1 y2 y3 z0 z1 z2 z3 e4 e9 e10 e11 hx2
  go_wp2_with fail
  obtain ⟨hE2, HB2⟩ := And.intro HE12.out (HB1.out.ext HE12.out)
  have k1 := HI1.out.put false (u' := .slice A1 l1 c1) (by simp)
  have k2 := (HI2.out.far hne (.bool false) (.slice A1 l1 c1))
  have HK1 := k1.far hne' (.bool false) (.slice A2 l2 c2)
  have HK2 := k2.put false (u' := .slice A2 l2 c2) (by simp)
  have HW1 := Lib.hid ((HU1.out.put HI1.out false (.slice A1 l1 c1)).put k2 false (.slice A2 l2 c2))
  have HW2 := Lib.hid ((HU2.out.put HI1.out false (.slice A1 l1 c1)).put k2 false (.slice A2 l2 c2))
  have hE23 : Ext w1 ((((w2.setCell ⟨q1, 0, none⟩ (.bool false)).setCell ⟨q1, 1, none⟩ (.slice A1 l1 c1)).setCell ⟨q2, 0, none⟩ (.bool false)).setCell ⟨q2, 1, none⟩ (.slice A2 l2 c2)) :=
   (((hE2.pset (by simpa using hl1) _).pset (by simpa using hl1) _).pset (by simpa using hl2) _).pset (by simpa using hl2) _
  have HB3 := Lib.hid (And.intro (HB1.out.ext hE23) (And.intro HK1 HK2))
  have hE3 := hE1.trans hE23
  clear k1 k2 HK1 HK2 HI1 HI2 HU1 HU2 HB2 p0 p1 p2 p3 r0 r1 r2 r3 HE12 hE2 hE23 HB1 hx1
  generalize ((((w2.setCell ⟨q1, 0, none⟩ (.bool false)).setCell ⟨q1, 1, none⟩ (.slice A1 l1 c1)).setCell ⟨q2, 0, none⟩ (.bool false)).setCell ⟨q2, 1, none⟩ (.slice A2 l2 c2)) = w3 at *
  have HL := Lib.hid (mul_len HH.out hn hn' hm hm')
  have HQ1 := Lib.hid (fun w4 (hx : Ext w3 w4) => quo_any (HH.out.1.ext (hE3.trans hx)) (HW1.out.ext hx) (Nat.gcd_pos_of_pos_left _ ha) (mul_len1 HH.out.1 hn) (mul_len2 HH.out.1 hn ha))
  have HQ2 := Lib.hid (fun w4 (hx : Ext w3 w4) => quo_any (HH.out.2.2.1.ext (hE3.trans hx)) (HW2.out.ext hx) (Nat.gcd_pos_of_pos_left _ hb) (mul_len1 HH.out.2.2.1 hm) (mul_len2 HH.out.2.2.1 hm hb))
  have HQ3 := Lib.hid (fun w4 (hx : Ext w3 w4) => quo_any (HH.out.2.1.ext (hE3.trans hx)) (HW2.out.ext hx) (Nat.gcd_pos_of_pos_left _ hb) (mul_len1 HH.out.2.1 hn') (mul_len2 HH.out.2.2.1 hm hb))
  have HQ4 := Lib.hid (fun w4 (hx : Ext w3 w4) => quo_any (HH.out.2.2.2.ext (hE3.trans hx)) (HW1.out.ext hx) (Nat.gcd_pos_of_pos_left _ ha) (mul_len1 HH.out.2.2.2 hm') (mul_len2 HH.out.1 hn ha))
  refine wp_region_ext 19 65 (fun i v w' => match i with
   | 0 => v = .pointer (some ⟨w.heap.size, 0, none⟩)
   | 1 => v = .agg #[.bool false, .slice A n c]
   | 2 => v = .agg #[.bool false, .slice A1 l1 c1]
   | 3 => ∃ u, v = .agg #[.bool false, u] ∧ Words w' u (limbs (a / Nat.gcd a e))
   | 4 => v = .pointer (some ⟨w.heap.size + 1, 0, none⟩)
   | 5 => v = .agg #[.bool false, .slice B m k]
   | 6 => v = .agg #[.bool false, .slice A2 l2 c2]
   | 7 => ∃ u, v = .agg #[.bool false, u] ∧ Words w' u (limbs (b / Nat.gcd b d))
   | 8 => ∃ u, v = .agg #[.bool false, u] ∧ Words w' u (limbs (a / Nat.gcd a e * (b / Nat.gcd b d)))
   | 9 => v = .pointer (some ⟨w.heap.size, 2, none⟩)
   | 10 => v = .agg #[.bool false, .slice A' n' c']
   | 11 => v = .agg #[.bool false, .slice A2 l2 c2]
   | 12 => ∃ u, v = .agg #[.bool false, u] ∧ Words w' u (limbs (d / Nat.gcd b d))
   | 13 => v = .pointer (some ⟨w.heap.size + 1, 2, none⟩)
   | 14 => v = .agg #[.bool false, .slice B' m' k']
   | 15 => v = .agg #[.bool false, .slice A1 l1 c1]
   | 16 => ∃ u, v = .agg #[.bool false, u] ∧ Words w' u (limbs (e / Nat.gcd a e))
   | 17 => ∃ u, v = .agg #[.bool false, u] ∧ Words w' u (limbs (d / Nat.gcd b d * (e / Nat.gcd a e)))
   | 18 => ∃ u u', v = .agg #[.bool false, u, .bool false, u'] ∧ Words w' u (limbs (a / Nat.gcd a e * (b / Nat.gcd b d))) ∧ Words w' u' (limbs (d / Nat.gcd b d * (e / Nat.gcd a e)))
   | _ => False)
   (fun _ _ _ _ => True) mixed (by kernel_rfl) rfl ?_ (AllLt.all ?_) ?_
  ·intro i v wa wb hx
   match i with
   | 3 | 7 | 8 | 12 | 16 | 17 => exact fun ⟨u, h, h'⟩ => ⟨u, h, h'.ext hx⟩
   | 18 => exact fun ⟨u, u', h, h', h''⟩ => ⟨u, u', h, h'.ext hx, h''.ext hx⟩
   | 0 | 1 | 2 | 4 | 5 | 6 | 9 | 10 | 11 | 13 | 14 | 15 => exact id
   | _ + 19 => exact id
  ·refine ⟨⟨⟨⟨⟨⟨⟨⟨⟨⟨⟨⟨⟨⟨⟨⟨⟨⟨⟨trivial, ?_⟩, ?_⟩, ?_⟩, ?_⟩, ?_⟩, ?_⟩, ?_⟩, ?_⟩, ?_⟩, ?_⟩, ?_⟩, ?_⟩, ?_⟩, ?_⟩, ?_⟩, ?_⟩, ?_⟩, ?_⟩, ?_⟩
   ·refine PreOp.of _ _ rfl rfl rfl ?_
    intro vs' w' hx hnd
    have hE6 : Ext w3 w' := Ext.trans (Ext.drew _) hx
    have HB4 := Lib.hid (And.intro (HB3.out.1.ext hE6) (And.intro (HB3.out.2.1.ext hE6) (HB3.out.2.2.ext hE6)))
    have hE4 : Ext w w' := hE3.trans (Ext.trans (Ext.drew _) hx)
    have hE5 : Ext w3 w' := Ext.trans (Ext.drew _) hx
    clear hnd
    simp only [fill]
    obtain ⟨⟨⟨y0, y1, y2, y3, -⟩, ⟨z0, z1, z2, z3, -⟩, -⟩, ⟨p0, p1, -⟩, ⟨r0, r1, -⟩⟩ := HB4.out
    go_wp2_with fail
    exact ⟨rfl, Ext.refl _, rfl, (by first | trivial | (intro j u _ _; trivial))⟩
   ·refine PreOp.of _ _ rfl rfl rfl ?_
    intro vs' w' hx hnd
    have hE6 : Ext w3 w' := Ext.trans (Ext.drew _) hx
    have HB4 := Lib.hid (And.intro (HB3.out.1.ext hE6) (And.intro (HB3.out.2.1.ext hE6) (HB3.out.2.2.ext hE6)))
    have hE4 : Ext w w' := hE3.trans (Ext.trans (Ext.drew _) hx)
    have hE5 : Ext w3 w' := Ext.trans (Ext.drew _) hx
    have e0 : vs' 0 = .pointer (some ⟨w.heap.size, 0, none⟩) := hnd 0 (by kernel_rfl) (by omega)
    clear hnd
    simp only [fill, dstOf, List.getElem?_toArray, List.getElem?_cons_zero, Option.bind_some, Act.put, List.setIfInBounds_toArray, List.set_cons_zero, List.set_cons_succ]
    rw [e0]
    obtain ⟨⟨⟨y0, y1, y2, y3, -⟩, ⟨z0, z1, z2, z3, -⟩, -⟩, ⟨p0, p1, -⟩, ⟨r0, r1, -⟩⟩ := HB4.out
    go_wp2_with fail
    exact ⟨rfl, Ext.refl _, rfl, (by first | trivial | (intro j u _ _; trivial))⟩
   ·refine PreOp.of _ _ rfl rfl rfl ?_
    intro vs' w' hx hnd
    have hE6 : Ext w3 w' := Ext.trans (Ext.drew _) hx
    have HB4 := Lib.hid (And.intro (HB3.out.1.ext hE6) (And.intro (HB3.out.2.1.ext hE6) (HB3.out.2.2.ext hE6)))
    have hE4 : Ext w w' := hE3.trans (Ext.trans (Ext.drew _) hx)
    have hE5 : Ext w3 w' := Ext.trans (Ext.drew _) hx
    clear hnd
    simp only [fill, dstOf, List.getElem?_toArray, List.getElem?_cons_zero, List.getElem?_cons_succ, Option.bind_some, Act.put, List.setIfInBounds_toArray, List.set_cons_zero, List.set_cons_succ]
    obtain ⟨⟨⟨y0, y1, y2, y3, -⟩, ⟨z0, z1, z2, z3, -⟩, -⟩, ⟨p0, p1, -⟩, ⟨r0, r1, -⟩⟩ := HB4.out
    go_wp2_with fail
    exact ⟨rfl, Ext.refl _, rfl, (by first | trivial | (intro j u _ _; trivial))⟩
   ·refine PreOp.of _ _ rfl rfl rfl ?_
    intro vs' w' hx hnd
    have hE6 : Ext w3 w' := Ext.trans (Ext.drew _) hx
    have HB4 := Lib.hid (And.intro (HB3.out.1.ext hE6) (And.intro (HB3.out.2.1.ext hE6) (HB3.out.2.2.ext hE6)))
    have hE4 : Ext w w' := hE3.trans (Ext.trans (Ext.drew _) hx)
    have hE5 : Ext w3 w' := Ext.trans (Ext.drew _) hx
    have e1 : vs' 1 = .agg #[.bool false, .slice A n c] := hnd 1 (by kernel_rfl) (by omega)
    have e2 : vs' 2 = .agg #[.bool false, .slice A1 l1 c1] := hnd 2 (by kernel_rfl) (by omega)
    clear hnd
    simp only [fill, dstOf, List.getElem?_toArray, List.getElem?_cons_zero, List.getElem?_cons_succ, Option.bind_some, Act.put, List.setIfInBounds_toArray, List.set_cons_zero, List.set_cons_succ]
    rw [e1, e2]
    obtain ⟨⟨⟨y0, y1, y2, y3, -⟩, ⟨z0, z1, z2, z3, -⟩, -⟩, ⟨p0, p1, -⟩, ⟨r0, r1, -⟩⟩ := HB4.out
    go_wp2_with fail
    refine (HQ1.out _ hE5).mono ?_
    rintro e w4 ⟨v, rfl, ⟨u, rfl, hu⟩, hx4⟩
    go_wp2_with fail
    exact ⟨rfl, hx4, ⟨u, rfl, hu⟩, (by first | trivial | (intro j u _ _; trivial))⟩
   ·refine PreOp.of _ _ rfl rfl rfl ?_
    intro vs' w' hx hnd
    have hE6 : Ext w3 w' := Ext.trans (Ext.drew _) hx
    have HB4 := Lib.hid (And.intro (HB3.out.1.ext hE6) (And.intro (HB3.out.2.1.ext hE6) (HB3.out.2.2.ext hE6)))
    have hE4 : Ext w w' := hE3.trans (Ext.trans (Ext.drew _) hx)
    have hE5 : Ext w3 w' := Ext.trans (Ext.drew _) hx
    clear hnd
    simp only [fill, dstOf, List.getElem?_toArray, List.getElem?_cons_zero, List.getElem?_cons_succ, Option.bind_some, Act.put, List.setIfInBounds_toArray, List.set_cons_zero, List.set_cons_succ]
    obtain ⟨⟨⟨y0, y1, y2, y3, -⟩, ⟨z0, z1, z2, z3, -⟩, -⟩, ⟨p0, p1, -⟩, ⟨r0, r1, -⟩⟩ := HB4.out
    go_wp2_with fail
    exact ⟨rfl, Ext.refl _, rfl, (by first | trivial | (intro j u _ _; trivial))⟩
   ·refine PreOp.of _ _ rfl rfl rfl ?_
    intro vs' w' hx hnd
    have hE6 : Ext w3 w' := Ext.trans (Ext.drew _) hx
    have HB4 := Lib.hid (And.intro (HB3.out.1.ext hE6) (And.intro (HB3.out.2.1.ext hE6) (HB3.out.2.2.ext hE6)))
    have hE4 : Ext w w' := hE3.trans (Ext.trans (Ext.drew _) hx)
    have hE5 : Ext w3 w' := Ext.trans (Ext.drew _) hx
    have e4 : vs' 4 = .pointer (some ⟨w.heap.size + 1, 0, none⟩) := hnd 4 (by kernel_rfl) (by omega)
    clear hnd
    simp only [fill, dstOf, List.getElem?_toArray, List.getElem?_cons_zero, List.getElem?_cons_succ, Option.bind_some, Act.put, List.setIfInBounds_toArray, List.set_cons_zero, List.set_cons_succ]
    rw [e4]
    obtain ⟨⟨⟨y0, y1, y2, y3, -⟩, ⟨z0, z1, z2, z3, -⟩, -⟩, ⟨p0, p1, -⟩, ⟨r0, r1, -⟩⟩ := HB4.out
    go_wp2_with fail
    exact ⟨rfl, Ext.refl _, rfl, (by first | trivial | (intro j u _ _; trivial))⟩
   ·refine PreOp.of _ _ rfl rfl rfl ?_
    intro vs' w' hx hnd
    have hE6 : Ext w3 w' := Ext.trans (Ext.drew _) hx
    have HB4 := Lib.hid (And.intro (HB3.out.1.ext hE6) (And.intro (HB3.out.2.1.ext hE6) (HB3.out.2.2.ext hE6)))
    have hE4 : Ext w w' := hE3.trans (Ext.trans (Ext.drew _) hx)
    have hE5 : Ext w3 w' := Ext.trans (Ext.drew _) hx
    clear hnd
    simp only [fill, dstOf, List.getElem?_toArray, List.getElem?_cons_zero, List.getElem?_cons_succ, Option.bind_some, Act.put, List.setIfInBounds_toArray, List.set_cons_zero, List.set_cons_succ]
    obtain ⟨⟨⟨y0, y1, y2, y3, -⟩, ⟨z0, z1, z2, z3, -⟩, -⟩, ⟨p0, p1, -⟩, ⟨r0, r1, -⟩⟩ := HB4.out
    go_wp2_with fail
    exact ⟨rfl, Ext.refl _, rfl, (by first | trivial | (intro j u _ _; trivial))⟩
   ·refine PreOp.of _ _ rfl rfl rfl ?_
    intro vs' w' hx hnd
    have hE6 : Ext w3 w' := Ext.trans (Ext.drew _) hx
    have HB4 := Lib.hid (And.intro (HB3.out.1.ext hE6) (And.intro (HB3.out.2.1.ext hE6) (HB3.out.2.2.ext hE6)))
    have hE4 : Ext w w' := hE3.trans (Ext.trans (Ext.drew _) hx)
    have hE5 : Ext w3 w' := Ext.trans (Ext.drew _) hx
    have e5 : vs' 5 = .agg #[.bool false, .slice B m k] := hnd 5 (by kernel_rfl) (by omega)
    have e6 : vs' 6 = .agg #[.bool false, .slice A2 l2 c2] := hnd 6 (by kernel_rfl) (by omega)
    clear hnd
    simp only [fill, dstOf, List.getElem?_toArray, List.getElem?_cons_zero, List.getElem?_cons_succ, Option.bind_some, Act.put, List.setIfInBounds_toArray, List.set_cons_zero, List.set_cons_succ]
    rw [e5, e6]
    obtain ⟨⟨⟨y0, y1, y2, y3, -⟩, ⟨z0, z1, z2, z3, -⟩, -⟩, ⟨p0, p1, -⟩, ⟨r0, r1, -⟩⟩ := HB4.out
    go_wp2_with fail
    refine (HQ2.out _ hE5).mono ?_
    rintro e w4 ⟨v, rfl, ⟨u, rfl, hu⟩, hx4⟩
    go_wp2_with fail
    exact ⟨rfl, hx4, ⟨u, rfl, hu⟩, (by first | trivial | (intro j u _ _; trivial))⟩
   ·refine PreOp.of _ _ rfl rfl rfl ?_
    intro vs' w' hx hnd
    have hE6 : Ext w3 w' := Ext.trans (Ext.drew _) hx
    have HB4 := Lib.hid (And.intro (HB3.out.1.ext hE6) (And.intro (HB3.out.2.1.ext hE6) (HB3.out.2.2.ext hE6)))
    have hE4 : Ext w w' := hE3.trans (Ext.trans (Ext.drew _) hx)
    have hE5 : Ext w3 w' := Ext.trans (Ext.drew _) hx
    obtain ⟨v3, e3, g3⟩ := hnd 3 (by kernel_rfl) (by omega)
    obtain ⟨v7, e7, g7⟩ := hnd 7 (by kernel_rfl) (by omega)
    clear hnd
    simp only [fill, dstOf, List.getElem?_toArray, List.getElem?_cons_zero, List.getElem?_cons_succ, Option.bind_some, Act.put, List.setIfInBounds_toArray, List.set_cons_zero, List.set_cons_succ]
    rw [e3, e7]
    obtain ⟨⟨⟨y0, y1, y2, y3, -⟩, ⟨z0, z1, z2, z3, -⟩, -⟩, ⟨p0, p1, -⟩, ⟨r0, r1, -⟩⟩ := HB4.out
    go_wp2_with fail
    refine (mul_any g3 g7 HL.out.1 HL.out.2.1).mono ?_
    rintro e w4 ⟨v, rfl, ⟨u, rfl, hu⟩, hx4⟩
    go_wp2_with fail
    exact ⟨rfl, hx4, ⟨u, rfl, hu⟩, (by first | trivial | (intro j u _ _; trivial))⟩
   ·refine PreOp.of _ _ rfl rfl rfl ?_
    intro vs' w' hx hnd
    have hE6 : Ext w3 w' := Ext.trans (Ext.drew _) hx
    have HB4 := Lib.hid (And.intro (HB3.out.1.ext hE6) (And.intro (HB3.out.2.1.ext hE6) (HB3.out.2.2.ext hE6)))
    have hE4 : Ext w w' := hE3.trans (Ext.trans (Ext.drew _) hx)
    have hE5 : Ext w3 w' := Ext.trans (Ext.drew _) hx
    clear hnd
    simp only [fill, dstOf, List.getElem?_toArray, List.getElem?_cons_zero, List.getElem?_cons_succ, Option.bind_some, Act.put, List.setIfInBounds_toArray, List.set_cons_zero, List.set_cons_succ]
    obtain ⟨⟨⟨y0, y1, y2, y3, -⟩, ⟨z0, z1, z2, z3, -⟩, -⟩, ⟨p0, p1, -⟩, ⟨r0, r1, -⟩⟩ := HB4.out
    go_wp2_with fail
    exact ⟨rfl, Ext.refl _, rfl, (by first | trivial | (intro j u _ _; trivial))⟩
   ·refine PreOp.of _ _ rfl rfl rfl ?_
    intro vs' w' hx hnd
    have hE6 : Ext w3 w' := Ext.trans (Ext.drew _) hx
    have HB4 := Lib.hid (And.intro (HB3.out.1.ext hE6) (And.intro (HB3.out.2.1.ext hE6) (HB3.out.2.2.ext hE6)))
    have hE4 : Ext w w' := hE3.trans (Ext.trans (Ext.drew _) hx)
    have hE5 : Ext w3 w' := Ext.trans (Ext.drew _) hx
    have e9 : vs' 9 = .pointer (some ⟨w.heap.size, 2, none⟩) := hnd 9 (by kernel_rfl) (by omega)
    clear hnd
    simp only [fill, dstOf, List.getElem?_toArray, List.getElem?_cons_zero, List.getElem?_cons_succ, Option.bind_some, Act.put, List.setIfInBounds_toArray, List.set_cons_zero, List.set_cons_succ]
    rw [e9]
    obtain ⟨⟨⟨y0, y1, y2, y3, -⟩, ⟨z0, z1, z2, z3, -⟩, -⟩, ⟨p0, p1, -⟩, ⟨r0, r1, -⟩⟩ := HB4.out
    go_wp2_with fail
    exact ⟨rfl, Ext.refl _, rfl, (by first | trivial | (intro j u _ _; trivial))⟩
   ·refine PreOp.of _ _ rfl rfl rfl ?_
    intro vs' w' hx hnd
    have hE6 : Ext w3 w' := Ext.trans (Ext.drew _) hx
    have HB4 := Lib.hid (And.intro (HB3.out.1.ext hE6) (And.intro (HB3.out.2.1.ext hE6) (HB3.out.2.2.ext hE6)))
    have hE4 : Ext w w' := hE3.trans (Ext.trans (Ext.drew _) hx)
    have hE5 : Ext w3 w' := Ext.trans (Ext.drew _) hx
    clear hnd
    simp only [fill, dstOf, List.getElem?_toArray, List.getElem?_cons_zero, List.getElem?_cons_succ, Option.bind_some, Act.put, List.setIfInBounds_toArray, List.set_cons_zero, List.set_cons_succ]
    obtain ⟨⟨⟨y0, y1, y2, y3, -⟩, ⟨z0, z1, z2, z3, -⟩, -⟩, ⟨p0, p1, -⟩, ⟨r0, r1, -⟩⟩ := HB4.out
    go_wp2_with fail
    exact ⟨rfl, Ext.refl _, rfl, (by first | trivial | (intro j u _ _; trivial))⟩
   ·refine PreOp.of _ _ rfl rfl rfl ?_
    intro vs' w' hx hnd
    have hE6 : Ext w3 w' := Ext.trans (Ext.drew _) hx
    have HB4 := Lib.hid (And.intro (HB3.out.1.ext hE6) (And.intro (HB3.out.2.1.ext hE6) (HB3.out.2.2.ext hE6)))
    have hE4 : Ext w w' := hE3.trans (Ext.trans (Ext.drew _) hx)
    have hE5 : Ext w3 w' := Ext.trans (Ext.drew _) hx
    have e10 : vs' 10 = .agg #[.bool false, .slice A' n' c'] := hnd 10 (by kernel_rfl) (by omega)
    have e11 : vs' 11 = .agg #[.bool false, .slice A2 l2 c2] := hnd 11 (by kernel_rfl) (by omega)
    clear hnd
    simp only [fill, dstOf, List.getElem?_toArray, List.getElem?_cons_zero, List.getElem?_cons_succ, Option.bind_some, Act.put, List.setIfInBounds_toArray, List.set_cons_zero, List.set_cons_succ]
    rw [e10, e11]
    obtain ⟨⟨⟨y0, y1, y2, y3, -⟩, ⟨z0, z1, z2, z3, -⟩, -⟩, ⟨p0, p1, -⟩, ⟨r0, r1, -⟩⟩ := HB4.out
    go_wp2_with fail
    refine (HQ3.out _ hE5).mono ?_
    rintro e w4 ⟨v, rfl, ⟨u, rfl, hu⟩, hx4⟩
    go_wp2_with fail
    exact ⟨rfl, hx4, ⟨u, rfl, hu⟩, (by first | trivial | (intro j u _ _; trivial))⟩
   ·refine PreOp.of _ _ rfl rfl rfl ?_
    intro vs' w' hx hnd
    have hE6 : Ext w3 w' := Ext.trans (Ext.drew _) hx
    have HB4 := Lib.hid (And.intro (HB3.out.1.ext hE6) (And.intro (HB3.out.2.1.ext hE6) (HB3.out.2.2.ext hE6)))
    have hE4 : Ext w w' := hE3.trans (Ext.trans (Ext.drew _) hx)
    have hE5 : Ext w3 w' := Ext.trans (Ext.drew _) hx
    clear hnd
    simp only [fill, dstOf, List.getElem?_toArray, List.getElem?_cons_zero, List.getElem?_cons_succ, Option.bind_some, Act.put, List.setIfInBounds_toArray, List.set_cons_zero, List.set_cons_succ]
    obtain ⟨⟨⟨y0, y1, y2, y3, -⟩, ⟨z0, z1, z2, z3, -⟩, -⟩, ⟨p0, p1, -⟩, ⟨r0, r1, -⟩⟩ := HB4.out
    go_wp2_with fail
    exact ⟨rfl, Ext.refl _, rfl, (by first | trivial | (intro j u _ _; trivial))⟩
   ·refine PreOp.of _ _ rfl rfl rfl ?_
    intro vs' w' hx hnd
    have hE6 : Ext w3 w' := Ext.trans (Ext.drew _) hx
    have HB4 := Lib.hid (And.intro (HB3.out.1.ext hE6) (And.intro (HB3.out.2.1.ext hE6) (HB3.out.2.2.ext hE6)))
    have hE4 : Ext w w' := hE3.trans (Ext.trans (Ext.drew _) hx)
    have hE5 : Ext w3 w' := Ext.trans (Ext.drew _) hx
    have e13 : vs' 13 = .pointer (some ⟨w.heap.size + 1, 2, none⟩) := hnd 13 (by kernel_rfl) (by omega)
    clear hnd
    simp only [fill, dstOf, List.getElem?_toArray, List.getElem?_cons_zero, List.getElem?_cons_succ, Option.bind_some, Act.put, List.setIfInBounds_toArray, List.set_cons_zero, List.set_cons_succ]
    rw [e13]
    obtain ⟨⟨⟨y0, y1, y2, y3, -⟩, ⟨z0, z1, z2, z3, -⟩, -⟩, ⟨p0, p1, -⟩, ⟨r0, r1, -⟩⟩ := HB4.out
    go_wp2_with fail
    exact ⟨rfl, Ext.refl _, rfl, (by first | trivial | (intro j u _ _; trivial))⟩
   ·refine PreOp.of _ _ rfl rfl rfl ?_
    intro vs' w' hx hnd
    have hE6 : Ext w3 w' := Ext.trans (Ext.drew _) hx
    have HB4 := Lib.hid (And.intro (HB3.out.1.ext hE6) (And.intro (HB3.out.2.1.ext hE6) (HB3.out.2.2.ext hE6)))
    have hE4 : Ext w w' := hE3.trans (Ext.trans (Ext.drew _) hx)
    have hE5 : Ext w3 w' := Ext.trans (Ext.drew _) hx
    clear hnd
    simp only [fill, dstOf, List.getElem?_toArray, List.getElem?_cons_zero, List.getElem?_cons_succ, Option.bind_some, Act.put, List.setIfInBounds_toArray, List.set_cons_zero, List.set_cons_succ]
    obtain ⟨⟨⟨y0, y1, y2, y3, -⟩, ⟨z0, z1, z2, z3, -⟩, -⟩, ⟨p0, p1, -⟩, ⟨r0, r1, -⟩⟩ := HB4.out
    go_wp2_with fail
    exact ⟨rfl, Ext.refl _, rfl, (by first | trivial | (intro j u _ _; trivial))⟩
   ·refine PreOp.of _ _ rfl rfl rfl ?_
    intro vs' w' hx hnd
    have hE6 : Ext w3 w' := Ext.trans (Ext.drew _) hx
    have HB4 := Lib.hid (And.intro (HB3.out.1.ext hE6) (And.intro (HB3.out.2.1.ext hE6) (HB3.out.2.2.ext hE6)))
    have hE4 : Ext w w' := hE3.trans (Ext.trans (Ext.drew _) hx)
    have hE5 : Ext w3 w' := Ext.trans (Ext.drew _) hx
    have e14 : vs' 14 = .agg #[.bool false, .slice B' m' k'] := hnd 14 (by kernel_rfl) (by omega)
    have e15 : vs' 15 = .agg #[.bool false, .slice A1 l1 c1] := hnd 15 (by kernel_rfl) (by omega)
    clear hnd
    simp only [fill, dstOf, List.getElem?_toArray, List.getElem?_cons_zero, List.getElem?_cons_succ, Option.bind_some, Act.put, List.setIfInBounds_toArray, List.set_cons_zero, List.set_cons_succ]
    rw [e14, e15]
    obtain ⟨⟨⟨y0, y1, y2, y3, -⟩, ⟨z0, z1, z2, z3, -⟩, -⟩, ⟨p0, p1, -⟩, ⟨r0, r1, -⟩⟩ := HB4.out
    go_wp2_with fail
    refine (HQ4.out _ hE5).mono ?_
    rintro e w4 ⟨v, rfl, ⟨u, rfl, hu⟩, hx4⟩
    go_wp2_with fail
    exact ⟨rfl, hx4, ⟨u, rfl, hu⟩, (by first | trivial | (intro j u _ _; trivial))⟩
   ·refine PreOp.of _ _ rfl rfl rfl ?_
    intro vs' w' hx hnd
    have hE6 : Ext w3 w' := Ext.trans (Ext.drew _) hx
    have HB4 := Lib.hid (And.intro (HB3.out.1.ext hE6) (And.intro (HB3.out.2.1.ext hE6) (HB3.out.2.2.ext hE6)))
    have hE4 : Ext w w' := hE3.trans (Ext.trans (Ext.drew _) hx)
    have hE5 : Ext w3 w' := Ext.trans (Ext.drew _) hx
    obtain ⟨v12, e12, g12⟩ := hnd 12 (by kernel_rfl) (by omega)
    obtain ⟨v16, e16, g16⟩ := hnd 16 (by kernel_rfl) (by omega)
    clear hnd
    simp only [fill, dstOf, List.getElem?_toArray, List.getElem?_cons_zero, List.getElem?_cons_succ, Option.bind_some, Act.put, List.setIfInBounds_toArray, List.set_cons_zero, List.set_cons_succ]
    rw [e12, e16]
    obtain ⟨⟨⟨y0, y1, y2, y3, -⟩, ⟨z0, z1, z2, z3, -⟩, -⟩, ⟨p0, p1, -⟩, ⟨r0, r1, -⟩⟩ := HB4.out
    go_wp2_with fail
    refine (mul_any g12 g16 HL.out.2.2.1 HL.out.2.2.2).mono ?_
    rintro e w4 ⟨v, rfl, ⟨u, rfl, hu⟩, hx4⟩
    go_wp2_with fail
    exact ⟨rfl, hx4, ⟨u, rfl, hu⟩, (by first | trivial | (intro j u _ _; trivial))⟩
   ·refine PreOp.of _ _ rfl rfl rfl ?_
    intro vs' w' hx hnd
    have hE6 : Ext w3 w' := Ext.trans (Ext.drew _) hx
    have HB4 := Lib.hid (And.intro (HB3.out.1.ext hE6) (And.intro (HB3.out.2.1.ext hE6) (HB3.out.2.2.ext hE6)))
    have hE4 : Ext w w' := hE3.trans (Ext.trans (Ext.drew _) hx)
    have hE5 : Ext w3 w' := Ext.trans (Ext.drew _) hx
    obtain ⟨v8, e8, g8⟩ := hnd 8 (by kernel_rfl) (by omega)
    obtain ⟨v17, e17, g17⟩ := hnd 17 (by kernel_rfl) (by omega)
    clear hnd
    simp only [fill, dstOf, List.getElem?_toArray, List.getElem?_cons_zero, List.getElem?_cons_succ, Option.bind_some, Act.put, List.setIfInBounds_toArray, List.set_cons_zero, List.set_cons_succ]
    rw [e8, e17]
    obtain ⟨⟨⟨y0, y1, y2, y3, -⟩, ⟨z0, z1, z2, z3, -⟩, -⟩, ⟨p0, p1, -⟩, ⟨r0, r1, -⟩⟩ := HB4.out
    go_wp2_with fail
    exact ⟨rfl, Ext.refl _, ⟨v8, v17, rfl, g8, g17⟩, (by first | trivial | (intro j u _ _; trivial))⟩
  ·intro vs' w4 hx4 hP hD
   obtain ⟨u, u', e18, hu, hu'⟩ := hP 18 (by omega)
   clear hP hD
   have HB4 := Lib.hid (HB3.out.1.2.2.ext (Ext.trans (Ext.drew _) hx4))
   have hE4 : Ext w w4 := hE3.trans (Ext.trans (Ext.drew _) hx4)
   obtain ⟨A3, c3, rfl, hc3, hc3'⟩ := hu.form
   obtain ⟨A4, c4, rfl, hc4, hc4'⟩ := hu'.form
   have HU := Lib.hid (And.intro hu hu')
   clear hu hu'
   generalize (limbs (a / Nat.gcd a e * (b / Nat.gcd b d))).length = l3 at *
   generalize (limbs (d / Nat.gcd b d * (e / Nat.gcd a e))).length = l4 at *
   simp only [fill, dstOf, List.getElem?_toArray, List.getElem?_cons_zero, List.getElem?_cons_succ, Option.bind_some, Act.put, List.setIfInBounds_toArray, List.set_cons_zero, List.set_cons_succ]
   rw [e18]
   show wpList _ _ _ (List.cons _ List.nil) _ _
   clear e18 hx4
   obtain ⟨y0, y1, y2, y3, f0, f1, f2, f3, -, hNW⟩ := HB4.out
   have HNW := Lib.hid hNW
   clear hNW
   go_wp2_with fail
   refine bodyPost_ret ?_ rfl ⟨_, rfl, ⟨.slice A3 l3 c3, .slice A4 l4 c4, rfl, ?_, ?_⟩, ?_⟩
   ·simp [results, Tryz.results251, go_sem, y0, y1, y2, y3]
   ·exact (((HU.out.1.box HNW.out _ _).box (HNW.out.set_ _ (by simp)) _ _).box ((HNW.out.set_ _ (by simp)).set_ _ (by simp)) _ _).box (((HNW.out.set_ _ (by simp)).set_ _ (by simp)).set_ _ (by simp)) _ _
   ·exact (((HU.out.2.box HNW.out _ _).box (HNW.out.set_ _ (by simp)) _ _).box ((HNW.out.set_ _ (by simp)).set_ _ (by simp)) _ _).box (((HNW.out.set_ _ (by simp)).set_ _ (by simp)).set_ _ (by simp)) _ _
   ·exact (((hE4.pset (by simp <;> omega) _).pset (by simp <;> omega) _).pset (by simp <;> omega) _).pset (by simp <;> omega) _
end Go.Proofs.YtceobmnljdhkmaaGreatDoor
namespace Go.Proofs.YtceobmnljdhkmaaGreatDoor
open Go Go.RowKit
/-- The number of decimal digits, none for zero. -/
def ndig (n : Nat) : Nat := if h : n = 0 then 0 else ndig (n / 10) + 1
termination_by n
decreasing_by omega
theorem ndig_zero : ndig 0 = 0 := by rw [ndig]; simp
theorem ndig_pos {n : Nat} (h : n ≠ 0) : ndig n = ndig (n / 10) + 1 := by rw [ndig]; simp [h]
theorem ref01_Same {v v' : Value} {a b : Nat} {w : World} (h : Words w v (limbs a)) (h' : Words w v' (limbs b)) :
  Calls Tryz.prog 249 #[.agg #[.bool false, v], .agg #[.bool false, v']] w fun e w' => e = .returned (.bool (decide (a = b))) ∧ Ext w w' := by
 obtain ⟨A, c, rfl, hl, hm⟩ := h.form
 obtain ⟨A', c', rfl, hl', hm'⟩ := h'.form
 have HC := Lib.hid (fun w1 (hx : Ext w w1) => ref01_compare (h.ext hx) (h'.ext hx))
 have HV := Lib.hid (cmpW_limbs a b)
 generalize (limbs a).length = n at *
 generalize (limbs b).length = m at *
 clear h h'
 go_enter Tryz.func249, Tryz.ntmps249
 go_wp2_with fail
 refine (HC.out _ (by repeat first|exact xA _|assumption|refine xB ?_ _|refine xC ?_|refine xD ?_ _|refine xE ?_ (by simp <;> omega) _|refine xF ?_ (by assumption))).mono ?_
 rintro e w1 ⟨rfl, hx1⟩
 rw [HV.out]
 have hz : ((if a < b then (-1 : Int) else if b < a then 1 else 0) == 0) = decide (a = b) := by
  by_cases h1 : a < b
  ·have h2 : a ≠ b := by omega
   simp [h1, h2]
  ·by_cases h2 : b < a
   ·have h3 : a ≠ b := by omega
    simp [h1, h2, h3]
   ·have h3 : a = b := by omega
    subst h3; simp
 generalize (if a < b then (-1 : Int) else if b < a then 1 else 0) = z at hz ⊢
 have HZ := Lib.hid hz
 clear hz
 go_wp2_with fail
 rw [HZ.out]
 refine bodyPost_ret ?_ rfl ⟨rfl, ?_⟩
 ·simp [results, Tryz.results249, go_sem]
 ·exact (by repeat first|exact xA _|assumption|refine xB ?_ _|refine xC ?_|refine xD ?_ _|refine xE ?_ (by simp <;> omega) _|refine xF ?_ (by assumption))
theorem bytes_empty (s : ByteArray) : s.toList.isEmpty = decide (s.size = 0) := by
 rw [ByteArray.toList_eq]
 have h : s.size = s.data.toList.length := by rw [Array.length_toList]; rfl
 rw [h]
 cases s.data.toList with
 | nil => rfl
 | cons x l => simp
theorem byte_string (W : World) (z : Int) : (convert 276 9 (.slice (some ⟨W.heap.size, 0, none⟩) 1 1)).run Tryz.prog (W.alloc (.cells #[.int .u8 z] 5)) = .ok (.string (strOfNums [z])) (W.alloc (.cells #[.int .u8 z] 5)) :=
 run_convert_bytes_arg _ 276 5 Tryz.underlying276 Tryz.underlying5 _ 0 1 1 [z] rfl (fun i hi => by
  have : i = 0 := by omega
  subst this
  simp [go_sem]) _ Tryz.underlying9
set_option maxRecDepth 100000 in
set_option maxHeartbeats 1600000 in
theorem ref01_Format {v : Value} {a : Nat} {w : World} (h : Words w v (limbs a)) (hnd : ndig a ≤ 1000000000) :
  Calls Tryz.prog 250 #[.agg #[.bool false, v]] w fun e w' => (∃ s, e = .returned (.string s) ∧ s.size = max 1 (ndig a)) ∧ Ext w w' := by
 obtain ⟨A, c, rfl, hl, hm⟩ := h.form
 have HND := Lib.hid hnd
 clear hnd
 have hN := fun w1 (hx : Ext w w1) => ref01_Norm false (h.ext hx)
 rw [trimL_limbs, Bool.false_and] at hN
 have HN := Lib.hid hN
 have H := Lib.hid h
 have HB := Lib.hid (BoxI.new w false (.slice A (limbs a).length c) 55 (by simp))
 clear h hN
 generalize (limbs a).length = n at *
 go_enter Tryz.func250, Tryz.ntmps250
 go_wp2_with fail
 refine (HN.out _ (by repeat first|exact xA _|assumption|refine xB ?_ _|refine xC ?_|refine xD ?_ _|refine xE ?_ (by simp <;> omega) _|refine xF ?_ (by assumption))).mono ?_
 rintro e w1 ⟨rfl, hx1⟩
 have hE1 : Ext w w1 := (by repeat first|exact xA _|assumption|refine xB ?_ _|refine xC ?_|refine xD ?_ _|refine xE ?_ (by simp <;> omega) _|refine xF ?_ (by assumption))
 have HB1 := Lib.hid (HB.out.ext hx1)
 obtain ⟨y0, y1, y2, y3, -⟩ := HB1.out
 clear HB HN
 go_wp2_with fail
 rw [setCell_id (by rw [World.cell?_setCell_other _ _ _ _ (by simp)]; exact y1), setCell_id y0]
 go_loopg [3, 4] a (fun p x y wr => ∃ s : ByteArray, x = .string s ∧ Hid (s.size + ndig p = ndig a) ∧ Hid (Words wr y (limbs p)) ∧ Ext w1 wr)
 case atStart => exact ⟨_, rfl, (by show 0 + ndig a = ndig a; omega), H.out.ext hE1, Ext.refl _⟩
 case round =>
  obtain ⟨s, rfl, hs, HP, hE⟩ := hrel
  obtain ⟨A1, c1, rfl, hl1, hm1⟩ := HP.out.form
  by_cases h0 : 0 < gk
  ·have hlen : 0 < (limbs gk).length := by rw [limbs_pos (by omega)]; simp
   have hD := ref01_by (n := 10) HP.out (by omega) (by omega)
   rw [val_limbs] at hD
   have HD := Lib.hid hD
   clear hD
   generalize (limbs gk).length = lk at *
   go_wp2_with fail
   refine HD.out.mono ?_
   rintro e w2 ⟨v, rfl, ⟨v1, rfl, hv1⟩, hx2⟩
   have hr : gk % 10 < 10 := Nat.mod_lt _ (by omega)
   generalize gk % 10 = r at *
   have HV1 := Lib.hid hv1
   clear hv1 HD
   have kc := byte_string
   have hsz1 : (strOfNums [48 + (r : Int)]).size = 1 := strOfNums_size _
   have hsz : s.size ≤ 1000000000 := by have := hs.out; have := HND.out; omega
   go_wp2_with fail
   go_roundg (gk / 10)
   case measure => omega
   case rel => exact ⟨_, rfl, (by have := hs.out; rw [ndig_pos (by omega)] at this; show (_ ++ s : ByteArray).size + _ = _; rw [ByteArray.size_append, hsz1]; omega), HV1.out.ext (Ext.alloc _ _), (hE.trans hx2).trans (Ext.alloc _ _)⟩
  ·obtain rfl : gk = 0 := by omega
   have hlen : (limbs 0).length = 0 := by rw [limbs_zero]; rfl
   rw [hlen] at *
   have HS : Hid (s.size = ndig a) := by have := hs.out; rw [ndig_zero] at this; exact this
   clear hs hlen
   obtain ⟨hbc, -⟩ := bcell hE
   have hc0 := hbc w.heap.size 0 HB1.out.2.2.2.2.1
   rw [y0] at hc0
   have hse := bytes_empty s
   by_cases hs0 : s.size = 0
   ·have hse : s.toList.isEmpty = true := by rw [hse]; simpa using hs0
    go_wp2_with fail
    refine bodyPost_ret (v := .string ⟨#[48]⟩) ?_ rfl ⟨⟨_, rfl, ?_⟩, hE1.trans hE⟩
    ·simp [results, Tryz.results250, go_sem]
    ·have := HS.out; show 1 = _; omega
   ·have hse : s.toList.isEmpty = false := by rw [hse]; simpa using hs0
    go_wp2_with fail
    refine bodyPost_ret (v := .string s) ?_ rfl ⟨⟨_, rfl, ?_⟩, hE1.trans hE⟩
    ·simp [results, Tryz.results250, go_sem]
    ·have := HS.out; omega
end Go.Proofs.YtceobmnljdhkmaaGreatDoor
namespace Go.Proofs.YtceobmnljdhkmaaGreatDoor
open Go Go.RowKit
def decLen (n p : Nat) : Nat := max (max 1 (ndig n)) (p + 1) + (if p = 0 then 0 else 1)
def decFrom : Nat → Nat → Nat → Nat → Bool
 | 0, _, _, _ => false
 | r + 1, p, n, d => if d = 1 then decide (decLen n p ≤ 40) else decFrom r (p + 1) (n * (10 / Nat.gcd 10 d)) (d / Nat.gcd 10 d)
def QI.dec (q : QI) : Bool := q.ok && decide (0 ≤ q.num.sgn) && decFrom 41 0 (val q.num.mag) (val q.den.mag)
theorem ndig_le {n k : Nat} (h : n < 10 ^ k) : ndig n ≤ k := by
 induction k generalizing n with
 | zero => have : n = 0 := by simpa using h
           subst this; rw [ndig_zero]; omega
 | succ k ih =>
  by_cases h0 : n = 0
  ·subst h0; rw [ndig_zero]; omega
  ·rw [ndig_pos h0]
   have : n / 10 < 10 ^ k := by rw [Nat.pow_succ] at h; omega
   have := ih this; omega
theorem ndig_limbs (n : Nat) : ndig n ≤ 10 * (limbs n).length := by
 apply ndig_le
 have h1 := val_lt (limb_limbs n)
 rw [val_limbs] at h1
 calc n < 4294967296 ^ (limbs n).length := h1
  _ ≤ (10 ^ 10) ^ (limbs n).length := Nat.pow_le_pow_left (by decide) _
  _ = 10 ^ (10 * (limbs n).length) := by rw [Nat.pow_mul]
theorem limbs_mul_small (n k : Nat) (hk : k < 4294967296) : (limbs (n * k)).length ≤ (limbs n).length + 1 := by
 apply limbs_length_le
 have h1 := val_lt (limb_limbs n)
 rw [val_limbs] at h1
 rw [Nat.pow_succ]
 exact Nat.mul_lt_mul'' h1 hk
theorem ten_div (d : Nat) : 0 < 10 / Nat.gcd 10 d ∧ 10 / Nat.gcd 10 d ≤ 10 := by
 have h1 := Nat.gcd_le_left d (show 0 < 10 by omega)
 have h2 := Nat.gcd_pos_of_pos_left d (show 0 < 10 by omega)
 exact ⟨Nat.div_pos h1 h2, Nat.div_le_self _ _⟩
theorem den_div {d : Nat} (hd : 0 < d) : 0 < d / Nat.gcd 10 d ∧ d / Nat.gcd 10 d ≤ d :=
 ⟨Nat.div_pos (Nat.gcd_le_right 10 hd) (Nat.gcd_pos_of_pos_right 10 hd), Nat.div_le_self _ _⟩
/-- ref02.Mul by 10. -/
theorem mul_ten {u v u' v' : Value} {a d : Nat} {w : World} (h1 : Words w u (limbs a)) (h2 : Words w v (limbs d)) (h3 : Words w u' (limbs 10)) (h4 : Words w v' (limbs 1)) (hd : 1 < d) (ha : 0 < a) (hl : (limbs a).length ≤ 22000000) (hl' : (limbs d).length ≤ 22000000) :
  Calls Tryz.prog 251 #[.agg #[.bool false, u, .bool false, v], .agg #[.bool false, u', .bool false, v']] w
   (Ret w fun r w' => ∃ u v, r = .agg #[.bool false, u, .bool false, v] ∧ Words w' u (limbs (a * (10 / Nat.gcd 10 d))) ∧ Words w' v (limbs (d / Nat.gcd 10 d))) := by
 obtain ⟨A1, c1, rfl, -, -⟩ := h1.form
 obtain ⟨A2, c2, rfl, -, -⟩ := h2.form
 obtain ⟨A3, c3, rfl, -, -⟩ := h3.form
 obtain ⟨A4, c4, rfl, -, -⟩ := h4.form
 have e1 : (limbs 10).length ≤ 22000000 := by have := limbs_length_le (n := 10) (k := 1) (by omega); omega
 have e2 : (limbs 1).length ≤ 22000000 := by have := limbs_length_le (n := 1) (k := 1) (by omega); omega
 have := ref02_Mul h1 h2 h3 h4 hd ha (by omega) hl hl' e1 e2
 simp only [Nat.gcd_one_right, Nat.div_one, Nat.mul_one] at this
 exact this
end Go.Proofs.YtceobmnljdhkmaaGreatDoor
namespace Go.Proofs.YtceobmnljdhkmaaGreatDoor
open Go Go.RowKit
/-- A store of a rational number into a box. -/
def putQ (w : World) (g : Nat) (s : Bool) (u : Value) (t : Bool) (v : Value) : World := (((w.setCell ⟨g, 0, none⟩ (.bool s)).setCell ⟨g, 1, none⟩ u).setCell ⟨g, 2, none⟩ (.bool t)).setCell ⟨g, 3, none⟩ v
theorem cell_putQ {w : World} {g b o : Nat} (s : Bool) (u : Value) (t : Bool) (v : Value) (h : b ≠ g) : (putQ w g s u t v).cell? ⟨b, o, none⟩ = w.cell? ⟨b, o, none⟩ := by
 have e : ∀ (w : World) i x, (w.setCell ⟨g, i, none⟩ x).cell? ⟨b, o, none⟩ = w.cell? ⟨b, o, none⟩ := fun w i x => World.cell?_setCell_other _ _ _ _ (by intro e; injection e with e1 _ _; exact h e1.symm)
 unfold putQ
 rw [e, e, e, e]
theorem BoxQ.put {w : World} {g : Nat} {s t : Bool} {u v : Value} (h : BoxQ w g s u t v) (s' t' : Bool) {u' v' : Value} (hu : ∀ n, u' ≠ .int .u32 n) (hv : ∀ n, v' ≠ .int .u32 n) : BoxQ (putQ w g s' u' t' v') g s' u' t' v' := by
 obtain ⟨h0, h1, h2, h3, f0, f1, f2, f3, h4, h5⟩ := h
 unfold putQ
 refine ⟨?_, ?_, ?_, ?_, ?_, ?_, ?_, ?_, ?_, ?_⟩
 ·rw [World.cell?_setCell_other _ _ _ _ (by simp), World.cell?_setCell_other _ _ _ _ (by simp), World.cell?_setCell_other _ _ _ _ (by simp)]
  exact World.cell?_setCell_same _ _ _ h0
 ·rw [World.cell?_setCell_other _ _ _ _ (by simp), World.cell?_setCell_other _ _ _ _ (by simp)]
  exact World.cell?_setCell_same _ _ _ ((World.cell?_setCell_other _ _ _ _ (by simp)).trans h1)
 ·rw [World.cell?_setCell_other _ _ _ _ (by simp)]
  exact World.cell?_setCell_same _ _ _ ((World.cell?_setCell_other _ _ _ _ (by simp)).trans ((World.cell?_setCell_other _ _ _ _ (by simp)).trans h2))
 ·exact World.cell?_setCell_same _ _ _ ((World.cell?_setCell_other _ _ _ _ (by simp)).trans ((World.cell?_setCell_other _ _ _ _ (by simp)).trans ((World.cell?_setCell_other _ _ _ _ (by simp)).trans h3)))
 ·simpa [go_sem] using f0
 ·simpa [go_sem] using f1
 ·simpa [go_sem] using f2
 ·simpa [go_sem] using f3
 ·simpa [World.setCell] using h4
 ·exact (((h5.set_ 0 (by simp)).set_ 1 hu).set_ 2 (by simp)).set_ 3 hv
theorem BoxQ.farQ {w : World} {g h : Nat} {s t : Bool} {u v : Value} (hb : BoxQ w g s u t v) (hne : g ≠ h) (s' t' : Bool) (x y : Value) : BoxQ (putQ w h s' x t' y) g s u t v := by
 obtain ⟨h0, h1, h2, h3, f0, f1, f2, f3, h4, h5⟩ := hb
 refine ⟨(cell_putQ _ _ _ _ hne).trans h0, (cell_putQ _ _ _ _ hne).trans h1, (cell_putQ _ _ _ _ hne).trans h2, (cell_putQ _ _ _ _ hne).trans h3, ?_, ?_, ?_, ?_, ?_, fun j n => by rw [cell_putQ _ _ _ _ hne]; exact h5 j n⟩
 ·simpa [putQ, go_sem] using f0
 ·simpa [putQ, go_sem] using f1
 ·simpa [putQ, go_sem] using f2
 ·simpa [putQ, go_sem] using f3
 ·simpa [putQ, World.setCell] using h4
theorem BoxI.farQ {w : World} {g h : Nat} {s : Bool} {u : Value} (hb : BoxI w g s u) (hne : g ≠ h) (s' t' : Bool) (x y : Value) : BoxI (putQ w h s' x t' y) g s u := by
 obtain ⟨h0, h1, f0, f1, h4, h5⟩ := hb
 refine ⟨(cell_putQ _ _ _ _ hne).trans h0, (cell_putQ _ _ _ _ hne).trans h1, ?_, ?_, ?_, fun j n => by rw [cell_putQ _ _ _ _ hne]; exact h5 j n⟩
 ·simpa [putQ, go_sem] using f0
 ·simpa [putQ, go_sem] using f1
 ·simpa [putQ, World.setCell] using h4
theorem Words.putQ {w : World} {g : Nat} {s t : Bool} {u v x : Value} {xs : List Nat} (h : Words w x xs) (hb : BoxQ w g s u t v) (s' t' : Bool) (u' v' : Value) (hu : ∀ n, u' ≠ .int .u32 n) : Words (putQ w g s' u' t' v') x xs := by
 obtain ⟨_, _, _, _, _, _, _, _, _, hn⟩ := hb
 exact (((h.box hn _ _).box (hn.set_ _ (by simp)) _ _).box ((hn.set_ _ (by simp)).set_ _ hu) _ _).box (((hn.set_ _ (by simp)).set_ _ hu).set_ _ (by simp)) _ _
theorem Ext.putQ {w w' : World} (h : Ext w w') {g : Nat} (hg : w.heap.size ≤ g) (s t : Bool) (u v : Value) : Ext w (putQ w' g s u t v) :=
 (((h.pset (by simpa using hg) _).pset (by simpa using hg) _).pset (by simpa using hg) _).pset (by simpa using hg) _
theorem dec_ok {n d : Nat} (hg : Nat.gcd n d = 1) (hd : 0 < d) : QI.ok ⟨⟨false, limbs n⟩, ⟨false, limbs d⟩⟩ = true := by
 have h1 : 0 < (limbs d).length := by rw [limbs_pos (by omega)]; simp
 have h2 : limbs d ≠ [] := by intro e; rw [e] at h1; simp at h1
 simp [QI.ok, ZI.ok, ZI.sgn, trimL_limbs, val_limbs, hg, sgnW, h2]
theorem dec_sgn (n : Nat) : ¬ ((⟨false, limbs n⟩ : ZI).sgn < 0) := by
 simp only [ZI.sgn, sgnW]
 split
 ·omega
 ·split
  ·rename_i h; cases h
  ·omega
set_option maxRecDepth 100000 in
set_option maxHeartbeats 3200000 in
theorem decimal_main {v v' : Value} {n d : Nat} {w : World} (h : Words w v (limbs n)) (h' : Words w v' (limbs d)) (hg : Nat.gcd n d = 1) (hd : 0 < d) (hl : (limbs n).length ≤ 1100000) (hl' : (limbs d).length ≤ 1100000) :
  Calls Tryz.prog 196 #[.agg #[.bool false, v, .bool false, v']] w fun e w' => (∃ s, e = .returned (.tuple #[.string s, .bool (decFrom 41 0 n d)])) ∧ Ext w w' := by
 obtain ⟨A, c, rfl, hc, hc'⟩ := h.form
 obtain ⟨B, k, rfl, hk, hk'⟩ := h'.form
 have hV := fun w1 (hx : Ext w w1) => ref02_Valid (q := ⟨⟨false, limbs n⟩, ⟨false, limbs d⟩⟩) (h.ext hx) (h'.ext hx) (by simp only; omega) (by simp only; omega)
 rw [dec_ok hg hd] at hV
 have HV := Lib.hid hV
 have HS := Lib.hid (fun w1 (hx : Ext w w1) => ref02_Sign (q := ⟨⟨false, limbs n⟩, ⟨false, limbs d⟩⟩) (v' := .slice B (limbs d).length k) (h.ext hx))
 have hZ := dec_sgn n
 have HBX := Lib.hid (BoxQ.new w false false (.slice A (limbs n).length c) (.slice B (limbs d).length k) 57 (by simp) (by simp))
 have HH := Lib.hid (And.intro h h')
 have HG := Lib.hid hg
 have HL := Lib.hid (And.intro hl hl')
 clear h h' hV hg hl hl'
 generalize (limbs n).length = ln at *
 generalize (limbs d).length = ld at *
 generalize (⟨false, limbs n⟩ : ZI).sgn = z at *
 go_enter Tryz.func196, Tryz.ntmps196
 go_wp2_with fail
 refine (HV.out _ (by repeat first|exact xA _|assumption|refine xB ?_ _|refine xC ?_|refine xD ?_ _|refine xE ?_ (by simp <;> omega) _|refine xF ?_ (by assumption))).mono ?_
 rintro e w1 ⟨rfl, hx1⟩
 have HBX1 := Lib.hid (HBX.out.ext hx1)
 have hE1 : Ext w w1 := (by repeat first|exact xA _|assumption|refine xB ?_ _|refine xC ?_|refine xD ?_ _|refine xE ?_ (by simp <;> omega) _|refine xF ?_ (by assumption))
 clear HBX HV
 obtain ⟨y0, y1, y2, y3, -⟩ := HBX1.out
 go_wp2_with fail
 refine (HS.out _ (by repeat first|exact xA _|assumption|refine xB ?_ _|refine xC ?_|refine xD ?_ _|refine xE ?_ (by simp <;> omega) _|refine xF ?_ (by assumption))).mono ?_
 rintro e w2 ⟨rfl, hx2⟩
 have HBX2 := Lib.hid (HBX1.out.ext hx2)
 have hE2 : Ext w w2 := hE1.trans hx2
 clear HBX1 HS y0 y1 y2 y3
 go_wp2_with fail
 refine (ref02_FromInt 10 (by omega) _).mono ?_
 rintro e w3 ⟨x, rfl, ⟨u1, u2, rfl, hu1, hu2⟩, hx3⟩
 obtain ⟨A1, c1, rfl, hl1, hm1⟩ := hu1.form
 obtain ⟨A2, c2, rfl, hl2, hm2⟩ := hu2.form
 have HU := Lib.hid (And.intro hu1 hu2)
 have hx3' : Ext w2 w3 := hx3
 have hE3 : Ext w w3 := hE2.trans hx3'
 have HBX3 := Lib.hid (HBX2.out.ext hx3')
 clear hu1 hu2 hx3 hx3' hx1 hx2 hE1 hE2 HBX2
 generalize (limbs 10).length = la at *
 generalize (limbs 1).length = lb at *
 go_wp2_with fail
 have HB4 := Lib.hid (BoxQ.new w3 false false (.slice A1 la c1) (.slice A2 lb c2) 57 (by simp) (by simp))
 have hE34 := Ext.alloc w3 (.cells #[.bool false, .slice A1 la c1, .bool false, .slice A2 lb c2] 57)
 have HW4 := Lib.hid (And.intro (HU.out.1.ext hE34) (HU.out.2.ext hE34))
 have hs4 : (w3.alloc (.cells #[.bool false, .slice A1 la c1, .bool false, .slice A2 lb c2] 57)).heap.size = w3.heap.size + 1 := by simp
 generalize w3.alloc (.cells #[.bool false, .slice A1 la c1, .bool false, .slice A2 lb c2] 57) = w4 at *
 clear HU
 refine (ref01_FromInt 1 (by omega) _).mono ?_
 rintro e w5 ⟨x, rfl, ⟨u5, rfl, hu5⟩, hx5⟩
 obtain ⟨A5, c5, rfl, hl5, hm5⟩ := hu5.form
 have HU5 := Lib.hid hu5
 have hx5' : Ext w4 w5 := hx5
 have hE5 : Ext w w5 := (hE3.trans hE34).trans hx5'
 have HBX5 := Lib.hid (HBX3.out.ext (hE34.trans hx5'))
 have HB5 := Lib.hid (HB4.out.ext hx5')
 have HW5 := Lib.hid (And.intro (HW4.out.1.ext hx5') (HW4.out.2.ext hx5'))
 have hb4 : w.heap.size ≤ w3.heap.size := hE3.size
 have hb5 : w3.heap.size < w5.heap.size := by have := hx5'.size; omega
 clear hu5 hx5 hx5' HBX3 HB4 HW4 hE34 hs4 hE3
 generalize w3.heap.size = b4 at *
 generalize (limbs 1).length = lc at *
 have hE56 := Ext.alloc w5 (.cells #[.bool false, .slice A5 lc c5] 55)
 have hE67 := Ext.alloc (w5.alloc (.cells #[.bool false, .slice A5 lc c5] 55)) (.cells #[.bool false, .slice A ln c, .bool false, .slice B ld k] 57)
 obtain ⟨y0, y1, y2, y3, -⟩ := HBX5.out.ext hE56
 have hE57 := hE56.trans hE67
 have hE7 := hE5.trans hE57
 have HB7 := Lib.hid (HB5.out.ext hE57)
 have HI7 := Lib.hid ((BoxI.new w5 false (.slice A5 lc c5) 55 (by simp)).ext hE67)
 have HX7 := Lib.hid (BoxQ.new (w5.alloc (.cells #[.bool false, .slice A5 lc c5] 55)) false false (.slice A ln c) (.slice B ld k) 57 (by simp) (by simp))
 have HW7 := Lib.hid (And.intro (HW5.out.1.ext hE57) (And.intro (HW5.out.2.ext hE57) (And.intro (HU5.out.ext hE57) (And.intro (HH.out.1.ext hE7) (HH.out.2.ext hE7)))))
 rw [World.size_alloc] at HX7
 go_wp2_with fail
 clear hE56 hE67 y0 y1 y2 y3 HB5 HU5 HW5 HBX5 hE5 hE57 HH
 generalize (w5.alloc (.cells #[.bool false, .slice A5 lc c5] 55)).alloc (.cells #[.bool false, .slice A ln c, .bool false, .slice B ld k] 57) = w7 at *
 generalize w5.heap.size = b5 at *
 have HMD : Hid (n = 0 → d = 1) := fun h => by have := HG.out; rw [h, Nat.gcd_zero_left] at this; exact this
 go_loopg [7] 41 (fun gk x wr => ∃ (p m e : Nat) (u v : Value), x = .int .i64 (p : Int) ∧ p + gk = 41 ∧ Hid (BoxQ wr (b5 + 1) false u false v) ∧ Hid (Words wr u (limbs m)) ∧ Hid (Words wr v (limbs e)) ∧
  Hid (BoxQ wr b4 false (.slice A1 la c1) false (.slice A2 lb c2)) ∧ Hid (BoxI wr b5 false (.slice A5 lc c5)) ∧ Hid (Words wr (.slice A1 la c1) (limbs 10)) ∧ Hid (Words wr (.slice A2 lb c2) (limbs 1)) ∧ Hid (Words wr (.slice A5 lc c5) (limbs 1)) ∧
  0 < e ∧ Hid (m = 0 → e = 1) ∧ Hid ((limbs m).length ≤ 1100000 + p) ∧ Hid ((limbs e).length ≤ 1100000) ∧ Hid (decFrom gk p m e = decFrom 41 0 n d) ∧ Ext w wr)
 case atStart => exact ⟨0, n, d, _, _, rfl, by omega, HX7, HW7.out.2.2.2.1, HW7.out.2.2.2.2, HB7, HI7, HW7.out.1, HW7.out.2.1, HW7.out.2.2.1, hd, HMD, (by show _ ≤ _; have := HW7.out.2.2.2.1.len.1; have := HL.out.1; omega), (by show _ ≤ _; have := HW7.out.2.2.2.2.len.1; have := HL.out.2; omega), rfl, hE7⟩
 case round =>
  obtain ⟨p, m, e, u, v, rfl, hp, HQ, HU, HVV, HT, HO, HT1, HT2, HO1, he, HM, HLM, HLE, HDF, hE⟩ := hrel
  obtain ⟨A6, c6, rfl, hl6, hm6⟩ := HU.out.form
  obtain ⟨A7, c7, rfl, hl7, hm7⟩ := HVV.out.form
  generalize (limbs m).length = lm at *
  generalize (limbs e).length = le at *
  match gk, hp, HDF with
  | 0, hp, HDF =>
   have hp : p = 41 := by omega
   subst hp
   go_wp2_with fail
   have hdf : false = decFrom 41 0 n d := HDF.out
   refine bodyPost_ret (v := .tuple #[.string ⟨#[]⟩, .bool false]) ?_ rfl ⟨⟨_, by rw [← hdf]⟩, hE⟩
   simp [results, Tryz.results196, go_sem]
  | g + 1, hp, HDF =>
   have hp1 : p ≤ 40 := by omega
   obtain ⟨y0, y1, y2, y3, f0, f1, f2, f3, -⟩ := HQ.out
   obtain ⟨z0, z1, -⟩ := HO.out
   obtain ⟨x0, x1, x2, x3, -⟩ := HT.out
   by_cases he1 : e = 1
   ·have hS := ref01_Same HVV.out HO1.out
    rw [decide_eq_true he1] at hS
    have HS := Lib.hid hS
    clear hS
    go_wp2_with fail
    refine HS.out.mono ?_
    rintro e' wa ⟨rfl, hxa⟩
    have hEa := hE.trans hxa
    have HF := Lib.hid (ref01_Format (HU.out.ext hxa) (by have := ndig_limbs m; have := HU.out.len.1; have := HLM.out; omega))
    have HQa := Lib.hid (HQ.out.ext hxa)
    have HNM : Hid (ndig m ≤ 22000000) := by show _ ≤ _; have := ndig_limbs m; have := HU.out.len.1; have := HLM.out; omega
    clear y0 y1 y2 y3 f0 f1 f2 f3 z0 z1 x0 x1 x2 x3 HS HO HT HT1 HT2 HO1 HQ
    obtain ⟨y0, y1, y2, y3, f0, f1, f2, f3, -⟩ := HQa.out
    go_wp2_with fail
    refine HF.out.mono ?_
    rintro e' wb ⟨⟨s, rfl, hs⟩, hxb⟩
    have hEb := hEa.trans hxb
    have HSS := Lib.hid hs
    have hdf : decide (decLen m p ≤ 40) = decFrom 41 0 n d := by have := HDF.out; rw [decFrom, if_pos he1] at this; exact this
    have HDD := Lib.hid hdf
    clear hs hdf HDF HF HQa hxa hxb hEa hE y0 y1 y2 y3 f0 f1 f2 f3
    go_wp2_with fail
    go_loopg [8] (p + 1 - s.size) (fun g2 x wr2 => ∃ t : ByteArray, x = .string t ∧ Hid (g2 = p + 1 - t.size) ∧ Hid (max t.size (p + 1) = max s.size (p + 1)) ∧ wr2 = wb)
    case atStart => exact ⟨s, rfl, rfl, rfl, rfl⟩
    case round =>
     obtain ⟨t, rfl, HG2, HMX, rfl⟩ := hrel
     have hts : t.size ≤ 44000000 := by have := HMX.out; have := HSS.out; have := HNM.out; omega
     by_cases htp : t.size ≤ p
     ·have hz1 : (ByteArray.mk #[48]).size = 1 := rfl
      go_wp2_with fail
      go_roundg (p - t.size)
      case measure => have := HG2.out; omega
      case rel =>
       refine ⟨_, rfl, ?_, ?_, rfl⟩
       ·show p - t.size = p + 1 - (_ ++ t : ByteArray).size
        rw [ByteArray.size_append, hz1]; omega
       ·show max (_ ++ t : ByteArray).size (p + 1) = _
        rw [← HMX.out, ByteArray.size_append, hz1]; omega
     ·have HTS : Hid (t.size = max (max 1 (ndig m)) (p + 1)) := by show _ = _; have := HMX.out; have := HSS.out; omega
      rcases Nat.eq_zero_or_pos p with hp0 | hp0
      ·have HP0 := Lib.hid hp0
       have hpn : ¬ (0 < p) := by omega
       clear hp0
       go_wp2_with fail
       refine bodyPost_ret (v := .tuple #[.string t, .bool (decide ((t.size : Int) ≤ 40))]) ?_ rfl ⟨⟨t, ?_⟩, hEb⟩
       ·simp [results, Tryz.results196, go_sem]
       ·rw [← HDD.out]
        have e1 : decLen m p = t.size := by rw [HTS.out, decLen, if_pos HP0.out, Nat.add_zero]
        have e2 : decide ((t.size : Int) ≤ 40) = decide (decLen m p ≤ 40) := by rw [e1]; apply decide_eq_decide.2; omega
        rw [e2]
      ·have HP0 := Lib.hid hp0
       have hsub1 : ¬ ((t.size : Int) - (p : Int) < 0) := by omega
       have hsub2 : (t.size : Int) - (p : Int) ≤ t.size := by omega
       have HS2 : Hid ((t.extract 0 (t.size - p) ++ ⟨#[46]⟩ ++ t.extract (t.size - p) t.size).size = t.size + 1) := by
        show _ = _
        rw [ByteArray.size_append, ByteArray.size_append, ByteArray.size_extract, ByteArray.size_extract]
        have : (ByteArray.mk #[46]).size = 1 := rfl
        omega
       go_wp2_with fail
       go_region
       generalize t.extract 0 (t.size - p) ++ ⟨#[46]⟩ ++ t.extract (t.size - p) t.size = t2 at *
       have hs2 : t2.size ≤ 66000000 := by have := HS2.out; omega
       go_wp2_with fail
       refine bodyPost_ret (v := .tuple #[.string t2, .bool (decide ((t2.size : Int) ≤ 40))]) ?_ rfl ⟨⟨t2, ?_⟩, hEb.trans (Ext.drew _)⟩
       ·simp [results, Tryz.results196, go_sem]
       ·rw [← HDD.out]
        have e1 : decLen m p = t2.size := by have := HP0.out; rw [HS2.out, HTS.out, decLen, if_neg (by omega)]
        have e2 : decide ((t2.size : Int) ≤ 40) = decide (decLen m p ≤ 40) := by rw [e1]; apply decide_eq_decide.2; omega
        rw [e2]
   ·have hS := ref01_Same HVV.out HO1.out
    rw [decide_eq_false he1] at hS
    have HS := Lib.hid hS
    clear hS
    have hm0 : 0 < m := by
     rcases Nat.eq_zero_or_pos m with h0 | h0
     ·exact absurd (HM.out h0) he1
     ·exact h0
    go_wp2_with fail
    refine HS.out.mono ?_
    rintro e' wa ⟨rfl, hxa⟩
    have hEa := hE.trans hxa
    have HK := Lib.hid (mul_ten (HU.out.ext hxa) (HVV.out.ext hxa) (HT1.out.ext hxa) (HT2.out.ext hxa) (by omega) hm0 (by have := HU.out.len.1; have := HLM.out; omega) (by have := HVV.out.len.1; have := HLE.out; omega))
    have HALL := Lib.hid (And.intro (HQ.out.ext hxa) (And.intro (HT.out.ext hxa) (And.intro (HO.out.ext hxa) (And.intro (HT1.out.ext hxa) (And.intro (HT2.out.ext hxa) (HO1.out.ext hxa))))))
    clear y0 y1 y2 y3 f0 f1 f2 f3 z0 z1 x0 x1 x2 x3 HS HO HT HT1 HT2 HO1 HQ
    obtain ⟨⟨y0, y1, y2, y3, f0, f1, f2, f3, -⟩, ⟨x0, x1, x2, x3, -⟩, -⟩ := HALL.out
    go_wp2_with fail
    refine HK.out.mono ?_
    rintro e' wb ⟨x, rfl, ⟨ua, va, rfl, hua, hva⟩, hxb⟩
    obtain ⟨A8, c8, rfl, hl8, hm8⟩ := hua.form
    obtain ⟨A9, c9, rfl, hl9, hm9⟩ := hva.form
    have HUV := Lib.hid (And.intro hua hva)
    have hxb' : Ext wa wb := hxb
    have hEb := hEa.trans hxb'
    have HALb := Lib.hid (And.intro (HALL.out.1.ext hxb') (And.intro (HALL.out.2.1.ext hxb') (And.intro (HALL.out.2.2.1.ext hxb') (And.intro (HALL.out.2.2.2.1.ext hxb') (And.intro (HALL.out.2.2.2.2.1.ext hxb') (HALL.out.2.2.2.2.2.ext hxb'))))))
    clear hua hva hxb hxb' HALL HK y0 y1 y2 y3 f0 f1 f2 f3 x0 x1 x2 x3 hxa hEa hE
    generalize hg8 : (limbs (m * (10 / Nat.gcd 10 e))).length = l8 at *
    generalize hg9 : (limbs (e / Nat.gcd 10 e)).length = l9 at *
    have HG8 := Lib.hid hg8
    have HG9 := Lib.hid hg9
    clear hg8 hg9
    obtain ⟨⟨y0, y1, y2, y3, f0, f1, f2, f3, -⟩, -⟩ := HALb.out
    go_wp2_with fail
    go_roundg g
    case measure => omega
    case rel =>
     obtain ⟨b1, b2, b3, b4', b5', b6⟩ := HALb.out
     obtain ⟨t1, t2⟩ := ten_div e
     obtain ⟨d1, d2⟩ := den_div he
     refine ⟨p + 1, m * (10 / Nat.gcd 10 e), e / Nat.gcd 10 e, .slice A8 l8 c8, .slice A9 l9 c9, by simp, by omega, b1.put false false (by simp) (by simp), HUV.out.1.putQ b1 false false _ _ (by simp), HUV.out.2.putQ b1 false false _ _ (by simp),
      b2.farQ (by omega) _ _ _ _, b3.farQ (by omega) _ _ _ _, b4'.putQ b1 false false _ _ (by simp), b5'.putQ b1 false false _ _ (by simp), b6.putQ b1 false false _ _ (by simp), d1, ?_, ?_, ?_, ?_, hEb.putQ (by omega) _ _ _ _⟩
     ·intro h0
      have : 0 < m * (10 / Nat.gcd 10 e) := Nat.mul_pos hm0 t1
      omega
     ·show _ ≤ _
      have h1 := limbs_mul_small m (10 / Nat.gcd 10 e) (by omega)
      have h2 := HU.out.len.1
      have h3 := HLM.out
      omega
     ·show _ ≤ _
      have h1 := limbs_length_mono d2
      have h2 := HVV.out.len.1
      have h3 := HLE.out
      omega
     ·have := HDF.out; rw [decFrom, if_neg he1] at this; exact this
end Go.Proofs.YtceobmnljdhkmaaGreatDoor
namespace Go.Proofs.YtceobmnljdhkmaaGreatDoor
open Go Go.RowKit
theorem trimL_of_length {xs : List Nat} (h : (trimL xs).length = xs.length) (hL : Limb xs) : limbs (val xs) = xs := by
 apply limbs_val_of_trim hL
 rw [trimL_prefix, h, List.take_length]
theorem dec_parts {s t : Bool} {xs ys : List Nat} (hok : QI.ok ⟨⟨s, xs⟩, ⟨t, ys⟩⟩ = true) (hL : Limb xs) (hL' : Limb ys) : limbs (val xs) = xs ∧ limbs (val ys) = ys ∧ t = false ∧ 0 < val ys ∧ Nat.gcd (val xs) (val ys) = 1 ∧ ((⟨s, xs⟩ : ZI).sgn < 0 ∨ s = false) := by
 simp only [QI.ok, ZI.ok, ZI.sgn, Bool.and_eq_true, decide_eq_true_eq, Bool.or_eq_true, Bool.not_eq_true'] at hok ⊢
 obtain ⟨⟨⟨⟨a1, a2⟩, ⟨b1, b2⟩⟩, c0⟩, d1⟩ := hok
 have c1 : 0 < sgnW t (trimL ys).length := of_decide_eq_true c0
 have e1 := trimL_of_length a1 hL
 have e2 := trimL_of_length b1 hL'
 have c2 : ¬ ((trimL ys).length = 0) ∧ t = false := by
  by_cases h1 : (trimL ys).length = 0
  ·rw [sgnW, if_pos h1] at c1; exact absurd c1 (by decide)
  ·refine ⟨h1, ?_⟩
   cases t with
   | false => rfl
   | true => rw [sgnW, if_neg h1, if_pos rfl] at c1; exact absurd c1 (by decide)
 refine ⟨e1, e2, c2.2, ?_, d1, ?_⟩
 ·rcases Nat.eq_zero_or_pos (val ys) with h0 | h0
  ·rw [h0, limbs_zero] at e2
   rw [← e2] at c2
   simp [trimL] at c2
  ·exact h0
 ·cases s with
  | false => exact .inr rfl
  | true =>
   left
   rw [a1]
   have h0 : ¬ xs.length = 0 := by
    rcases a2 with h | h
    ·cases h
    ·omega
   rw [sgnW, if_neg h0, if_pos rfl]; decide
set_option maxRecDepth 100000 in
set_option maxHeartbeats 1600000 in
theorem ref22_Decimal {q : QI} {v v' : Value} {w : World} (h : Words w v q.num.mag) (h' : Words w v' q.den.mag) (hx : q.num.mag.length ≤ 1100000) (hy : q.den.mag.length ≤ 1100000) :
  Calls Tryz.prog 196 #[.agg #[.bool q.num.neg, v, .bool q.den.neg, v']] w fun e w' => (∃ s, e = .returned (.tuple #[.string s, .bool q.dec])) ∧ Ext w w' := by
 obtain ⟨⟨s, xs⟩, ⟨t, ys⟩⟩ := q
 simp only at h h' hx hy ⊢
 cases hok : QI.ok ⟨⟨s, xs⟩, ⟨t, ys⟩⟩ with
 | false =>
  have HD : Hid (false = QI.dec ⟨⟨s, xs⟩, ⟨t, ys⟩⟩) := by show _ = _; rw [QI.dec, hok]; rfl
  have hV := fun w1 (hx' : Ext w w1) => ref02_Valid (q := ⟨⟨s, xs⟩, ⟨t, ys⟩⟩) (h.ext hx') (h'.ext hx') (by simp only; omega) (by simp only; omega)
  rw [hok] at hV
  have HV := Lib.hid hV
  obtain ⟨A, c, rfl, hc, hc'⟩ := h.form
  obtain ⟨B, k, rfl, hk, hk'⟩ := h'.form
  clear h h' hV hok
  generalize xs.length = n at *
  generalize ys.length = m at *
  go_enter Tryz.func196, Tryz.ntmps196
  go_wp2_with fail
  refine (HV.out _ (by repeat first|exact xA _|assumption|refine xB ?_ _|refine xC ?_|refine xD ?_ _|refine xE ?_ (by simp <;> omega) _|refine xF ?_ (by assumption))).mono ?_
  rintro e w1 ⟨rfl, hx1⟩
  go_wp2_with fail
  refine bodyPost_ret (v := .tuple #[.string ⟨#[]⟩, .bool false]) ?_ rfl ⟨⟨_, by rw [← HD.out]⟩, (by repeat first|exact xA _|assumption|refine xB ?_ _|refine xC ?_|refine xD ?_ _|refine xE ?_ (by simp <;> omega) _|refine xF ?_ (by assumption))⟩
  simp [results, Tryz.results196, go_sem]
 | true =>
  obtain ⟨e1, e2, rfl, hd, hg, hs⟩ := dec_parts hok h.limb h'.limb
  rcases hs with hs | rfl
  ·have HD : Hid (false = QI.dec ⟨⟨s, xs⟩, ⟨false, ys⟩⟩) := by
    show _ = _
    have : decide (0 ≤ (⟨s, xs⟩ : ZI).sgn) = false := decide_eq_false (by omega)
    rw [QI.dec, hok]; simp only [this]; rfl
   have hV := fun w1 (hx' : Ext w w1) => ref02_Valid (q := ⟨⟨s, xs⟩, ⟨false, ys⟩⟩) (h.ext hx') (h'.ext hx') (by simp only; omega) (by simp only; omega)
   rw [hok] at hV
   have HV := Lib.hid hV
   have HS := Lib.hid (fun w1 (hx : Ext w w1) => ref02_Sign (q := ⟨⟨s, xs⟩, ⟨false, ys⟩⟩) (v' := v') (h.ext hx))
   obtain ⟨A, c, rfl, hc, hc'⟩ := h.form
   obtain ⟨B, k, rfl, hk, hk'⟩ := h'.form
   have HBX := Lib.hid (BoxQ.new w s false (.slice A xs.length c) (.slice B ys.length k) 57 (by simp) (by simp))
   clear h h' hV hok e1 e2 hg
   generalize xs.length = n at *
   generalize ys.length = m at *
   generalize (⟨s, xs⟩ : ZI).sgn = z at *
   go_enter Tryz.func196, Tryz.ntmps196
   go_wp2_with fail
   refine (HV.out _ (by repeat first|exact xA _|assumption|refine xB ?_ _|refine xC ?_|refine xD ?_ _|refine xE ?_ (by simp <;> omega) _|refine xF ?_ (by assumption))).mono ?_
   rintro e w1 ⟨rfl, hx1⟩
   obtain ⟨y0, y1, y2, y3, -⟩ := HBX.out.ext hx1
   have hE1 : Ext w w1 := (by repeat first|exact xA _|assumption|refine xB ?_ _|refine xC ?_|refine xD ?_ _|refine xE ?_ (by simp <;> omega) _|refine xF ?_ (by assumption))
   go_wp2_with fail
   refine (HS.out _ (by repeat first|exact xA _|assumption|refine xB ?_ _|refine xC ?_|refine xD ?_ _|refine xE ?_ (by simp <;> omega) _|refine xF ?_ (by assumption))).mono ?_
   rintro e w2 ⟨rfl, hx2⟩
   go_wp2_with fail
   refine bodyPost_ret (v := .tuple #[.string ⟨#[]⟩, .bool false]) ?_ rfl ⟨⟨_, by rw [← HD.out]⟩, hE1.trans hx2⟩
   simp [results, Tryz.results196, go_sem]
  ·have hdec : QI.dec ⟨⟨false, xs⟩, ⟨false, ys⟩⟩ = decFrom 41 0 (val xs) (val ys) := by
    have := dec_sgn (val xs)
    rw [e1] at this
    have : decide (0 ≤ (⟨false, xs⟩ : ZI).sgn) = true := decide_eq_true (by omega)
    rw [QI.dec, hok]; simp only [this]; rfl
   rw [hdec]
   have h1 := h
   have h1' := h'
   rw [← e1] at h1
   rw [← e2] at h1'
   exact decimal_main h1 h1' hg hd (by rw [e1]; exact hx) (by rw [e2]; exact hy)
end Go.Proofs.YtceobmnljdhkmaaGreatDoor
namespace Go.Proofs.YtceobmnljdhkmaaGreatDoor
open Go Go.RowKit
def isLetter (z : Int) : Bool := decide (97 ≤ z) && decide (z ≤ 122) || decide (65 ≤ z) && decide (z ≤ 90)
def isDigit (z : Int) : Bool := decide (48 ≤ z) && decide (z ≤ 57)
def isWord (z : Int) : Bool := isLetter z || isDigit z || decide (z = 95)
def byteAt (s : ByteArray) (i : Nat) : Int := if h : i < s.size then (s[i].toNat : Int) else 0
theorem byteAt_eq {s : ByteArray} {i : Nat} (h : i < s.size) : (s[i].toNat : Int) = byteAt s i := by simp [byteAt, h]
/-- Where the letters, digits and underscores from a place on end. -/
def wordEnd (s : ByteArray) (i : Nat) : Nat := if h : i < s.size then if isWord (byteAt s i) then wordEnd s (i + 1) else i else i
termination_by s.size - i
def isName (s : ByteArray) : Bool := decide (s.size ≠ 0) && decide (s.size ≤ 24) && isLetter (byteAt s 0) && decide (wordEnd s 0 = s.size)
theorem ref21_digit (z : Int) (w : World) : Calls Tryz.prog 304 #[.int .u8 z] w fun e w' => e = .returned (.bool (isDigit z)) ∧ w = w' := by
 by_cases h1 : 48 ≤ z
 ·have H : Hid (isDigit z = decide (z ≤ 57)) := by show _ = _; simp [isDigit, h1]
  go_enter Tryz.func304, Tryz.ntmps304
  go_wp2_with fail
  refine bodyPost_ret ?_ rfl ⟨by rw [H.out], rfl⟩
  simp [results, Tryz.results304, go_sem]
 ·have H : Hid (isDigit z = false) := by show _ = _; simp [isDigit, h1]
  go_enter Tryz.func304, Tryz.ntmps304
  go_wp2_with fail
  refine bodyPost_ret ?_ rfl ⟨by rw [H.out], rfl⟩
  simp [results, Tryz.results304, go_sem]
theorem ref21_letter (z : Int) (w : World) : Calls Tryz.prog 303 #[.int .u8 z] w fun e w' => e = .returned (.bool (isLetter z)) ∧ w = w' := by
 by_cases h1 : 97 ≤ z <;> by_cases h2 : z ≤ 122 <;> by_cases h3 : 65 ≤ z <;> by_cases h4 : z ≤ 90 <;> try (exfalso; omega)
 all_goals
  have H : Hid (isLetter z = (decide (97 ≤ z) && decide (z ≤ 122) || decide (65 ≤ z) && decide (z ≤ 90))) := rfl
  simp only [h1, h2, h3, h4, decide_true, decide_false, Bool.and_self, Bool.and_true, Bool.and_false, Bool.or_true, Bool.or_false, Bool.or_self] at H
  go_enter Tryz.func303, Tryz.ntmps303
  go_wp2_with fail
  refine bodyPost_ret ?_ rfl ⟨by rw [H.out], rfl⟩
  simp [results, Tryz.results303, go_sem]
set_option maxHeartbeats 800000 in
theorem ref21_word {s : ByteArray} {w : World} (h0 : 0 < s.size) (h1 : s.size ≤ 24) : Calls Tryz.prog 252 #[.string s, .int .i64 0] w fun e w' => e = .returned (.int .i64 ((if isLetter (byteAt s 0) then wordEnd s 0 else 0 : Nat) : Int)) ∧ w = w' := by
 have hne : ((0 : Int) == (s.size : Int)) = false := by simp; omega
 have hb := byteAt_eq h0
 generalize (s[0].toNat : Int) = z at hb
 cases hL : isLetter (byteAt s 0) with
 | false =>
  have H := fun w => ref21_letter (s[0].toNat : Int) w
  rw [byteAt_eq h0, hL] at H
  have HL := Lib.hid H
  clear hL H hb
  rw [← byteAt_eq h0] at HL
  go_enter Tryz.func252, Tryz.ntmps252
  go_wp2_with fail
  refine (HL.out _).mono ?_
  rintro e w1 ⟨rfl, rfl⟩
  go_wp2_with fail
  refine bodyPost_ret ?_ rfl ⟨rfl, rfl⟩
  simp [results, Tryz.results252, go_sem]
 | true =>
  have H := fun w => ref21_letter (s[0].toNat : Int) w
  rw [byteAt_eq h0, hL] at H
  have HL := Lib.hid H
  clear hL H hb
  rw [← byteAt_eq h0] at HL
  go_enter Tryz.func252, Tryz.ntmps252
  go_wp2_with fail
  refine (HL.out _).mono ?_
  rintro e w1 ⟨rfl, rfl⟩
  go_wp2_with fail
  go_loopg [1] s.size (fun gk x wr => ∃ p : Nat, x = .int .i64 (p : Int) ∧ p + gk = s.size ∧ Hid (wordEnd s p = wordEnd s 0) ∧ wr = w)
  case atStart => exact ⟨0, rfl, by omega, rfl, rfl⟩
  case round =>
   obtain ⟨p, rfl, hp, HE, rfl⟩ := hrel
   by_cases hps : p < s.size
   ·have H1 := Lib.hid (fun w => ref21_letter (s[p].toNat : Int) w)
    have H2 := Lib.hid (fun w => ref21_digit (s[p].toNat : Int) w)
    have hW : wordEnd s p = if isWord (byteAt s p) then wordEnd s (p + 1) else p := by rw [wordEnd, dif_pos hps]
    have hI : isWord (byteAt s p) = (isLetter (s[p].toNat : Int) || isDigit (s[p].toNat : Int) || decide ((s[p].toNat : Int) = 95)) := by rw [isWord, byteAt_eq hps]
    rw [hI] at hW
    have HW := Lib.hid hW
    clear hW hI
    go_wp2_with fail
    refine (H1.out _).mono ?_
    rintro e w1 ⟨rfl, rfl⟩
    cases hl : isLetter (s[p].toNat : Int) with
    | true =>
     have HE' : Hid (wordEnd s (p + 1) = wordEnd s 0) := by have := HW.out; rw [hl] at this; simp at this; exact this.symm.trans HE.out
     clear hl HW
     go_wp2_with fail
     go_roundg (gk - 1)
     case measure => omega
     case rel => exact ⟨p + 1, by simp, by omega, HE', rfl⟩
    | false =>
     rw [hl] at HW
     clear hl
     go_wp2_with fail
     refine (H2.out _).mono ?_
     rintro e w1 ⟨rfl, rfl⟩
     cases hl : isDigit (s[p].toNat : Int) with
     | true =>
      have HE' : Hid (wordEnd s (p + 1) = wordEnd s 0) := by have := HW.out; rw [hl] at this; simp at this; exact this.symm.trans HE.out
      clear hl HW
      go_wp2_with fail
      go_roundg (gk - 1)
      case measure => omega
      case rel => exact ⟨p + 1, by simp, by omega, HE', rfl⟩
     | false =>
      rw [hl] at HW
      clear hl
      by_cases h95 : (s[p].toNat : Int) = 95
      ·have HE' : Hid (wordEnd s (p + 1) = wordEnd s 0) := by have := HW.out; rw [decide_eq_true h95] at this; simp at this; exact this.symm.trans HE.out
       clear HW
       have h95' : ((s[p].toNat : Int) == 95) = true := by simpa using h95
       clear h95
       go_wp2_with fail
       go_roundg (gk - 1)
       case measure => omega
       case rel => exact ⟨p + 1, by simp, by omega, HE', rfl⟩
      ·have HE' : Hid (p = wordEnd s 0) := by have := HW.out; rw [decide_eq_false h95] at this; simp at this; exact this.symm.trans HE.out
       clear HW
       have h95' : ((s[p].toNat : Int) == 95) = false := by simpa using h95
       clear h95
       go_wp2_with fail
       refine bodyPost_ret (v := .int .i64 (p : Int)) ?_ rfl ⟨by rw [← HE'.out], rfl⟩
       simp [results, Tryz.results252, go_sem]
   ·have HE' : Hid (p = wordEnd s 0) := by have := HE.out; rw [wordEnd, dif_neg hps] at this; exact this
    go_wp2_with fail
    refine bodyPost_ret (v := .int .i64 (p : Int)) ?_ rfl ⟨by rw [← HE'.out], rfl⟩
    simp [results, Tryz.results252, go_sem]
theorem ref21_IsName (s : ByteArray) (w : World) (hsz : s.size ≤ 230000000) : Calls Tryz.prog 197 #[.string s] w fun e w' => e = .returned (.bool (isName s)) ∧ w = w' := by
 by_cases h0 : s.size = 0
 ·have HE : Hid (isName s = false) := by show _ = _; simp [isName, h0]
  have hse : s.toList.isEmpty = true := by rw [bytes_empty]; simpa using h0
  go_enter Tryz.func197, Tryz.ntmps197
  go_wp2_with fail
  refine bodyPost_ret ?_ rfl ⟨by rw [HE.out], rfl⟩
  simp [results, Tryz.results197, go_sem]
 ·have hse : s.toList.isEmpty = false := by rw [bytes_empty]; simpa using h0
  by_cases h1 : s.size ≤ 24
  ·have HW := Lib.hid (fun w => ref21_word (w := w) (by omega : 0 < s.size) h1)
   have hN : isName s = (((if isLetter (byteAt s 0) = true then wordEnd s 0 else 0 : Nat) : Int) == (s.size : Int)) := by
    cases hl : isLetter (byteAt s 0) with
    | true =>
     simp only [isName, hl, if_true, ne_eq, h0, not_false_eq_true, decide_true, Bool.true_and, h1]
     apply Bool.eq_iff_iff.2
     simp
     omega
    | false =>
     simp only [isName, hl, Bool.and_false, Bool.false_and, Bool.false_eq_true, if_false]
     symm
     simp
     omega
   have HN := Lib.hid hN
   clear hN
   generalize (if isLetter (byteAt s 0) = true then wordEnd s 0 else 0 : Nat) = z at *
   go_enter Tryz.func197, Tryz.ntmps197
   go_wp2_with fail
   refine (HW.out _).mono ?_
   rintro e w1 ⟨rfl, rfl⟩
   go_wp2_with fail
   refine bodyPost_ret (v := .bool ((z : Int) == (s.size : Int))) ?_ rfl ⟨by rw [HN.out], rfl⟩
   simp [results, Tryz.results197, go_sem]
  ·have HE : Hid (isName s = false) := by show _ = _; simp [isName, h1]
   go_enter Tryz.func197, Tryz.ntmps197
   go_wp2_with fail
   refine bodyPost_ret ?_ rfl ⟨by rw [HE.out], rfl⟩
   simp [results, Tryz.results197, go_sem]
end Go.Proofs.YtceobmnljdhkmaaGreatDoor
namespace Go.Proofs.YtceobmnljdhkmaaGreatDoor
open Go Go.RowKit
/-- An expression, whatever its fields are. -/
inductive EI where
 | mk (op : Int) (val : QI) (name : ByteArray) (args : List EI)
def EI.op : EI → Int | .mk o _ _ _ => o
def EI.value : EI → QI | .mk _ q _ _ => q
def EI.name : EI → ByteArray | .mk _ _ s _ => s
def EI.args : EI → List EI | .mk _ _ _ l => l
/-- How an expression of at most some depth lies in memory. -/
def ExprR : Nat → World → List Value → EI → Prop
 | 0, _, _, _ => False
 | k + 1, w, cs, e => ∃ u v sl, cs = [.int .i64 e.op, .bool e.value.num.neg, u, .bool e.value.den.neg, v, .string e.name, sl] ∧ Words w u e.value.num.mag ∧ Words w v e.value.den.mag ∧ SliceAt 7 (ExprR k) w sl e.args
theorem ExprR.stable : ∀ k, Stable (ExprR k)
 | 0 => fun _ _ _ _ _ h => h
 | k + 1 => fun w w' cs e hx => by
  rintro ⟨u, v, sl, h1, h2, h3, h4⟩
  exact ⟨u, v, sl, h1, h2.ext hx, h3.ext hx, h4.ext (ExprR.stable k) hx⟩
/-- A block's first cells. -/
def CellsAt (w : World) (g : Nat) (cs : List Value) : Prop := g < w.heap.size ∧ ∀ i v, cs[i]? = some v → w.cell? ⟨g, i, none⟩ = some v
theorem CellsAt.ext {w w' : World} {g : Nat} {cs : List Value} (h : CellsAt w g cs) (hx : Ext w w') : CellsAt w' g cs :=
 ⟨Nat.lt_of_lt_of_le h.1 hx.size, fun i v hi => (hx.cell (p := ⟨g, i, none⟩) h.1).trans (h.2 i v hi)⟩
theorem CellsAt.new (w : World) (cs : List Value) (T : TypeId) : CellsAt (w.alloc (.cells cs.toArray T)) w.heap.size cs :=
 ⟨by simp, fun i v hi => by simp [go_sem, hi]⟩
theorem CellsAt.seven {w : World} {g : Nat} {a b c d e f h : Value} (k : CellsAt w g [a, b, c, d, e, f, h]) :
  w.cell? ⟨g, 0, none⟩ = some a ∧ w.cell? ⟨g, 1, none⟩ = some b ∧ w.cell? ⟨g, 2, none⟩ = some c ∧ w.cell? ⟨g, 3, none⟩ = some d ∧ w.cell? ⟨g, 4, none⟩ = some e ∧ w.cell? ⟨g, 5, none⟩ = some f ∧ w.cell? ⟨g, 6, none⟩ = some h :=
 ⟨k.2 0 _ rfl, k.2 1 _ rfl, k.2 2 _ rfl, k.2 3 _ rfl, k.2 4 _ rfl, k.2 5 _ rfl, k.2 6 _ rfl⟩
def zeroQ (q : QI) : Bool := !q.num.neg && !q.den.neg && decide (q.num.mag.length = 0) && decide (q.den.mag.length = 0)
def shapeOf (op : Int) (q : QI) (s : ByteArray) (n : Nat) : Bool :=
 if op = 1 then q.dec && (decide (s.size = 0) || isName s) && decide (n = 0)
 else if op = 2 then zeroQ q && isName s && decide (n = 0)
 else if op = 3 then zeroQ q && decide (s.size = 0) && decide (n = 1)
 else if op = 4 ∨ op = 5 ∨ op = 6 ∨ op = 7 then zeroQ q && decide (s.size = 0) && decide (n = 2)
 else false
set_option maxRecDepth 100000 in
set_option maxHeartbeats 3200000 in
theorem ref22_shape {op : Int} {q : QI} {s : ByteArray} {A : Option Addr} {n c : Nat} {u v : Value} {w : World} (h : Words w u q.num.mag) (h' : Words w v q.den.mag) (hx : q.num.mag.length ≤ 1100000) (hy : q.den.mag.length ≤ 1100000) (hs : s.size ≤ 230000000) :
  Calls Tryz.prog 154 #[.agg #[.int .i64 op, .bool q.num.neg, u, .bool q.den.neg, v, .string s, .slice A n c]] w fun e w' => e = .returned (.bool (shapeOf op q s n)) ∧ Ext w w' := by
 obtain ⟨A1, c1, rfl, hc1, hc1'⟩ := h.form
 obtain ⟨A2, c2, rfl, hc2, hc2'⟩ := h'.form
 have HD := Lib.hid (fun w1 (hx' : Ext w w1) => ref22_Decimal (q := q) (h.ext hx') (h'.ext hx') hx hy)
 clear h h'
 have HZ : Hid (zeroQ q = (!q.num.neg && !q.den.neg && decide (q.num.mag.length = 0) && decide (q.den.mag.length = 0))) := rfl
 have HS : Hid (shapeOf op q s n = (if op = 1 then q.dec && (decide (s.size = 0) || isName s) && decide (n = 0)
 else if op = 2 then zeroQ q && isName s && decide (n = 0)
 else if op = 3 then zeroQ q && decide (s.size = 0) && decide (n = 1)
 else if op = 4 ∨ op = 5 ∨ op = 6 ∨ op = 7 then zeroQ q && decide (s.size = 0) && decide (n = 2)
 else false)) := rfl
 generalize q.num.mag.length = l1 at *
 generalize q.den.mag.length = l2 at *
 generalize q.num.neg = b1 at *
 generalize q.den.neg = b2 at *
 generalize zeroQ q = zq at *
 go_enter Tryz.func154, Tryz.ntmps154
 go_upto_region 1 with fail
 go_cut [3] (fun x wx => x = .bool zq ∧ wx = w.alloc (.cells #[.int .i64 op, .bool b1, .slice A1 l1 c1, .bool b2, .slice A2 l2 c2, .string s, .slice A n c] 86))
 case first =>
  have k1 : ((l1 : Int) == 0) = decide (l1 = 0) := by apply Bool.eq_iff_iff.2; simp
  have k2 : ((l2 : Int) == 0) = decide (l2 = 0) := by apply Bool.eq_iff_iff.2; simp
  generalize decide (l1 = 0) = z1 at *
  generalize decide (l2 = 0) = z2 at *
  cases b1
  all_goals cases b2
  all_goals cases z1
  all_goals cases z2
  all_goals go_wp2_with fail
  all_goals go_meet
  all_goals (refine ⟨?_, rfl⟩; rw [HZ.out]; rfl)
 case rest =>
  obtain ⟨rfl, rfl⟩ := hcut
  have hse : s.toList.isEmpty = decide (s.size = 0) := bytes_empty s
  have k0 : ((n : Int) == 0) = decide (n = 0) := by apply Bool.eq_iff_iff.2; simp
  have k1 : ((n : Int) == 1) = decide (n = 1) := by apply Bool.eq_iff_iff.2; simp; omega
  have k2 : ((n : Int) == 2) = decide (n = 2) := by apply Bool.eq_iff_iff.2; simp; omega
  have HNM := Lib.hid (fun w => ref21_IsName s w hs)
  have HBX := Lib.hid (CellsAt.new w [.int .i64 op, .bool b1, .slice A1 l1 c1, .bool b2, .slice A2 l2 c2, .string s, .slice A n c] 86)
  clear HZ
  generalize decide (s.size = 0) = es at *
  generalize isName s = nm at *
  generalize decide (n = 0) = n0 at *
  generalize decide (n = 1) = n1 at *
  generalize decide (n = 2) = n2 at *
  generalize q.dec = dq at *
  by_cases o1 : op = 1
  ·have o1' : (op == 1) = true := by simp [o1]
   have HS' : Hid (shapeOf op q s n = (dq && (es || nm) && n0)) := by show _ = _; rw [HS.out, if_pos o1]
   clear o1 HS
   go_wp2_with fail
   refine (HD.out _ (by repeat first|exact xA _|assumption|refine xB ?_ _|refine xC ?_|refine xD ?_ _|refine xE ?_ (by simp <;> omega) _|refine xF ?_ (by assumption))).mono ?_
   rintro e w1 ⟨⟨t, rfl⟩, hx1⟩
   have hE1 : Ext w w1 := (by repeat first|exact xA _|assumption|refine xB ?_ _|refine xC ?_|refine xD ?_ _|refine xE ?_ (by simp <;> omega) _|refine xF ?_ (by assumption))
   obtain ⟨y0, y1, y2, y3, y4, y5, y6⟩ := (HBX.out.ext hx1).seven
   clear HD HBX
   cases dq
   ·go_wp2_with fail
    refine bodyPost_ret ?_ rfl ⟨by rw [HS'.out]; try rfl, hE1⟩
    simp [results, Tryz.results154, go_sem]
   ·cases es
    ·go_wp2_with fail
     refine (HNM.out _).mono ?_
     rintro e w2 ⟨rfl, rfl⟩
     cases nm
     ·go_wp2_with fail
      refine bodyPost_ret ?_ rfl ⟨by rw [HS'.out]; try rfl, hE1⟩
      simp [results, Tryz.results154, go_sem]
     ·cases n0
      all_goals go_wp2_with fail
      all_goals (refine bodyPost_ret ?_ rfl ⟨by rw [HS'.out]; try rfl, hE1⟩; simp [results, Tryz.results154, go_sem])
    ·cases n0
     all_goals go_wp2_with fail
     all_goals (refine bodyPost_ret ?_ rfl ⟨by rw [HS'.out]; try rfl, hE1⟩; simp [results, Tryz.results154, go_sem])
  have o1' : (op == 1) = false := by simp [o1]
  clear HD HBX
  by_cases o2 : op = 2
  ·have o2' : (op == 2) = true := by simp [o2]
   have HS' : Hid (shapeOf op q s n = (zq && nm && n0)) := by show _ = _; rw [HS.out, if_neg o1, if_pos o2]
   clear o1 o2 HS
   cases zq
   ·go_wp2_with fail
    refine bodyPost_ret ?_ rfl ⟨by rw [HS'.out]; try rfl, (Ext.alloc _ _)⟩
    simp [results, Tryz.results154, go_sem]
   ·go_wp2_with fail
    refine (HNM.out _).mono ?_
    rintro e w2 ⟨rfl, rfl⟩
    cases nm
    ·go_wp2_with fail
     refine bodyPost_ret ?_ rfl ⟨by rw [HS'.out]; try rfl, (Ext.alloc _ _)⟩
     simp [results, Tryz.results154, go_sem]
    ·cases n0
     all_goals go_wp2_with fail
     all_goals (refine bodyPost_ret ?_ rfl ⟨by rw [HS'.out]; try rfl, (Ext.alloc _ _)⟩; simp [results, Tryz.results154, go_sem])
  have o2' : (op == 2) = false := by simp [o2]
  by_cases o3 : op = 3
  ·have o3' : (op == 3) = true := by simp [o3]
   have HS' : Hid (shapeOf op q s n = (zq && es && n1)) := by show _ = _; rw [HS.out, if_neg o1, if_neg o2, if_pos o3]
   clear o1 o2 o3 HS
   cases zq
   ·go_wp2_with fail
    refine bodyPost_ret ?_ rfl ⟨by rw [HS'.out]; try rfl, (Ext.alloc _ _)⟩
    simp [results, Tryz.results154, go_sem]
   ·cases es
    ·go_wp2_with fail
     refine bodyPost_ret ?_ rfl ⟨by rw [HS'.out]; try rfl, (Ext.alloc _ _)⟩
     simp [results, Tryz.results154, go_sem]
    ·cases n1
     all_goals go_wp2_with fail
     all_goals (refine bodyPost_ret ?_ rfl ⟨by rw [HS'.out]; try rfl, (Ext.alloc _ _)⟩; simp [results, Tryz.results154, go_sem])
  have o3' : (op == 3) = false := by simp [o3]
  by_cases o4 : op = 4 ∨ op = 5 ∨ op = 6 ∨ op = 7
  ·have HS' : Hid (shapeOf op q s n = (zq && es && n2)) := by show _ = _; rw [HS.out, if_neg o1, if_neg o2, if_neg o3, if_pos o4]
   have o4' : (op == 4) = true ∨ (op == 4) = false ∧ (op == 5) = true ∨ (op == 4) = false ∧ (op == 5) = false ∧ (op == 6) = true ∨ (op == 4) = false ∧ (op == 5) = false ∧ (op == 6) = false ∧ (op == 7) = true := by
    simp only [beq_iff_eq, beq_eq_false_iff_ne, ne_eq]; omega
   clear o1 o2 o3 o4 HS
   cases zq
   ·rcases o4' with k4 | ⟨k4, k5⟩ | ⟨k4, k5, k6⟩ | ⟨k4, k5, k6, k7⟩
    all_goals go_wp2_with fail
    all_goals (refine bodyPost_ret ?_ rfl ⟨by rw [HS'.out]; try rfl, (Ext.alloc _ _)⟩; simp [results, Tryz.results154, go_sem])
   ·cases es
    ·rcases o4' with k4 | ⟨k4, k5⟩ | ⟨k4, k5, k6⟩ | ⟨k4, k5, k6, k7⟩
     all_goals go_wp2_with fail
     all_goals (refine bodyPost_ret ?_ rfl ⟨by rw [HS'.out]; try rfl, (Ext.alloc _ _)⟩; simp [results, Tryz.results154, go_sem])
    ·rcases o4' with k4 | ⟨k4, k5⟩ | ⟨k4, k5, k6⟩ | ⟨k4, k5, k6, k7⟩
     all_goals cases n2
     all_goals go_wp2_with fail
     all_goals (refine bodyPost_ret ?_ rfl ⟨by rw [HS'.out]; try rfl, (Ext.alloc _ _)⟩; simp [results, Tryz.results154, go_sem])
  ·have HS' : Hid (shapeOf op q s n = false) := by show _ = _; rw [HS.out, if_neg o1, if_neg o2, if_neg o3, if_neg o4]
   obtain ⟨k4, k5, k6, k7⟩ : (op == 4) = false ∧ (op == 5) = false ∧ (op == 6) = false ∧ (op == 7) = false := by
    simp only [beq_eq_false_iff_ne, ne_eq]; omega
   clear o1 o2 o3 o4 HS
   go_wp2_with fail
   refine bodyPost_ret ?_ rfl ⟨by rw [HS'.out]; try rfl, (Ext.alloc _ _)⟩
   simp [results, Tryz.results154, go_sem]
end Go.Proofs.YtceobmnljdhkmaaGreatDoor
namespace Go.Proofs.YtceobmnljdhkmaaGreatDoor
open Go Go.RowKit
/-- Short numbers and names, to some depth. -/
def smallE : Nat → EI → Prop
 | 0, _ => False
 | k + 1, e => e.value.num.mag.length ≤ 1100000 ∧ e.value.den.mag.length ≤ 1100000 ∧ e.name.size ≤ 230000000 ∧ e.args.length ≤ 1100000 ∧ ∀ a ∈ e.args, smallE k a
def formed : Nat → EI → Bool
 | 0, _ => false
 | k + 1, e => shapeOf e.op e.value e.name e.args.length && e.args.all (formed k)
set_option maxRecDepth 100000 in
set_option maxHeartbeats 1600000 in
theorem ref22_Formed : ∀ (k : Nat) {e : EI} {cs : List Value} {w : World} (_ : ExprR k w cs e) (_ : smallE k e),
  Calls Tryz.prog 94 #[.agg cs.toArray] w fun x w' => x = .returned (.bool (formed k e)) ∧ Ext w w'
 | 0, _, _, _, h, _ => h.elim
 | k + 1, e, cs, w, h, hs => by
  obtain ⟨u, v, sl, rfl, hu, hv, hsl⟩ := h
  obtain ⟨s1, s2, s3, hm, s4⟩ := hs
  obtain ⟨A, c, rfl, hl, hm0, hel⟩ := hsl
  clear hm0
  have HSH := Lib.hid (fun w1 (hx : Ext w w1) => ref22_shape (op := e.op) (q := e.value) (s := e.name) (A := A) (n := e.args.length) (c := c) (hu.ext hx) (hv.ext hx) s1 s2 s3)
  have HF : Hid (formed (k + 1) e = (shapeOf e.op e.value e.name e.args.length && e.args.all (formed k))) := rfl
  have HEL := Lib.hid hel
  have HS4 := Lib.hid s4
  obtain ⟨A1, c1, rfl, hc1, hc1'⟩ := hu.form
  obtain ⟨A2, c2, rfl, hc2, hc2'⟩ := hv.form
  clear hu hv hel s1 s2 s3 s4
  have HBX := Lib.hid (CellsAt.new w [.int .i64 e.op, .bool e.value.num.neg, .slice A1 e.value.num.mag.length c1, .bool e.value.den.neg, .slice A2 e.value.den.mag.length c2, .string e.name, .slice A e.args.length c] 86)
  generalize shapeOf e.op e.value e.name e.args.length = sh at *
  generalize e.value.num.mag.length = l1 at *
  generalize e.value.den.mag.length = l2 at *
  generalize e.value.num.neg = b1 at *
  generalize e.value.den.neg = b2 at *
  generalize e.op = op at *
  generalize e.name = nm at *
  go_enter Tryz.func94, Tryz.ntmps94
  go_wp2_with fail
  refine (HSH.out _ (by repeat first|exact xA _|assumption|refine xB ?_ _|refine xC ?_|refine xD ?_ _|refine xE ?_ (by simp <;> omega) _|refine xF ?_ (by assumption))).mono ?_
  rintro x w1 ⟨rfl, hx1⟩
  have HBX1 := Lib.hid (HBX.out.ext hx1)
  have hE1 : Ext w w1 := (by repeat first|exact xA _|assumption|refine xB ?_ _|refine xC ?_|refine xD ?_ _|refine xE ?_ (by simp <;> omega) _|refine xF ?_ (by assumption))
  clear HSH HBX hx1
  cases sh with
  | false =>
   go_wp2_with fail
   refine bodyPost_ret ?_ rfl ⟨by rw [HF.out]; try rfl, hE1⟩
   simp [results, Tryz.results94, go_sem]
  | true =>
   go_wp2_with fail
   go_loopg [3] e.args.length (fun gk x wr => ∃ i : Nat, x = .int .i64 (i : Int) ∧ i + gk = e.args.length ∧ Hid ((e.args.drop i).all (formed k) = e.args.all (formed k)) ∧ Hid (Ext w1 wr))
   case atStart => exact ⟨0, rfl, by omega, rfl, Ext.refl _⟩
   case round =>
    obtain ⟨i, rfl, hi, HA, HE⟩ := hrel
    obtain ⟨y0, y1, y2, y3, y4, y5, y6⟩ := (HBX1.out.ext HE.out).seven
    by_cases hlt : i < e.args.length
    ·obtain ⟨b, off, rfl, hb, hel⟩ := HEL.out (by intro e0; rw [e0] at hlt; simp at hlt)
     have hx0 : e.args[i]? = some e.args[i] := List.getElem?_eq_getElem hlt
     obtain ⟨ds, hds, hcell, hR⟩ := hel i _ hx0
     have hsm := HS4.out e.args[i] (List.getElem_mem hlt)
     match ds, hds with
     | [d0, d1, d2, d3, d4, d5, d6], _ =>
      have hEr := hE1.trans HE.out
      have q0 : wr.cell? ⟨b, off + i * 7, none⟩ = some d0 := (hEr.cell (p := ⟨b, off + (i * 7 + 0), none⟩) hb).trans (hcell 0 _ rfl)
      have q1 : wr.cell? ⟨b, off + i * 7 + 1, none⟩ = some d1 := (hEr.cell (p := ⟨b, off + (i * 7 + 1), none⟩) hb).trans (hcell 1 _ rfl)
      have q2 : wr.cell? ⟨b, off + i * 7 + 2, none⟩ = some d2 := (hEr.cell (p := ⟨b, off + (i * 7 + 2), none⟩) hb).trans (hcell 2 _ rfl)
      have q3 : wr.cell? ⟨b, off + i * 7 + 3, none⟩ = some d3 := (hEr.cell (p := ⟨b, off + (i * 7 + 3), none⟩) hb).trans (hcell 3 _ rfl)
      have q4 : wr.cell? ⟨b, off + i * 7 + 4, none⟩ = some d4 := (hEr.cell (p := ⟨b, off + (i * 7 + 4), none⟩) hb).trans (hcell 4 _ rfl)
      have q5 : wr.cell? ⟨b, off + i * 7 + 5, none⟩ = some d5 := (hEr.cell (p := ⟨b, off + (i * 7 + 5), none⟩) hb).trans (hcell 5 _ rfl)
      have q6 : wr.cell? ⟨b, off + i * 7 + 6, none⟩ = some d6 := (hEr.cell (p := ⟨b, off + (i * 7 + 6), none⟩) hb).trans (hcell 6 _ rfl)
      have HC := Lib.hid (ref22_Formed k (ExprR.stable k _ _ _ _ hEr hR) hsm)
      have HDR : Hid ((e.args.drop i).all (formed k) = (formed k e.args[i] && (e.args.drop (i + 1)).all (formed k))) := by show _ = _; rw [List.drop_eq_getElem_cons hlt, List.all_cons]
      clear hel hcell hR
      generalize formed k e.args[i] = fk at *
      go_wp2_with fail
      refine HC.out.mono ?_
      rintro x w2 ⟨rfl, hx2⟩
      cases fk with
      | true =>
       go_wp2_with fail
       go_roundg (gk - 1)
       case measure => omega
       case rel => exact ⟨i + 1, by simp, by omega, (HDR.out.symm.trans HA.out), HE.out.trans hx2⟩
      | false =>
       go_wp2_with fail
       refine bodyPost_ret (v := .bool false) ?_ rfl ⟨?_, hEr.trans hx2⟩
       ·simp [results, Tryz.results94, go_sem]
       ·rw [HF.out, ← HA.out, HDR.out]; rfl
    ·have HT : Hid ((e.args.drop i).all (formed k) = true) := by show _ = _; rw [List.drop_eq_nil_of_le (by omega)]; rfl
     have hEr := hE1.trans HE.out
     go_wp2_with fail
     refine bodyPost_ret (v := .bool true) ?_ rfl ⟨?_, hEr⟩
     ·simp [results, Tryz.results94, go_sem]
     ·rw [HF.out, ← HA.out, HT.out]; rfl
end Go.Proofs.YtceobmnljdhkmaaGreatDoor
namespace Go.Proofs.YtceobmnljdhkmaaGreatDoor
open Go Go.RowKit
def depthE : Nat → EI → Nat
 | 0, _ => 0
 | k + 1, e => e.args.foldl (fun n a => max n (depthE k a)) 0 + 1
theorem foldl_max_le {α : Type} (f : α → Nat) (k : Nat) : ∀ (l : List α) (n : Nat), n ≤ k → (∀ a, f a ≤ k) → l.foldl (fun n a => max n (f a)) n ≤ k
 | [], _, hn, _ => hn
 | a :: l, _, hn, h => foldl_max_le f k l _ (Nat.max_le.2 ⟨hn, h a⟩) h
theorem depthE_le : ∀ k e, depthE k e ≤ k
 | 0, _ => Nat.le_refl _
 | k + 1, e => Nat.succ_le_succ (foldl_max_le (depthE k) k e.args 0 (Nat.zero_le _) (depthE_le k))
set_option maxRecDepth 100000 in
set_option maxHeartbeats 1600000 in
theorem ref22_Depth : ∀ (k : Nat) {e : EI} {cs : List Value} {w : World} (_ : ExprR k w cs e) (_ : smallE k e) (_ : k ≤ 22000000),
  Calls Tryz.prog 95 #[.agg cs.toArray] w fun x w' => x = .returned (.int .i64 (depthE k e : Nat)) ∧ Ext w w'
 | 0, _, _, _, h, _, _ => h.elim
 | k + 1, e, cs, w, h, hs, hk => by
  obtain ⟨u, v, sl, rfl, hu, hv, hsl⟩ := h
  obtain ⟨s1, s2, s3, hm, s4⟩ := hs
  obtain ⟨A, c, rfl, hl, hm0, hel⟩ := hsl
  clear hm0
  have HF : Hid (depthE (k + 1) e = e.args.foldl (fun n a => max n (depthE k a)) 0 + 1) := rfl
  have HEL := Lib.hid hel
  have HS4 := Lib.hid s4
  obtain ⟨A1, c1, rfl, hc1, hc1'⟩ := hu.form
  obtain ⟨A2, c2, rfl, hc2, hc2'⟩ := hv.form
  clear hu hv hel s1 s2 s3 s4
  have HBX := Lib.hid (CellsAt.new w [.int .i64 e.op, .bool e.value.num.neg, .slice A1 e.value.num.mag.length c1, .bool e.value.den.neg, .slice A2 e.value.den.mag.length c2, .string e.name, .slice A e.args.length c] 86)
  generalize e.value.num.mag.length = l1 at *
  generalize e.value.den.mag.length = l2 at *
  generalize e.value.num.neg = b1 at *
  generalize e.value.den.neg = b2 at *
  generalize e.op = op at *
  generalize e.name = nm at *
  go_enter Tryz.func95, Tryz.ntmps95
  go_wp2_with fail
  go_loopg [3, 4] e.args.length (fun gk y x wr => ∃ i n : Nat, x = .int .i64 (i : Int) ∧ y = .int .i64 (n : Int) ∧ n ≤ k ∧ i + gk = e.args.length ∧ Hid ((e.args.drop i).foldl (fun n a => max n (depthE k a)) n = e.args.foldl (fun n a => max n (depthE k a)) 0) ∧ Hid (Ext (w.alloc (.cells #[.int .i64 op, .bool b1, .slice A1 l1 c1, .bool b2, .slice A2 l2 c2, .string nm, .slice A e.args.length c] 86)) wr))
  case atStart => exact ⟨0, 0, rfl, rfl, Nat.zero_le _, by omega, rfl, Ext.refl _⟩
  case round =>
   obtain ⟨i, n, rfl, rfl, hn, hi, HA, HE⟩ := hrel
   obtain ⟨y0, y1, y2, y3, y4, y5, y6⟩ := (HBX.out.ext HE.out).seven
   have hEr : Ext w wr := Ext.trans (Ext.alloc _ _) HE.out
   by_cases hlt : i < e.args.length
   ·obtain ⟨b, off, rfl, hb, hel⟩ := HEL.out (by intro e0; rw [e0] at hlt; simp at hlt)
    have hx0 : e.args[i]? = some e.args[i] := List.getElem?_eq_getElem hlt
    obtain ⟨ds, hds, hcell, hR⟩ := hel i _ hx0
    have hsm := HS4.out e.args[i] (List.getElem_mem hlt)
    match ds, hds with
    | [d0, d1, d2, d3, d4, d5, d6], _ =>
     have q0 : wr.cell? ⟨b, off + i * 7, none⟩ = some d0 := (hEr.cell (p := ⟨b, off + (i * 7 + 0), none⟩) hb).trans (hcell 0 _ rfl)
     have q1 : wr.cell? ⟨b, off + i * 7 + 1, none⟩ = some d1 := (hEr.cell (p := ⟨b, off + (i * 7 + 1), none⟩) hb).trans (hcell 1 _ rfl)
     have q2 : wr.cell? ⟨b, off + i * 7 + 2, none⟩ = some d2 := (hEr.cell (p := ⟨b, off + (i * 7 + 2), none⟩) hb).trans (hcell 2 _ rfl)
     have q3 : wr.cell? ⟨b, off + i * 7 + 3, none⟩ = some d3 := (hEr.cell (p := ⟨b, off + (i * 7 + 3), none⟩) hb).trans (hcell 3 _ rfl)
     have q4 : wr.cell? ⟨b, off + i * 7 + 4, none⟩ = some d4 := (hEr.cell (p := ⟨b, off + (i * 7 + 4), none⟩) hb).trans (hcell 4 _ rfl)
     have q5 : wr.cell? ⟨b, off + i * 7 + 5, none⟩ = some d5 := (hEr.cell (p := ⟨b, off + (i * 7 + 5), none⟩) hb).trans (hcell 5 _ rfl)
     have q6 : wr.cell? ⟨b, off + i * 7 + 6, none⟩ = some d6 := (hEr.cell (p := ⟨b, off + (i * 7 + 6), none⟩) hb).trans (hcell 6 _ rfl)
     have HC := Lib.hid (ref22_Depth k (ExprR.stable k _ _ _ _ hEr hR) hsm (by omega))
     have hdl := depthE_le k e.args[i]
     have HDR : Hid ((e.args.drop i).foldl (fun n a => max n (depthE k a)) n = (e.args.drop (i + 1)).foldl (fun n a => max n (depthE k a)) (max n (depthE k e.args[i]))) := by show _ = _; rw [List.drop_eq_getElem_cons hlt, List.foldl_cons]
     clear hel hcell hR
     generalize depthE k e.args[i] = fk at *
     go_wp2_with fail
     refine HC.out.mono ?_
     rintro x w2 ⟨rfl, hx2⟩
     by_cases hle : n < fk
     rotate_left
     ·rw [Nat.max_eq_left (by omega)] at HDR
      go_wp2_with fail
      go_roundg (gk - 1)
      case measure => omega
      case rel => exact ⟨i + 1, n, by simp, by simp; try omega, hn, by omega, (HDR.out.symm.trans HA.out), HE.out.trans hx2⟩
     ·rw [Nat.max_eq_right (by omega)] at HDR
      go_wp2_with fail
      go_roundg (gk - 1)
      case measure => omega
      case rel => exact ⟨i + 1, fk, by simp, by simp; try omega, hdl, by omega, (HDR.out.symm.trans HA.out), HE.out.trans hx2⟩
   ·have HT : Hid (n + 1 = depthE (k + 1) e) := by show _ = _; rw [HF.out, ← HA.out, List.drop_eq_nil_of_le (by omega)]; rfl
    go_wp2_with fail
    refine bodyPost_ret (v := .int .i64 ((n + 1 : Nat) : Int)) ?_ rfl ⟨?_, hEr⟩
    ·simp [results, Tryz.results95, go_sem]
    ·rw [HT.out]
/-- The error of an expression. -/
def errE (k : Nat) (e : EI) : Int := if formed k e then if depthE k e ≤ 40 then 0 else 3 else 1
set_option maxRecDepth 100000 in
set_option maxHeartbeats 1600000 in
theorem ref22_Valid (k : Nat) {e : EI} {cs : List Value} {w : World} (h : ExprR k w cs e) (hs : smallE k e) (hk : k ≤ 22000000) :
  Calls Tryz.prog 53 #[.agg cs.toArray] w fun x w' => x = .returned (.int .i64 (errE k e)) ∧ Ext w w' := by
 have H1 := Lib.hid (fun w1 (hx : Ext w w1) => ref22_Formed k (ExprR.stable k _ _ _ _ hx h) hs)
 have H2 := Lib.hid (fun w1 (hx : Ext w w1) => ref22_Depth k (ExprR.stable k _ _ _ _ hx h) hs hk)
 have hd := depthE_le k e
 have HE : Hid (errE k e = if formed k e then if depthE k e ≤ 40 then 0 else 3 else 1) := rfl
 obtain ⟨j, rfl⟩ : ∃ j, k = j + 1 := by cases k with | zero => exact h.elim | succ j => exact ⟨j, rfl⟩
 obtain ⟨u, v, sl, rfl, hu, hv, hsl⟩ := h
 clear hu hv hsl hs
 generalize formed (j + 1) e = fk at *
 generalize depthE (j + 1) e = dk at *
 generalize e.op = op at *
 generalize e.name = nm at *
 generalize e.value.num.neg = b1 at *
 generalize e.value.den.neg = b2 at *
 have HBX := Lib.hid (CellsAt.new w [.int .i64 op, .bool b1, u, .bool b2, v, .string nm, sl] 86)
 go_enter Tryz.func53, Tryz.ntmps53
 go_wp2_with fail
 refine (H1.out _ (by repeat first|exact xA _|assumption|refine xB ?_ _|refine xC ?_|refine xD ?_ _|refine xE ?_ (by simp <;> omega) _|refine xF ?_ (by assumption))).mono ?_
 rintro x w1 ⟨rfl, hx1⟩
 obtain ⟨y0, y1, y2, y3, y4, y5, y6⟩ := (HBX.out.ext hx1).seven
 have hE1 : Ext w w1 := (by repeat first|exact xA _|assumption|refine xB ?_ _|refine xC ?_|refine xD ?_ _|refine xE ?_ (by simp <;> omega) _|refine xF ?_ (by assumption))
 cases fk with
 | false =>
  go_wp2_with fail
  go_ret
  exact ⟨by rw [HE.out]; rfl, hE1⟩
 | true =>
  go_wp2_with fail
  refine (H2.out _ hE1).mono ?_
  rintro x w2 ⟨rfl, hx2⟩
  have hE2 : Ext w w2 := hE1.trans hx2
  by_cases h40 : dk ≤ 40
  ·have h40' : ¬ (40 < dk) := by omega
   have HE' : Hid (errE (j + 1) e = 0) := by show _ = _; rw [HE.out]; simp [h40]
   go_wp2_with fail
   go_ret
   exact ⟨by rw [HE'.out]; try rfl, hE2⟩
  ·have h40' : 40 < dk := by omega
   have HE' : Hid (errE (j + 1) e = 3) := by show _ = _; rw [HE.out]; simp [h40]
   go_wp2_with fail
   go_ret
   exact ⟨by rw [HE'.out]; try rfl, hE2⟩
end Go.Proofs.YtceobmnljdhkmaaGreatDoor
