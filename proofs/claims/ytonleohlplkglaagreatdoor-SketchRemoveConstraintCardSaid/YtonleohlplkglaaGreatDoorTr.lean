/- Contracts: Mul of the reference's layer 2, for numbers that are not negative. -/
import Derived.Test.YtonleohlplkglaaGreatDoorTq
import Derived.Test.YtonleohlplkglaaGreatDoorRegB
namespace Go.Proofs.YtonleohlplkglaaGreatDoor
open Go Go.RowKit

/-- A box that holds a rational number. -/
def BoxQ (w : World) (g : Nat) (s : Bool) (u : Value) (t : Bool) (v : Value) : Prop :=
  w.cell? ⟨g, 0, none⟩ = some (.bool s) ∧ w.cell? ⟨g, 1, none⟩ = some u ∧ w.cell? ⟨g, 2, none⟩ = some (.bool t) ∧ w.cell? ⟨g, 3, none⟩ = some v ∧
  w.frozen? ⟨g, 0, none⟩ = false ∧ w.frozen? ⟨g, 1, none⟩ = false ∧ w.frozen? ⟨g, 2, none⟩ = false ∧ w.frozen? ⟨g, 3, none⟩ = false ∧ g < w.heap.size ∧ NoWord w g
theorem BoxQ.ext {w w' : World} {g : Nat} {s t : Bool} {u v : Value} (h : BoxQ w g s u t v) (hx : Ext w w') : BoxQ w' g s u t v := by
  obtain ⟨h0, h1, h2, h3, f0, f1, f2, f3, h4, h5⟩ := h
  exact ⟨(hx.cell (p := ⟨g, 0, none⟩) h4).trans h0, (hx.cell (p := ⟨g, 1, none⟩) h4).trans h1, (hx.cell (p := ⟨g, 2, none⟩) h4).trans h2, (hx.cell (p := ⟨g, 3, none⟩) h4).trans h3,
    (Below.frozen hx (p := ⟨g, 0, none⟩) h4).trans f0, (Below.frozen hx (p := ⟨g, 1, none⟩) h4).trans f1, (Below.frozen hx (p := ⟨g, 2, none⟩) h4).trans f2, (Below.frozen hx (p := ⟨g, 3, none⟩) h4).trans f3, Nat.lt_of_lt_of_le h4 hx.size, h5.ext h4 hx⟩
theorem BoxQ.new (w : World) (s t : Bool) (u v : Value) (T : TypeId) (hu : ∀ n, u ≠ .int .u32 n) (hv : ∀ n, v ≠ .int .u32 n) : BoxQ (w.alloc (.cells #[.bool s, u, .bool t, v] T)) w.heap.size s u t v := by
  refine ⟨by simp [go_sem], by simp [go_sem], by simp [go_sem], by simp [go_sem], by simp [go_sem], by simp [go_sem], by simp [go_sem], by simp [go_sem], by simp, NoWord.new _ _ _ ?_⟩
  intro x hx n
  simp only [List.mem_toArray, List.mem_cons, List.not_mem_nil, or_false] at hx
  rcases hx with rfl | rfl | rfl | rfl
  · simp
  · exact hu n
  · simp
  · exact hv n
def Boxes3Q (w : World) (g : Nat) (u v x y : Value) : Prop := BoxQ w g false u false v ∧ BoxQ w (g + 1) false x false y ∧ BoxQ w (g + 1 + 1) false (.slice none 0 0) false (.slice none 0 0)
theorem Boxes3Q.ext {w w' : World} {g : Nat} {u v x y : Value} (h : Boxes3Q w g u v x y) (hx : Ext w w') : Boxes3Q w' g u v x y := ⟨h.1.ext hx, h.2.1.ext hx, h.2.2.ext hx⟩
theorem boxes3q (w : World) (A A' B B' : Option Addr) (n n' c c' m m' k k' : Nat) :
    Boxes3Q (((w.alloc (.cells #[.bool false, .slice A n c, .bool false, .slice A' n' c'] 38)).alloc (.cells #[.bool false, .slice B m k, .bool false, .slice B' m' k'] 38)).alloc (.cells #[.bool false, .slice none 0 0, .bool false, .slice none 0 0] 38)) w.heap.size (.slice A n c) (.slice A' n' c') (.slice B m k) (.slice B' m' k') := by
  refine ⟨?_, ?_, ?_⟩
  · exact (BoxQ.new w false false _ _ _ (by simp) (by simp)).ext ((Ext.alloc _ _).trans (Ext.alloc _ _))
  · have := (BoxQ.new (w.alloc (.cells #[.bool false, .slice A n c, .bool false, .slice A' n' c'] 38)) false false (.slice B m k) (.slice B' m' k') 38 (by simp) (by simp)).ext (Ext.alloc _ (.cells #[.bool false, .slice none 0 0, .bool false, .slice none 0 0] 38))
    simpa using this
  · have := BoxQ.new ((w.alloc (.cells #[.bool false, .slice A n c, .bool false, .slice A' n' c'] 38)).alloc (.cells #[.bool false, .slice B m k, .bool false, .slice B' m' k'] 38)) false false (.slice none 0 0) (.slice none 0 0) 38 (by simp) (by simp)
    simpa using this

theorem quo_any {v v' : Value} {a b : Nat} {w : World} (h : Words w v (limbs a)) (h' : Words w v' (limbs b)) (hb : 0 < b) (hsz : (limbs a).length ≤ 1000000) (hsz' : (limbs b).length ≤ 1000000) :
    Calls Tryz.prog 221 #[.agg #[.bool false, v], .agg #[.bool false, v']] w (Ret w fun r w' => ∃ u, r = .agg #[.bool false, u] ∧ Words w' u (limbs (a / b))) := by
  obtain ⟨A, c, rfl, hl, hm⟩ := h.form
  obtain ⟨A', c', rfl, hl', hm'⟩ := h'.form
  exact ref02_quo h h' hb hsz hsz'
theorem mul_any {v v' : Value} {a b : Nat} {w : World} (h : Words w v (limbs a)) (h' : Words w v' (limbs b)) (hsz : (limbs a).length ≤ 1000000) (hsz' : (limbs b).length ≤ 1000000) :
    Calls Tryz.prog 220 #[.agg #[.bool false, v], .agg #[.bool false, v']] w (Ret w fun r w' => ∃ u, r = .agg #[.bool false, u] ∧ Words w' u (limbs (a * b))) := by
  obtain ⟨A, c, rfl, hl, hm⟩ := h.form
  obtain ⟨A', c', rfl, hl', hm'⟩ := h'.form
  exact ref01_Mul (s := false) (t := false) h h' (by simp) (by simp) (by omega)

theorem mul_len1 {A : Option Addr} {n c a : Nat} {w : World} (h : Words w (.slice A n c) (limbs a)) (hn : n ≤ 100000) : (limbs a).length ≤ 1000000 := by have := h.len.1; omega
theorem mul_len2 {A : Option Addr} {n c a e : Nat} {w : World} (h : Words w (.slice A n c) (limbs a)) (hn : n ≤ 100000) (ha : 0 < a) : (limbs (Nat.gcd a e)).length ≤ 1000000 := by
  have h1 := limbs_length_mono (Nat.gcd_le_left e ha)
  have := h.len.1; omega
theorem mul_len3 {A : Option Addr} {n c a : Nat} {w : World} (h : Words w (.slice A n c) (limbs a)) (hn : n ≤ 100000) (g : Nat) : (limbs (a / g)).length ≤ 1000000 := by
  have h1 := limbs_length_mono (Nat.div_le_self a g)
  have := h.len.1; omega
theorem mul_len {A A' B B' : Option Addr} {n n' m m' c c' k k' a d b e : Nat} {w : World} (h : Words w (.slice A n c) (limbs a) ∧ Words w (.slice A' n' c') (limbs d) ∧ Words w (.slice B m k) (limbs b) ∧ Words w (.slice B' m' k') (limbs e)) (hn : n ≤ 100000) (hn' : n' ≤ 100000) (hm : m ≤ 100000) (hm' : m' ≤ 100000) :
    (limbs (a / Nat.gcd a e)).length ≤ 1000000 ∧ (limbs (b / Nat.gcd b d)).length ≤ 1000000 ∧ (limbs (d / Nat.gcd b d)).length ≤ 1000000 ∧ (limbs (e / Nat.gcd a e)).length ≤ 1000000 :=
  ⟨mul_len3 h.1 hn _, mul_len3 h.2.2.1 hm _, mul_len3 h.2.1 hn' _, mul_len3 h.2.2.2 hm' _⟩

set_option maxHeartbeats 6400000 in
theorem ref02_Mul {A A' B B' : Option Addr} {n n' m m' c c' k k' a d b e : Nat} {w : World} (h1 : Words w (.slice A n c) (limbs a)) (h2 : Words w (.slice A' n' c') (limbs d)) (h3 : Words w (.slice B m k) (limbs b)) (h4 : Words w (.slice B' m' k') (limbs e))
    (hd : 1 < d) (ha : 0 < a) (hb : 0 < b) (hn : n ≤ 100000) (hn' : n' ≤ 100000) (hm : m ≤ 100000) (hm' : m' ≤ 100000) :
    Calls Tryz.prog 209 #[.agg #[.bool false, .slice A n c, .bool false, .slice A' n' c'], .agg #[.bool false, .slice B m k, .bool false, .slice B' m' k']] w
      (Ret w fun r w' => ∃ u v, r = .agg #[.bool false, u, .bool false, v] ∧ Words w' u (limbs (a / Nat.gcd a e * (b / Nat.gcd b d))) ∧ Words w' v (limbs (d / Nat.gcd b d * (e / Nat.gcd a e)))) := by
  have hn2 : n ≤ c := h1.len.2.1
  have hn2' : n' ≤ c' := h2.len.2.1
  have hm2 : m ≤ k := h3.len.2.1
  have hm2' : m' ≤ k' := h4.len.2.1
  have hz : 0 < n := by have := h1.len.1; rw [this, limbs_pos (by omega)]; simp
  have hy : 0 < m := by have := h3.len.1; rw [this, limbs_pos (by omega)]; simp
  have hzn : ((n : Int) == 0) = false := by simp; omega
  have hym : ((m : Int) == 0) = false := by simp; omega
  have hnd : ¬ (limbs d = [1]) := by
    intro e1
    have := congrArg val e1
    rw [val_limbs] at this
    simp [val] at this
    omega
  have HONE := Lib.hid (fun w1 (hx : Ext w w1) => ref02_one (s := false) (h2.ext hx))
  have HH := Lib.hid (And.intro h1 (And.intro h2 (And.intro h3 h4)))
  have HB0 := Lib.hid (boxes3q w A A' B B' n n' c c' m m' k k')
  have HND := Lib.hid hnd
  have HG1 := Lib.hid (fun w1 (hx : Ext w w1) => by have := ref01_GCD (s := false) (t := false) (h1.ext hx) (h4.ext hx) (by rw [← h1.len.1]; omega) (by rw [← h4.len.1]; omega); rw [val_limbs, val_limbs] at this; exact this)
  have HG2 := Lib.hid (fun w1 (hx : Ext w w1) => by have := ref01_GCD (s := false) (t := false) (h3.ext hx) (h2.ext hx) (by rw [← h3.len.1]; omega) (by rw [← h2.len.1]; omega); rw [val_limbs, val_limbs] at this; exact this)
  clear h1 h2 h3 h4 hnd
  go_enter Tryz.func209, Tryz.ntmps209
  go_wp2_with fail
  refine (HONE.out _ (by repeat (first | exact Ext.refl _ | assumption | refine Ext.pdrewN ?_ _ | refine Ext.pdrew ?_ | refine Ext.palloc ?_ _ | refine Ext.pset ?_ (by simp <;> omega) _ | refine Ext.trans ?_ (by assumption)))).mono ?_
  rintro e w1 ⟨rfl, hx1⟩
  rw [decide_eq_false HND.out, Bool.false_and]
  have HB1 := Lib.hid (HB0.out.ext hx1)
  have hE1 : Ext w w1 := (by repeat (first | exact Ext.refl _ | assumption | refine Ext.pdrewN ?_ _ | refine Ext.pdrew ?_ | refine Ext.palloc ?_ _ | refine Ext.pset ?_ (by simp <;> omega) _ | refine Ext.trans ?_ (by assumption)))
  obtain ⟨⟨y0, y1, y2, y3, -⟩, ⟨z0, z1, z2, z3, -⟩, -⟩ := HB1.out
  clear HB0
  go_wp2_with fail
  have hS : w.heap.size + 1 + 1 < w1.heap.size := HB1.out.2.2.2.2.2.2.2.2.2.2.1
  refine wp_region_ext 12 65 (fun i v w' => match i with
    | 0 => v = .pointer (some ⟨w.heap.size, 0, none⟩)
    | 1 => v = .agg #[.bool false, .slice A n c]
    | 2 => v = .pointer (some ⟨w.heap.size + 1, 2, none⟩)
    | 3 => v = .agg #[.bool false, .slice B' m' k']
    | 4 => ∃ u, v = .agg #[.bool false, u] ∧ Words w' u (limbs (Nat.gcd a e))
    | 5 => v = .pointer (some ⟨w.heap.size + 1, 0, none⟩)
    | 6 => v = .agg #[.bool false, .slice B m k]
    | 7 => v = .pointer (some ⟨w.heap.size, 2, none⟩)
    | 8 => v = .agg #[.bool false, .slice A' n' c']
    | 9 => ∃ u, v = .agg #[.bool false, u] ∧ Words w' u (limbs (Nat.gcd b d))
    | 10 => ∃ q, v = .pointer (some ⟨q, 0, none⟩) ∧ BoxI w' q false (.slice none 0 0) ∧ w1.heap.size ≤ q
    | 11 => ∃ q, v = .pointer (some ⟨q, 0, none⟩) ∧ BoxI w' q false (.slice none 0 0) ∧ w1.heap.size ≤ q
    | _ => False)
    (fun i v j v' => (i = 10 ∧ j = 11 ∨ i = 11 ∧ j = 10) → v ≠ v') mixed (by kernel_rfl) rfl ?_ (AllLt.all ?_) ?_
  · intro i v wa wb hx
    match i with
    | 4 => exact fun ⟨u, h, h'⟩ => ⟨u, h, h'.ext hx⟩
    | 9 => exact fun ⟨u, h, h'⟩ => ⟨u, h, h'.ext hx⟩
    | 10 => exact fun ⟨u, h, h', h''⟩ => ⟨u, h, h'.ext hx, h''⟩
    | 11 => exact fun ⟨u, h, h', h''⟩ => ⟨u, h, h'.ext hx, h''⟩
    | 0 | 1 | 2 | 3 | 5 | 6 | 7 | 8 => exact id
    | _ + 12 => exact id
  · clear y0 y1 y2 y3 z0 z1 z2 z3
    refine ⟨⟨⟨⟨⟨⟨⟨⟨⟨⟨⟨⟨trivial, ?_⟩, ?_⟩, ?_⟩, ?_⟩, ?_⟩, ?_⟩, ?_⟩, ?_⟩, ?_⟩, ?_⟩, ?_⟩, ?_⟩
    · refine PreOp.of _ _ rfl rfl rfl ?_
      intro vs w' hx hnd
      have HB2 := Lib.hid (HB1.out.ext (Ext.trans (Ext.drew _) hx))
      have hE2 : Ext w w' := hE1.trans (Ext.trans (Ext.drew _) hx)
      clear hnd
      simp only [fill]
      obtain ⟨⟨y0, y1, y2, y3, -⟩, ⟨z0, z1, z2, z3, -⟩, -⟩ := HB2.out
      go_wp2_with fail
      exact ⟨rfl, Ext.refl _, rfl, (by first | exact trivial | exact fun j u _ _ hh => by omega)⟩
    · refine PreOp.of _ _ rfl rfl rfl ?_
      intro vs w' hx hnd
      have HB2 := Lib.hid (HB1.out.ext (Ext.trans (Ext.drew _) hx))
      have hE2 : Ext w w' := hE1.trans (Ext.trans (Ext.drew _) hx)
      have e0 : vs 0 = .pointer (some ⟨w.heap.size, 0, none⟩) := hnd 0 (by kernel_rfl) (by omega)
      clear hnd
      simp only [fill, dstOf, List.getElem?_toArray, List.getElem?_cons_zero, Option.bind_some, Act.put, List.setIfInBounds_toArray, List.set_cons_zero, List.set_cons_succ]
      rw [e0]
      obtain ⟨⟨y0, y1, y2, y3, -⟩, ⟨z0, z1, z2, z3, -⟩, -⟩ := HB2.out
      go_wp2_with fail
      exact ⟨rfl, Ext.refl _, rfl, (by first | exact trivial | exact fun j u _ _ hh => by omega)⟩
    · refine PreOp.of _ _ rfl rfl rfl ?_
      intro vs w' hx hnd
      have HB2 := Lib.hid (HB1.out.ext (Ext.trans (Ext.drew _) hx))
      have hE2 : Ext w w' := hE1.trans (Ext.trans (Ext.drew _) hx)
      clear hnd
      simp only [fill, dstOf, List.getElem?_toArray, List.getElem?_cons_zero, List.getElem?_cons_succ, Option.bind_some, Act.put, List.setIfInBounds_toArray, List.set_cons_zero, List.set_cons_succ]
      obtain ⟨⟨y0, y1, y2, y3, -⟩, ⟨z0, z1, z2, z3, -⟩, -⟩ := HB2.out
      go_wp2_with fail
      exact ⟨rfl, Ext.refl _, rfl, (by first | exact trivial | exact fun j u _ _ hh => by omega)⟩
    · refine PreOp.of _ _ rfl rfl rfl ?_
      intro vs w' hx hnd
      have HB2 := Lib.hid (HB1.out.ext (Ext.trans (Ext.drew _) hx))
      have hE2 : Ext w w' := hE1.trans (Ext.trans (Ext.drew _) hx)
      have e2 : vs 2 = .pointer (some ⟨w.heap.size + 1, 2, none⟩) := hnd 2 (by kernel_rfl) (by omega)
      clear hnd
      simp only [fill, dstOf, List.getElem?_toArray, List.getElem?_cons_zero, List.getElem?_cons_succ, Option.bind_some, Act.put, List.setIfInBounds_toArray, List.set_cons_zero, List.set_cons_succ]
      rw [e2]
      obtain ⟨⟨y0, y1, y2, y3, -⟩, ⟨z0, z1, z2, z3, -⟩, -⟩ := HB2.out
      go_wp2_with fail
      exact ⟨rfl, Ext.refl _, rfl, (by first | exact trivial | exact fun j u _ _ hh => by omega)⟩
    · refine PreOp.of _ _ rfl rfl rfl ?_
      intro vs w' hx hnd
      have HB2 := Lib.hid (HB1.out.ext (Ext.trans (Ext.drew _) hx))
      have hE2 : Ext w w' := hE1.trans (Ext.trans (Ext.drew _) hx)
      have e1 : vs 1 = .agg #[.bool false, .slice A n c] := hnd 1 (by kernel_rfl) (by omega)
      have e3 : vs 3 = .agg #[.bool false, .slice B' m' k'] := hnd 3 (by kernel_rfl) (by omega)
      clear hnd
      simp only [fill, dstOf, List.getElem?_toArray, List.getElem?_cons_zero, List.getElem?_cons_succ, Option.bind_some, Act.put, List.setIfInBounds_toArray, List.set_cons_zero, List.set_cons_succ]
      rw [e1, e3]
      obtain ⟨⟨y0, y1, y2, y3, -⟩, ⟨z0, z1, z2, z3, -⟩, -⟩ := HB2.out
      go_wp2_with fail
      refine (HG1.out _ (by repeat (first | exact Ext.refl _ | assumption | refine Ext.pdrewN ?_ _ | refine Ext.pdrew ?_ | refine Ext.palloc ?_ _ | refine Ext.pset ?_ (by simp <;> omega) _ | refine Ext.trans ?_ (by assumption)))).mono ?_
      rintro e w2 ⟨v, rfl, ⟨u, rfl, hu⟩, hx2⟩
      go_wp2_with fail
      exact ⟨rfl, hx2, ⟨u, rfl, hu⟩, (by intro j u _ _ h; omega)⟩
    · refine PreOp.of _ _ rfl rfl rfl ?_
      intro vs w' hx hnd
      have HB2 := Lib.hid (HB1.out.ext (Ext.trans (Ext.drew _) hx))
      have hE2 : Ext w w' := hE1.trans (Ext.trans (Ext.drew _) hx)
      clear hnd
      simp only [fill, dstOf, List.getElem?_toArray, List.getElem?_cons_zero, List.getElem?_cons_succ, Option.bind_some, Act.put, List.setIfInBounds_toArray, List.set_cons_zero, List.set_cons_succ]
      obtain ⟨⟨y0, y1, y2, y3, -⟩, ⟨z0, z1, z2, z3, -⟩, -⟩ := HB2.out
      go_wp2_with fail
      exact ⟨rfl, Ext.refl _, rfl, (by first | exact trivial | exact fun j u _ _ hh => by omega)⟩
    · refine PreOp.of _ _ rfl rfl rfl ?_
      intro vs w' hx hnd
      have HB2 := Lib.hid (HB1.out.ext (Ext.trans (Ext.drew _) hx))
      have hE2 : Ext w w' := hE1.trans (Ext.trans (Ext.drew _) hx)
      have e5 : vs 5 = .pointer (some ⟨w.heap.size + 1, 0, none⟩) := hnd 5 (by kernel_rfl) (by omega)
      clear hnd
      simp only [fill, dstOf, List.getElem?_toArray, List.getElem?_cons_zero, List.getElem?_cons_succ, Option.bind_some, Act.put, List.setIfInBounds_toArray, List.set_cons_zero, List.set_cons_succ]
      rw [e5]
      obtain ⟨⟨y0, y1, y2, y3, -⟩, ⟨z0, z1, z2, z3, -⟩, -⟩ := HB2.out
      go_wp2_with fail
      exact ⟨rfl, Ext.refl _, rfl, (by first | exact trivial | exact fun j u _ _ hh => by omega)⟩
    · refine PreOp.of _ _ rfl rfl rfl ?_
      intro vs w' hx hnd
      have HB2 := Lib.hid (HB1.out.ext (Ext.trans (Ext.drew _) hx))
      have hE2 : Ext w w' := hE1.trans (Ext.trans (Ext.drew _) hx)
      clear hnd
      simp only [fill, dstOf, List.getElem?_toArray, List.getElem?_cons_zero, List.getElem?_cons_succ, Option.bind_some, Act.put, List.setIfInBounds_toArray, List.set_cons_zero, List.set_cons_succ]
      obtain ⟨⟨y0, y1, y2, y3, -⟩, ⟨z0, z1, z2, z3, -⟩, -⟩ := HB2.out
      go_wp2_with fail
      exact ⟨rfl, Ext.refl _, rfl, (by first | exact trivial | exact fun j u _ _ hh => by omega)⟩
    · refine PreOp.of _ _ rfl rfl rfl ?_
      intro vs w' hx hnd
      have HB2 := Lib.hid (HB1.out.ext (Ext.trans (Ext.drew _) hx))
      have hE2 : Ext w w' := hE1.trans (Ext.trans (Ext.drew _) hx)
      have e7 : vs 7 = .pointer (some ⟨w.heap.size, 2, none⟩) := hnd 7 (by kernel_rfl) (by omega)
      clear hnd
      simp only [fill, dstOf, List.getElem?_toArray, List.getElem?_cons_zero, List.getElem?_cons_succ, Option.bind_some, Act.put, List.setIfInBounds_toArray, List.set_cons_zero, List.set_cons_succ]
      rw [e7]
      obtain ⟨⟨y0, y1, y2, y3, -⟩, ⟨z0, z1, z2, z3, -⟩, -⟩ := HB2.out
      go_wp2_with fail
      exact ⟨rfl, Ext.refl _, rfl, (by first | exact trivial | exact fun j u _ _ hh => by omega)⟩
    · refine PreOp.of _ _ rfl rfl rfl ?_
      intro vs w' hx hnd
      have HB2 := Lib.hid (HB1.out.ext (Ext.trans (Ext.drew _) hx))
      have hE2 : Ext w w' := hE1.trans (Ext.trans (Ext.drew _) hx)
      have e6 : vs 6 = .agg #[.bool false, .slice B m k] := hnd 6 (by kernel_rfl) (by omega)
      have e8 : vs 8 = .agg #[.bool false, .slice A' n' c'] := hnd 8 (by kernel_rfl) (by omega)
      clear hnd
      simp only [fill, dstOf, List.getElem?_toArray, List.getElem?_cons_zero, List.getElem?_cons_succ, Option.bind_some, Act.put, List.setIfInBounds_toArray, List.set_cons_zero, List.set_cons_succ]
      rw [e6, e8]
      obtain ⟨⟨y0, y1, y2, y3, -⟩, ⟨z0, z1, z2, z3, -⟩, -⟩ := HB2.out
      go_wp2_with fail
      refine (HG2.out _ (by repeat (first | exact Ext.refl _ | assumption | refine Ext.pdrewN ?_ _ | refine Ext.pdrew ?_ | refine Ext.palloc ?_ _ | refine Ext.pset ?_ (by simp <;> omega) _ | refine Ext.trans ?_ (by assumption)))).mono ?_
      rintro e w2 ⟨v, rfl, ⟨u, rfl, hu⟩, hx2⟩
      go_wp2_with fail
      exact ⟨rfl, hx2, ⟨u, rfl, hu⟩, (by intro j u _ _ h; omega)⟩
    · refine PreOp.of _ _ rfl rfl rfl ?_
      intro vs w' hx hnd
      have HB2 := Lib.hid (HB1.out.ext (Ext.trans (Ext.drew _) hx))
      have hE2 : Ext w w' := hE1.trans (Ext.trans (Ext.drew _) hx)
      clear hnd
      simp only [fill, dstOf, List.getElem?_toArray, List.getElem?_cons_zero, List.getElem?_cons_succ, Option.bind_some, Act.put, List.setIfInBounds_toArray, List.set_cons_zero, List.set_cons_succ]
      obtain ⟨⟨y0, y1, y2, y3, -⟩, ⟨z0, z1, z2, z3, -⟩, -⟩ := HB2.out
      go_wp2_with fail
      refine ⟨rfl, Ext.alloc _ _, ⟨w'.heap.size, rfl, BoxI.new w' false (.slice none 0 0) _ (by simp), (by have := hx.size; simpa using this)⟩, ?_⟩
      rintro j u - hj hjj
      obtain rfl : j = 11 := by rcases hjj with ⟨h1, h2⟩ | ⟨h1, h2⟩ <;> first | exact h1 | omega
      obtain ⟨q, rfl, hq, -⟩ := hj
      intro e1
      have hqs := hq.2.2.2.2.1
      have e2 : (Value.pointer (some ⟨q, 0, none⟩)) = Value.pointer (some ⟨w'.heap.size, 0, none⟩) := e1
      injection e2 with e2
      injection e2 with e2
      injection e2 with e2
      omega
    · refine PreOp.of _ _ rfl rfl rfl ?_
      intro vs w' hx hnd
      have HB2 := Lib.hid (HB1.out.ext (Ext.trans (Ext.drew _) hx))
      have hE2 : Ext w w' := hE1.trans (Ext.trans (Ext.drew _) hx)
      clear hnd
      simp only [fill, dstOf, List.getElem?_toArray, List.getElem?_cons_zero, List.getElem?_cons_succ, Option.bind_some, Act.put, List.setIfInBounds_toArray, List.set_cons_zero, List.set_cons_succ]
      obtain ⟨⟨y0, y1, y2, y3, -⟩, ⟨z0, z1, z2, z3, -⟩, -⟩ := HB2.out
      go_wp2_with fail
      refine ⟨rfl, Ext.alloc _ _, ⟨w'.heap.size, rfl, BoxI.new w' false (.slice none 0 0) _ (by simp), (by have := hx.size; simpa using this)⟩, ?_⟩
      rintro j u - hj hjj
      obtain rfl : j = 10 := by rcases hjj with ⟨h1, h2⟩ | ⟨h1, h2⟩ <;> first | exact h1 | omega
      obtain ⟨q, rfl, hq, -⟩ := hj
      intro e1
      have hqs := hq.2.2.2.2.1
      have e2 : (Value.pointer (some ⟨q, 0, none⟩)) = Value.pointer (some ⟨w'.heap.size, 0, none⟩) := e1
      injection e2 with e2
      injection e2 with e2
      injection e2 with e2
      omega
  · intro vs w2 hx2 hP hD
    obtain ⟨u1, e4, hu1⟩ := hP 4 (by omega)
    obtain ⟨u2, e9, hu2⟩ := hP 9 (by omega)
    obtain ⟨q1, e10, hb1, hl1⟩ := hP 10 (by omega)
    obtain ⟨q2, e11, hb2, hl2⟩ := hP 11 (by omega)
    have hne : q1 ≠ q2 := by
      intro e1
      subst e1
      rcases hD 10 11 (by omega) (by omega) (by omega) with h | h
      · exact h (.inl ⟨rfl, rfl⟩) (e10.trans e11.symm)
      · exact h (.inr ⟨rfl, rfl⟩) (e11.trans e10.symm)
    clear hP hD
    obtain ⟨A1, c1, rfl, hc1, hc1'⟩ := hu1.form
    obtain ⟨A2, c2, rfl, hc2, hc2'⟩ := hu2.form
    have HE12 := Lib.hid (Ext.trans (Ext.drew _) hx2)
    have HU1 := Lib.hid hu1
    have HU2 := Lib.hid hu2
    generalize (limbs (Nat.gcd a e)).length = l1 at *
    generalize (limbs (Nat.gcd b d)).length = l2 at *
    clear hu1 hu2
    have HI1 := Lib.hid hb1
    have HI2 := Lib.hid hb2
    obtain ⟨p0, p1, p2, p3, -⟩ := hb1
    obtain ⟨r0, r1, r2, r3, -⟩ := hb2
    have hne' : ¬ q2 = q1 := fun e => hne e.symm
    simp only [fill, dstOf, List.getElem?_toArray, List.getElem?_cons_zero, List.getElem?_cons_succ, Option.bind_some, Act.put, List.setIfInBounds_toArray, List.set_cons_zero, List.set_cons_succ]
    rw [e4, e9, e10, e11]
    show wpList _ _ _ (List.cons _ (List.cons _ List.nil)) _ _
    clear y0 y1 y2 y3 z0 z1 z2 z3 e4 e9 e10 e11 hx2
    go_wp2_with fail
    obtain ⟨hE2, HB2⟩ := And.intro HE12.out (HB1.out.ext HE12.out)
    have k1 := HI1.out.put false (u' := .slice A1 l1 c1) (by simp)
    have k2 := (HI2.out.far hne (.bool false) (.slice A1 l1 c1))
    have HK1 := k1.far hne' (.bool false) (.slice A2 l2 c2)
    have HK2 := k2.put false (u' := .slice A2 l2 c2) (by simp)
    have HW1 := Lib.hid ((HU1.out.put HI1.out false (.slice A1 l1 c1)).put k2 false (.slice A2 l2 c2))
    have HW2 := Lib.hid ((HU2.out.put HI1.out false (.slice A1 l1 c1)).put k2 false (.slice A2 l2 c2))
    have hE23 : Ext w1 ((((w2.setCell ⟨q1, 0, none⟩ (.bool false)).setCell ⟨q1, 1, none⟩ (.slice A1 l1 c1)).setCell ⟨q2, 0, none⟩ (.bool false)).setCell ⟨q2, 1, none⟩ (.slice A2 l2 c2)) :=
      (((hE2.pset (by simpa using hl1) _).pset (by simpa using hl1) _).pset (by simpa using hl2) _).pset (by simpa using hl2) _
    have HB3 := Lib.hid (And.intro (HB1.out.ext hE23) (And.intro HK1 HK2))
    have hE3 := hE1.trans hE23
    clear k1 k2 HK1 HK2 HI1 HI2 HU1 HU2 HB2 p0 p1 p2 p3 r0 r1 r2 r3 HE12 hE2 hE23 HB1 hx1
    generalize ((((w2.setCell ⟨q1, 0, none⟩ (.bool false)).setCell ⟨q1, 1, none⟩ (.slice A1 l1 c1)).setCell ⟨q2, 0, none⟩ (.bool false)).setCell ⟨q2, 1, none⟩ (.slice A2 l2 c2)) = w3 at *
    have HL := Lib.hid (mul_len HH.out hn hn' hm hm')
    have HQ1 := Lib.hid (fun w4 (hx : Ext w3 w4) => quo_any (HH.out.1.ext (hE3.trans hx)) (HW1.out.ext hx) (Nat.gcd_pos_of_pos_left _ ha) (mul_len1 HH.out.1 hn) (mul_len2 HH.out.1 hn ha))
    have HQ2 := Lib.hid (fun w4 (hx : Ext w3 w4) => quo_any (HH.out.2.2.1.ext (hE3.trans hx)) (HW2.out.ext hx) (Nat.gcd_pos_of_pos_left _ hb) (mul_len1 HH.out.2.2.1 hm) (mul_len2 HH.out.2.2.1 hm hb))
    have HQ3 := Lib.hid (fun w4 (hx : Ext w3 w4) => quo_any (HH.out.2.1.ext (hE3.trans hx)) (HW2.out.ext hx) (Nat.gcd_pos_of_pos_left _ hb) (mul_len1 HH.out.2.1 hn') (mul_len2 HH.out.2.2.1 hm hb))
    have HQ4 := Lib.hid (fun w4 (hx : Ext w3 w4) => quo_any (HH.out.2.2.2.ext (hE3.trans hx)) (HW1.out.ext hx) (Nat.gcd_pos_of_pos_left _ ha) (mul_len1 HH.out.2.2.2 hm') (mul_len2 HH.out.1 hn ha))
    refine wp_region_ext 19 65 (fun i v w' => match i with
      | 0 => v = .pointer (some ⟨w.heap.size, 0, none⟩)
      | 1 => v = .agg #[.bool false, .slice A n c]
      | 2 => v = .agg #[.bool false, .slice A1 l1 c1]
      | 3 => ∃ u, v = .agg #[.bool false, u] ∧ Words w' u (limbs (a / Nat.gcd a e))
      | 4 => v = .pointer (some ⟨w.heap.size + 1, 0, none⟩)
      | 5 => v = .agg #[.bool false, .slice B m k]
      | 6 => v = .agg #[.bool false, .slice A2 l2 c2]
      | 7 => ∃ u, v = .agg #[.bool false, u] ∧ Words w' u (limbs (b / Nat.gcd b d))
      | 8 => ∃ u, v = .agg #[.bool false, u] ∧ Words w' u (limbs (a / Nat.gcd a e * (b / Nat.gcd b d)))
      | 9 => v = .pointer (some ⟨w.heap.size, 2, none⟩)
      | 10 => v = .agg #[.bool false, .slice A' n' c']
      | 11 => v = .agg #[.bool false, .slice A2 l2 c2]
      | 12 => ∃ u, v = .agg #[.bool false, u] ∧ Words w' u (limbs (d / Nat.gcd b d))
      | 13 => v = .pointer (some ⟨w.heap.size + 1, 2, none⟩)
      | 14 => v = .agg #[.bool false, .slice B' m' k']
      | 15 => v = .agg #[.bool false, .slice A1 l1 c1]
      | 16 => ∃ u, v = .agg #[.bool false, u] ∧ Words w' u (limbs (e / Nat.gcd a e))
      | 17 => ∃ u, v = .agg #[.bool false, u] ∧ Words w' u (limbs (d / Nat.gcd b d * (e / Nat.gcd a e)))
      | 18 => ∃ u u', v = .agg #[.bool false, u, .bool false, u'] ∧ Words w' u (limbs (a / Nat.gcd a e * (b / Nat.gcd b d))) ∧ Words w' u' (limbs (d / Nat.gcd b d * (e / Nat.gcd a e)))
      | _ => False)
      (fun _ _ _ _ => True) mixed (by kernel_rfl) rfl ?_ (AllLt.all ?_) ?_
    · intro i v wa wb hx
      match i with
      | 3 | 7 | 8 | 12 | 16 | 17 => exact fun ⟨u, h, h'⟩ => ⟨u, h, h'.ext hx⟩
      | 18 => exact fun ⟨u, u', h, h', h''⟩ => ⟨u, u', h, h'.ext hx, h''.ext hx⟩
      | 0 | 1 | 2 | 4 | 5 | 6 | 9 | 10 | 11 | 13 | 14 | 15 => exact id
      | _ + 19 => exact id
    · refine ⟨⟨⟨⟨⟨⟨⟨⟨⟨⟨⟨⟨⟨⟨⟨⟨⟨⟨⟨trivial, ?_⟩, ?_⟩, ?_⟩, ?_⟩, ?_⟩, ?_⟩, ?_⟩, ?_⟩, ?_⟩, ?_⟩, ?_⟩, ?_⟩, ?_⟩, ?_⟩, ?_⟩, ?_⟩, ?_⟩, ?_⟩, ?_⟩
      · refine PreOp.of _ _ rfl rfl rfl ?_
        intro vs' w' hx hnd
        have hE6 : Ext w3 w' := Ext.trans (Ext.drew _) hx
        have HB4 := Lib.hid (And.intro (HB3.out.1.ext hE6) (And.intro (HB3.out.2.1.ext hE6) (HB3.out.2.2.ext hE6)))
        have hE4 : Ext w w' := hE3.trans (Ext.trans (Ext.drew _) hx)
        have hE5 : Ext w3 w' := Ext.trans (Ext.drew _) hx
        clear hnd
        simp only [fill]
        obtain ⟨⟨⟨y0, y1, y2, y3, -⟩, ⟨z0, z1, z2, z3, -⟩, -⟩, ⟨p0, p1, -⟩, ⟨r0, r1, -⟩⟩ := HB4.out
        go_wp2_with fail
        exact ⟨rfl, Ext.refl _, rfl, (by first | trivial | (intro j u _ _; trivial))⟩
      · refine PreOp.of _ _ rfl rfl rfl ?_
        intro vs' w' hx hnd
        have hE6 : Ext w3 w' := Ext.trans (Ext.drew _) hx
        have HB4 := Lib.hid (And.intro (HB3.out.1.ext hE6) (And.intro (HB3.out.2.1.ext hE6) (HB3.out.2.2.ext hE6)))
        have hE4 : Ext w w' := hE3.trans (Ext.trans (Ext.drew _) hx)
        have hE5 : Ext w3 w' := Ext.trans (Ext.drew _) hx
        have e0 : vs' 0 = .pointer (some ⟨w.heap.size, 0, none⟩) := hnd 0 (by kernel_rfl) (by omega)
        clear hnd
        simp only [fill, dstOf, List.getElem?_toArray, List.getElem?_cons_zero, Option.bind_some, Act.put, List.setIfInBounds_toArray, List.set_cons_zero, List.set_cons_succ]
        rw [e0]
        obtain ⟨⟨⟨y0, y1, y2, y3, -⟩, ⟨z0, z1, z2, z3, -⟩, -⟩, ⟨p0, p1, -⟩, ⟨r0, r1, -⟩⟩ := HB4.out
        go_wp2_with fail
        exact ⟨rfl, Ext.refl _, rfl, (by first | trivial | (intro j u _ _; trivial))⟩
      · refine PreOp.of _ _ rfl rfl rfl ?_
        intro vs' w' hx hnd
        have hE6 : Ext w3 w' := Ext.trans (Ext.drew _) hx
        have HB4 := Lib.hid (And.intro (HB3.out.1.ext hE6) (And.intro (HB3.out.2.1.ext hE6) (HB3.out.2.2.ext hE6)))
        have hE4 : Ext w w' := hE3.trans (Ext.trans (Ext.drew _) hx)
        have hE5 : Ext w3 w' := Ext.trans (Ext.drew _) hx
        clear hnd
        simp only [fill, dstOf, List.getElem?_toArray, List.getElem?_cons_zero, List.getElem?_cons_succ, Option.bind_some, Act.put, List.setIfInBounds_toArray, List.set_cons_zero, List.set_cons_succ]
        obtain ⟨⟨⟨y0, y1, y2, y3, -⟩, ⟨z0, z1, z2, z3, -⟩, -⟩, ⟨p0, p1, -⟩, ⟨r0, r1, -⟩⟩ := HB4.out
        go_wp2_with fail
        exact ⟨rfl, Ext.refl _, rfl, (by first | trivial | (intro j u _ _; trivial))⟩
      · refine PreOp.of _ _ rfl rfl rfl ?_
        intro vs' w' hx hnd
        have hE6 : Ext w3 w' := Ext.trans (Ext.drew _) hx
        have HB4 := Lib.hid (And.intro (HB3.out.1.ext hE6) (And.intro (HB3.out.2.1.ext hE6) (HB3.out.2.2.ext hE6)))
        have hE4 : Ext w w' := hE3.trans (Ext.trans (Ext.drew _) hx)
        have hE5 : Ext w3 w' := Ext.trans (Ext.drew _) hx
        have e1 : vs' 1 = .agg #[.bool false, .slice A n c] := hnd 1 (by kernel_rfl) (by omega)
        have e2 : vs' 2 = .agg #[.bool false, .slice A1 l1 c1] := hnd 2 (by kernel_rfl) (by omega)
        clear hnd
        simp only [fill, dstOf, List.getElem?_toArray, List.getElem?_cons_zero, List.getElem?_cons_succ, Option.bind_some, Act.put, List.setIfInBounds_toArray, List.set_cons_zero, List.set_cons_succ]
        rw [e1, e2]
        obtain ⟨⟨⟨y0, y1, y2, y3, -⟩, ⟨z0, z1, z2, z3, -⟩, -⟩, ⟨p0, p1, -⟩, ⟨r0, r1, -⟩⟩ := HB4.out
        go_wp2_with fail
        refine (HQ1.out _ hE5).mono ?_
        rintro e w4 ⟨v, rfl, ⟨u, rfl, hu⟩, hx4⟩
        go_wp2_with fail
        exact ⟨rfl, hx4, ⟨u, rfl, hu⟩, (by first | trivial | (intro j u _ _; trivial))⟩
      · refine PreOp.of _ _ rfl rfl rfl ?_
        intro vs' w' hx hnd
        have hE6 : Ext w3 w' := Ext.trans (Ext.drew _) hx
        have HB4 := Lib.hid (And.intro (HB3.out.1.ext hE6) (And.intro (HB3.out.2.1.ext hE6) (HB3.out.2.2.ext hE6)))
        have hE4 : Ext w w' := hE3.trans (Ext.trans (Ext.drew _) hx)
        have hE5 : Ext w3 w' := Ext.trans (Ext.drew _) hx
        clear hnd
        simp only [fill, dstOf, List.getElem?_toArray, List.getElem?_cons_zero, List.getElem?_cons_succ, Option.bind_some, Act.put, List.setIfInBounds_toArray, List.set_cons_zero, List.set_cons_succ]
        obtain ⟨⟨⟨y0, y1, y2, y3, -⟩, ⟨z0, z1, z2, z3, -⟩, -⟩, ⟨p0, p1, -⟩, ⟨r0, r1, -⟩⟩ := HB4.out
        go_wp2_with fail
        exact ⟨rfl, Ext.refl _, rfl, (by first | trivial | (intro j u _ _; trivial))⟩
      · refine PreOp.of _ _ rfl rfl rfl ?_
        intro vs' w' hx hnd
        have hE6 : Ext w3 w' := Ext.trans (Ext.drew _) hx
        have HB4 := Lib.hid (And.intro (HB3.out.1.ext hE6) (And.intro (HB3.out.2.1.ext hE6) (HB3.out.2.2.ext hE6)))
        have hE4 : Ext w w' := hE3.trans (Ext.trans (Ext.drew _) hx)
        have hE5 : Ext w3 w' := Ext.trans (Ext.drew _) hx
        have e4 : vs' 4 = .pointer (some ⟨w.heap.size + 1, 0, none⟩) := hnd 4 (by kernel_rfl) (by omega)
        clear hnd
        simp only [fill, dstOf, List.getElem?_toArray, List.getElem?_cons_zero, List.getElem?_cons_succ, Option.bind_some, Act.put, List.setIfInBounds_toArray, List.set_cons_zero, List.set_cons_succ]
        rw [e4]
        obtain ⟨⟨⟨y0, y1, y2, y3, -⟩, ⟨z0, z1, z2, z3, -⟩, -⟩, ⟨p0, p1, -⟩, ⟨r0, r1, -⟩⟩ := HB4.out
        go_wp2_with fail
        exact ⟨rfl, Ext.refl _, rfl, (by first | trivial | (intro j u _ _; trivial))⟩
      · refine PreOp.of _ _ rfl rfl rfl ?_
        intro vs' w' hx hnd
        have hE6 : Ext w3 w' := Ext.trans (Ext.drew _) hx
        have HB4 := Lib.hid (And.intro (HB3.out.1.ext hE6) (And.intro (HB3.out.2.1.ext hE6) (HB3.out.2.2.ext hE6)))
        have hE4 : Ext w w' := hE3.trans (Ext.trans (Ext.drew _) hx)
        have hE5 : Ext w3 w' := Ext.trans (Ext.drew _) hx
        clear hnd
        simp only [fill, dstOf, List.getElem?_toArray, List.getElem?_cons_zero, List.getElem?_cons_succ, Option.bind_some, Act.put, List.setIfInBounds_toArray, List.set_cons_zero, List.set_cons_succ]
        obtain ⟨⟨⟨y0, y1, y2, y3, -⟩, ⟨z0, z1, z2, z3, -⟩, -⟩, ⟨p0, p1, -⟩, ⟨r0, r1, -⟩⟩ := HB4.out
        go_wp2_with fail
        exact ⟨rfl, Ext.refl _, rfl, (by first | trivial | (intro j u _ _; trivial))⟩
      · refine PreOp.of _ _ rfl rfl rfl ?_
        intro vs' w' hx hnd
        have hE6 : Ext w3 w' := Ext.trans (Ext.drew _) hx
        have HB4 := Lib.hid (And.intro (HB3.out.1.ext hE6) (And.intro (HB3.out.2.1.ext hE6) (HB3.out.2.2.ext hE6)))
        have hE4 : Ext w w' := hE3.trans (Ext.trans (Ext.drew _) hx)
        have hE5 : Ext w3 w' := Ext.trans (Ext.drew _) hx
        have e5 : vs' 5 = .agg #[.bool false, .slice B m k] := hnd 5 (by kernel_rfl) (by omega)
        have e6 : vs' 6 = .agg #[.bool false, .slice A2 l2 c2] := hnd 6 (by kernel_rfl) (by omega)
        clear hnd
        simp only [fill, dstOf, List.getElem?_toArray, List.getElem?_cons_zero, List.getElem?_cons_succ, Option.bind_some, Act.put, List.setIfInBounds_toArray, List.set_cons_zero, List.set_cons_succ]
        rw [e5, e6]
        obtain ⟨⟨⟨y0, y1, y2, y3, -⟩, ⟨z0, z1, z2, z3, -⟩, -⟩, ⟨p0, p1, -⟩, ⟨r0, r1, -⟩⟩ := HB4.out
        go_wp2_with fail
        refine (HQ2.out _ hE5).mono ?_
        rintro e w4 ⟨v, rfl, ⟨u, rfl, hu⟩, hx4⟩
        go_wp2_with fail
        exact ⟨rfl, hx4, ⟨u, rfl, hu⟩, (by first | trivial | (intro j u _ _; trivial))⟩
      · refine PreOp.of _ _ rfl rfl rfl ?_
        intro vs' w' hx hnd
        have hE6 : Ext w3 w' := Ext.trans (Ext.drew _) hx
        have HB4 := Lib.hid (And.intro (HB3.out.1.ext hE6) (And.intro (HB3.out.2.1.ext hE6) (HB3.out.2.2.ext hE6)))
        have hE4 : Ext w w' := hE3.trans (Ext.trans (Ext.drew _) hx)
        have hE5 : Ext w3 w' := Ext.trans (Ext.drew _) hx
        obtain ⟨v3, e3, g3⟩ := hnd 3 (by kernel_rfl) (by omega)
        obtain ⟨v7, e7, g7⟩ := hnd 7 (by kernel_rfl) (by omega)
        clear hnd
        simp only [fill, dstOf, List.getElem?_toArray, List.getElem?_cons_zero, List.getElem?_cons_succ, Option.bind_some, Act.put, List.setIfInBounds_toArray, List.set_cons_zero, List.set_cons_succ]
        rw [e3, e7]
        obtain ⟨⟨⟨y0, y1, y2, y3, -⟩, ⟨z0, z1, z2, z3, -⟩, -⟩, ⟨p0, p1, -⟩, ⟨r0, r1, -⟩⟩ := HB4.out
        go_wp2_with fail
        refine (mul_any g3 g7 HL.out.1 HL.out.2.1).mono ?_
        rintro e w4 ⟨v, rfl, ⟨u, rfl, hu⟩, hx4⟩
        go_wp2_with fail
        exact ⟨rfl, hx4, ⟨u, rfl, hu⟩, (by first | trivial | (intro j u _ _; trivial))⟩
      · refine PreOp.of _ _ rfl rfl rfl ?_
        intro vs' w' hx hnd
        have hE6 : Ext w3 w' := Ext.trans (Ext.drew _) hx
        have HB4 := Lib.hid (And.intro (HB3.out.1.ext hE6) (And.intro (HB3.out.2.1.ext hE6) (HB3.out.2.2.ext hE6)))
        have hE4 : Ext w w' := hE3.trans (Ext.trans (Ext.drew _) hx)
        have hE5 : Ext w3 w' := Ext.trans (Ext.drew _) hx
        clear hnd
        simp only [fill, dstOf, List.getElem?_toArray, List.getElem?_cons_zero, List.getElem?_cons_succ, Option.bind_some, Act.put, List.setIfInBounds_toArray, List.set_cons_zero, List.set_cons_succ]
        obtain ⟨⟨⟨y0, y1, y2, y3, -⟩, ⟨z0, z1, z2, z3, -⟩, -⟩, ⟨p0, p1, -⟩, ⟨r0, r1, -⟩⟩ := HB4.out
        go_wp2_with fail
        exact ⟨rfl, Ext.refl _, rfl, (by first | trivial | (intro j u _ _; trivial))⟩
      · refine PreOp.of _ _ rfl rfl rfl ?_
        intro vs' w' hx hnd
        have hE6 : Ext w3 w' := Ext.trans (Ext.drew _) hx
        have HB4 := Lib.hid (And.intro (HB3.out.1.ext hE6) (And.intro (HB3.out.2.1.ext hE6) (HB3.out.2.2.ext hE6)))
        have hE4 : Ext w w' := hE3.trans (Ext.trans (Ext.drew _) hx)
        have hE5 : Ext w3 w' := Ext.trans (Ext.drew _) hx
        have e9 : vs' 9 = .pointer (some ⟨w.heap.size, 2, none⟩) := hnd 9 (by kernel_rfl) (by omega)
        clear hnd
        simp only [fill, dstOf, List.getElem?_toArray, List.getElem?_cons_zero, List.getElem?_cons_succ, Option.bind_some, Act.put, List.setIfInBounds_toArray, List.set_cons_zero, List.set_cons_succ]
        rw [e9]
        obtain ⟨⟨⟨y0, y1, y2, y3, -⟩, ⟨z0, z1, z2, z3, -⟩, -⟩, ⟨p0, p1, -⟩, ⟨r0, r1, -⟩⟩ := HB4.out
        go_wp2_with fail
        exact ⟨rfl, Ext.refl _, rfl, (by first | trivial | (intro j u _ _; trivial))⟩
      · refine PreOp.of _ _ rfl rfl rfl ?_
        intro vs' w' hx hnd
        have hE6 : Ext w3 w' := Ext.trans (Ext.drew _) hx
        have HB4 := Lib.hid (And.intro (HB3.out.1.ext hE6) (And.intro (HB3.out.2.1.ext hE6) (HB3.out.2.2.ext hE6)))
        have hE4 : Ext w w' := hE3.trans (Ext.trans (Ext.drew _) hx)
        have hE5 : Ext w3 w' := Ext.trans (Ext.drew _) hx
        clear hnd
        simp only [fill, dstOf, List.getElem?_toArray, List.getElem?_cons_zero, List.getElem?_cons_succ, Option.bind_some, Act.put, List.setIfInBounds_toArray, List.set_cons_zero, List.set_cons_succ]
        obtain ⟨⟨⟨y0, y1, y2, y3, -⟩, ⟨z0, z1, z2, z3, -⟩, -⟩, ⟨p0, p1, -⟩, ⟨r0, r1, -⟩⟩ := HB4.out
        go_wp2_with fail
        exact ⟨rfl, Ext.refl _, rfl, (by first | trivial | (intro j u _ _; trivial))⟩
      · refine PreOp.of _ _ rfl rfl rfl ?_
        intro vs' w' hx hnd
        have hE6 : Ext w3 w' := Ext.trans (Ext.drew _) hx
        have HB4 := Lib.hid (And.intro (HB3.out.1.ext hE6) (And.intro (HB3.out.2.1.ext hE6) (HB3.out.2.2.ext hE6)))
        have hE4 : Ext w w' := hE3.trans (Ext.trans (Ext.drew _) hx)
        have hE5 : Ext w3 w' := Ext.trans (Ext.drew _) hx
        have e10 : vs' 10 = .agg #[.bool false, .slice A' n' c'] := hnd 10 (by kernel_rfl) (by omega)
        have e11 : vs' 11 = .agg #[.bool false, .slice A2 l2 c2] := hnd 11 (by kernel_rfl) (by omega)
        clear hnd
        simp only [fill, dstOf, List.getElem?_toArray, List.getElem?_cons_zero, List.getElem?_cons_succ, Option.bind_some, Act.put, List.setIfInBounds_toArray, List.set_cons_zero, List.set_cons_succ]
        rw [e10, e11]
        obtain ⟨⟨⟨y0, y1, y2, y3, -⟩, ⟨z0, z1, z2, z3, -⟩, -⟩, ⟨p0, p1, -⟩, ⟨r0, r1, -⟩⟩ := HB4.out
        go_wp2_with fail
        refine (HQ3.out _ hE5).mono ?_
        rintro e w4 ⟨v, rfl, ⟨u, rfl, hu⟩, hx4⟩
        go_wp2_with fail
        exact ⟨rfl, hx4, ⟨u, rfl, hu⟩, (by first | trivial | (intro j u _ _; trivial))⟩
      · refine PreOp.of _ _ rfl rfl rfl ?_
        intro vs' w' hx hnd
        have hE6 : Ext w3 w' := Ext.trans (Ext.drew _) hx
        have HB4 := Lib.hid (And.intro (HB3.out.1.ext hE6) (And.intro (HB3.out.2.1.ext hE6) (HB3.out.2.2.ext hE6)))
        have hE4 : Ext w w' := hE3.trans (Ext.trans (Ext.drew _) hx)
        have hE5 : Ext w3 w' := Ext.trans (Ext.drew _) hx
        clear hnd
        simp only [fill, dstOf, List.getElem?_toArray, List.getElem?_cons_zero, List.getElem?_cons_succ, Option.bind_some, Act.put, List.setIfInBounds_toArray, List.set_cons_zero, List.set_cons_succ]
        obtain ⟨⟨⟨y0, y1, y2, y3, -⟩, ⟨z0, z1, z2, z3, -⟩, -⟩, ⟨p0, p1, -⟩, ⟨r0, r1, -⟩⟩ := HB4.out
        go_wp2_with fail
        exact ⟨rfl, Ext.refl _, rfl, (by first | trivial | (intro j u _ _; trivial))⟩
      · refine PreOp.of _ _ rfl rfl rfl ?_
        intro vs' w' hx hnd
        have hE6 : Ext w3 w' := Ext.trans (Ext.drew _) hx
        have HB4 := Lib.hid (And.intro (HB3.out.1.ext hE6) (And.intro (HB3.out.2.1.ext hE6) (HB3.out.2.2.ext hE6)))
        have hE4 : Ext w w' := hE3.trans (Ext.trans (Ext.drew _) hx)
        have hE5 : Ext w3 w' := Ext.trans (Ext.drew _) hx
        have e13 : vs' 13 = .pointer (some ⟨w.heap.size + 1, 2, none⟩) := hnd 13 (by kernel_rfl) (by omega)
        clear hnd
        simp only [fill, dstOf, List.getElem?_toArray, List.getElem?_cons_zero, List.getElem?_cons_succ, Option.bind_some, Act.put, List.setIfInBounds_toArray, List.set_cons_zero, List.set_cons_succ]
        rw [e13]
        obtain ⟨⟨⟨y0, y1, y2, y3, -⟩, ⟨z0, z1, z2, z3, -⟩, -⟩, ⟨p0, p1, -⟩, ⟨r0, r1, -⟩⟩ := HB4.out
        go_wp2_with fail
        exact ⟨rfl, Ext.refl _, rfl, (by first | trivial | (intro j u _ _; trivial))⟩
      · refine PreOp.of _ _ rfl rfl rfl ?_
        intro vs' w' hx hnd
        have hE6 : Ext w3 w' := Ext.trans (Ext.drew _) hx
        have HB4 := Lib.hid (And.intro (HB3.out.1.ext hE6) (And.intro (HB3.out.2.1.ext hE6) (HB3.out.2.2.ext hE6)))
        have hE4 : Ext w w' := hE3.trans (Ext.trans (Ext.drew _) hx)
        have hE5 : Ext w3 w' := Ext.trans (Ext.drew _) hx
        clear hnd
        simp only [fill, dstOf, List.getElem?_toArray, List.getElem?_cons_zero, List.getElem?_cons_succ, Option.bind_some, Act.put, List.setIfInBounds_toArray, List.set_cons_zero, List.set_cons_succ]
        obtain ⟨⟨⟨y0, y1, y2, y3, -⟩, ⟨z0, z1, z2, z3, -⟩, -⟩, ⟨p0, p1, -⟩, ⟨r0, r1, -⟩⟩ := HB4.out
        go_wp2_with fail
        exact ⟨rfl, Ext.refl _, rfl, (by first | trivial | (intro j u _ _; trivial))⟩
      · refine PreOp.of _ _ rfl rfl rfl ?_
        intro vs' w' hx hnd
        have hE6 : Ext w3 w' := Ext.trans (Ext.drew _) hx
        have HB4 := Lib.hid (And.intro (HB3.out.1.ext hE6) (And.intro (HB3.out.2.1.ext hE6) (HB3.out.2.2.ext hE6)))
        have hE4 : Ext w w' := hE3.trans (Ext.trans (Ext.drew _) hx)
        have hE5 : Ext w3 w' := Ext.trans (Ext.drew _) hx
        have e14 : vs' 14 = .agg #[.bool false, .slice B' m' k'] := hnd 14 (by kernel_rfl) (by omega)
        have e15 : vs' 15 = .agg #[.bool false, .slice A1 l1 c1] := hnd 15 (by kernel_rfl) (by omega)
        clear hnd
        simp only [fill, dstOf, List.getElem?_toArray, List.getElem?_cons_zero, List.getElem?_cons_succ, Option.bind_some, Act.put, List.setIfInBounds_toArray, List.set_cons_zero, List.set_cons_succ]
        rw [e14, e15]
        obtain ⟨⟨⟨y0, y1, y2, y3, -⟩, ⟨z0, z1, z2, z3, -⟩, -⟩, ⟨p0, p1, -⟩, ⟨r0, r1, -⟩⟩ := HB4.out
        go_wp2_with fail
        refine (HQ4.out _ hE5).mono ?_
        rintro e w4 ⟨v, rfl, ⟨u, rfl, hu⟩, hx4⟩
        go_wp2_with fail
        exact ⟨rfl, hx4, ⟨u, rfl, hu⟩, (by first | trivial | (intro j u _ _; trivial))⟩
      · refine PreOp.of _ _ rfl rfl rfl ?_
        intro vs' w' hx hnd
        have hE6 : Ext w3 w' := Ext.trans (Ext.drew _) hx
        have HB4 := Lib.hid (And.intro (HB3.out.1.ext hE6) (And.intro (HB3.out.2.1.ext hE6) (HB3.out.2.2.ext hE6)))
        have hE4 : Ext w w' := hE3.trans (Ext.trans (Ext.drew _) hx)
        have hE5 : Ext w3 w' := Ext.trans (Ext.drew _) hx
        obtain ⟨v12, e12, g12⟩ := hnd 12 (by kernel_rfl) (by omega)
        obtain ⟨v16, e16, g16⟩ := hnd 16 (by kernel_rfl) (by omega)
        clear hnd
        simp only [fill, dstOf, List.getElem?_toArray, List.getElem?_cons_zero, List.getElem?_cons_succ, Option.bind_some, Act.put, List.setIfInBounds_toArray, List.set_cons_zero, List.set_cons_succ]
        rw [e12, e16]
        obtain ⟨⟨⟨y0, y1, y2, y3, -⟩, ⟨z0, z1, z2, z3, -⟩, -⟩, ⟨p0, p1, -⟩, ⟨r0, r1, -⟩⟩ := HB4.out
        go_wp2_with fail
        refine (mul_any g12 g16 HL.out.2.2.1 HL.out.2.2.2).mono ?_
        rintro e w4 ⟨v, rfl, ⟨u, rfl, hu⟩, hx4⟩
        go_wp2_with fail
        exact ⟨rfl, hx4, ⟨u, rfl, hu⟩, (by first | trivial | (intro j u _ _; trivial))⟩
      · refine PreOp.of _ _ rfl rfl rfl ?_
        intro vs' w' hx hnd
        have hE6 : Ext w3 w' := Ext.trans (Ext.drew _) hx
        have HB4 := Lib.hid (And.intro (HB3.out.1.ext hE6) (And.intro (HB3.out.2.1.ext hE6) (HB3.out.2.2.ext hE6)))
        have hE4 : Ext w w' := hE3.trans (Ext.trans (Ext.drew _) hx)
        have hE5 : Ext w3 w' := Ext.trans (Ext.drew _) hx
        obtain ⟨v8, e8, g8⟩ := hnd 8 (by kernel_rfl) (by omega)
        obtain ⟨v17, e17, g17⟩ := hnd 17 (by kernel_rfl) (by omega)
        clear hnd
        simp only [fill, dstOf, List.getElem?_toArray, List.getElem?_cons_zero, List.getElem?_cons_succ, Option.bind_some, Act.put, List.setIfInBounds_toArray, List.set_cons_zero, List.set_cons_succ]
        rw [e8, e17]
        obtain ⟨⟨⟨y0, y1, y2, y3, -⟩, ⟨z0, z1, z2, z3, -⟩, -⟩, ⟨p0, p1, -⟩, ⟨r0, r1, -⟩⟩ := HB4.out
        go_wp2_with fail
        exact ⟨rfl, Ext.refl _, ⟨v8, v17, rfl, g8, g17⟩, (by first | trivial | (intro j u _ _; trivial))⟩
    · intro vs' w4 hx4 hP hD
      obtain ⟨u, u', e18, hu, hu'⟩ := hP 18 (by omega)
      clear hP hD
      have HB4 := Lib.hid (HB3.out.1.2.2.ext (Ext.trans (Ext.drew _) hx4))
      have hE4 : Ext w w4 := hE3.trans (Ext.trans (Ext.drew _) hx4)
      obtain ⟨A3, c3, rfl, hc3, hc3'⟩ := hu.form
      obtain ⟨A4, c4, rfl, hc4, hc4'⟩ := hu'.form
      have HU := Lib.hid (And.intro hu hu')
      clear hu hu'
      generalize (limbs (a / Nat.gcd a e * (b / Nat.gcd b d))).length = l3 at *
      generalize (limbs (d / Nat.gcd b d * (e / Nat.gcd a e))).length = l4 at *
      simp only [fill, dstOf, List.getElem?_toArray, List.getElem?_cons_zero, List.getElem?_cons_succ, Option.bind_some, Act.put, List.setIfInBounds_toArray, List.set_cons_zero, List.set_cons_succ]
      rw [e18]
      show wpList _ _ _ (List.cons _ List.nil) _ _
      clear e18 hx4
      obtain ⟨y0, y1, y2, y3, f0, f1, f2, f3, -, hNW⟩ := HB4.out
      have HNW := Lib.hid hNW
      clear hNW
      go_wp2_with fail
      refine bodyPost_ret ?_ rfl ⟨_, rfl, ⟨.slice A3 l3 c3, .slice A4 l4 c4, rfl, ?_, ?_⟩, ?_⟩
      · simp [results, Tryz.results209, go_sem, y0, y1, y2, y3]
      · exact (((HU.out.1.box HNW.out _ _).box (HNW.out.set_ _ (by simp)) _ _).box ((HNW.out.set_ _ (by simp)).set_ _ (by simp)) _ _).box (((HNW.out.set_ _ (by simp)).set_ _ (by simp)).set_ _ (by simp)) _ _
      · exact (((HU.out.2.box HNW.out _ _).box (HNW.out.set_ _ (by simp)) _ _).box ((HNW.out.set_ _ (by simp)).set_ _ (by simp)) _ _).box (((HNW.out.set_ _ (by simp)).set_ _ (by simp)).set_ _ (by simp)) _ _
      · exact (((hE4.pset (by simp <;> omega) _).pset (by simp <;> omega) _).pset (by simp <;> omega) _).pset (by simp <;> omega) _

end Go.Proofs.YtonleohlplkglaaGreatDoor
