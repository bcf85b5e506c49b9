/- Contracts: DivMod of the reference's layer 1, for numbers that are not negative. -/
import Derived.Test.YtceobmnljdhkmaaGreatDoorYB
namespace Go.Proofs.YtceobmnljdhkmaaGreatDoor
open Go Go.RowKit
def Boxes4 (w : World) (g : Nat) (s t : Bool) (u v : Value) : Prop := BoxI w g s u ∧ BoxI w (g + 1) t v ∧ BoxI w (g + 1 + 1) false (.slice none 0 0) ∧ BoxI w (g + 1 + 1 + 1) false (.slice none 0 0)
theorem Boxes4.ext {w w' : World} {g : Nat} {s t : Bool} {u v : Value} (h : Boxes4 w g s t u v) (hx : Ext w w') : Boxes4 w' g s t u v := ⟨h.1.ext hx, h.2.1.ext hx, h.2.2.1.ext hx, h.2.2.2.ext hx⟩
theorem Boxes4.drew {w : World} {g : Nat} {s t : Bool} {u v : Value} (h : Boxes4 w g s t u v) : Boxes4 w.drew g s t u v := h.ext (Ext.drew w)
theorem boxes4 (w : World) (s t : Bool) (A A' : Option Addr) (n m c c' : Nat) :
  Boxes4 ((((w.alloc (.cells #[.bool s, .slice A n c] 55)).alloc (.cells #[.bool t, .slice A' m c'] 55)).alloc (.cells #[.bool false, .slice none 0 0] 55)).alloc (.cells #[.bool false, .slice none 0 0] 55)) w.heap.size s t (.slice A n c) (.slice A' m c') := by
 obtain ⟨h1, h2, h3⟩ := (boxes3 w s t A A' n m c c').ext (Ext.alloc _ (.cells #[.bool false, .slice none 0 0] 55))
 refine ⟨h1, h2, h3, ?_⟩
 have := BoxI.new (((w.alloc (.cells #[.bool s, .slice A n c] 55)).alloc (.cells #[.bool t, .slice A' m c'] 55)).alloc (.cells #[.bool false, .slice none 0 0] 55)) false (.slice none 0 0) 55 (by simp)
 simpa using this
theorem cell_new {w : World} {p : Addr} {v : Value} {o : Obj} (h : w.cell? p = some v) : (w.alloc o).cell? p = some v := by
 have hlt : p.block < w.heap.size := by
  rcases Nat.lt_or_ge p.block w.heap.size with h1 | h1
  ·exact h1
  ·unfold World.cell? at h; rw [Array.getElem?_eq_none h1] at h; cases h
 rw [World.cell?_alloc_lt w o p hlt]; exact h
theorem BoxI.put {w : World} {g : Nat} {s : Bool} {u : Value} (h : BoxI w g s u) (s' : Bool) {u' : Value} (hu : ∀ n, u' ≠ .int .u32 n) : BoxI ((w.setCell ⟨g, 0, none⟩ (.bool s')).setCell ⟨g, 1, none⟩ u') g s' u' := by
 obtain ⟨h0, h1, h2, h3, h4, h5⟩ := h
 have k1 : (w.setCell ⟨g, 0, none⟩ (.bool s')).cell? ⟨g, 1, none⟩ = some u := (World.cell?_setCell_other w _ _ _ (by simp)).trans h1
 refine ⟨?_, World.cell?_setCell_same _ _ _ k1, ?_, ?_, ?_, ?_⟩
 ·rw [World.cell?_setCell_other _ _ _ _ (by simp)]; exact World.cell?_setCell_same _ _ _ h0
 ·simpa [go_sem] using h2
 ·simpa [go_sem] using h3
 ·simpa [World.setCell] using h4
 ·exact (h5.set_ 0 (by simp)).set_ 1 hu
theorem BoxI.far {w : World} {g h : Nat} {s : Bool} {u : Value} (hb : BoxI w g s u) (hne : h ≠ g) (x y : Value) : BoxI ((w.setCell ⟨h, 0, none⟩ x).setCell ⟨h, 1, none⟩ y) g s u := by
 obtain ⟨h0, h1, h2, h3, h4, h5⟩ := hb
 have e : ∀ j, ((w.setCell ⟨h, 0, none⟩ x).setCell ⟨h, 1, none⟩ y).cell? ⟨g, j, none⟩ = w.cell? ⟨g, j, none⟩ := fun j => by
  rw [World.cell?_setCell_other _ _ _ _ (by intro e; injection e with e1 _ _; exact hne e1), World.cell?_setCell_other _ _ _ _ (by intro e; injection e with e1 _ _; exact hne e1)]
 refine ⟨(e 0).trans h0, (e 1).trans h1, ?_, ?_, ?_, fun j n => by rw [e j]; exact h5 j n⟩
 ·simpa [go_sem] using h2
 ·simpa [go_sem] using h3
 ·simpa [World.setCell] using h4
theorem Words.put {w : World} {g : Nat} {s : Bool} {u v : Value} {xs : List Nat} (h : Words w v xs) (hb : BoxI w g s u) (s' : Bool) (u' : Value) : Words ((w.setCell ⟨g, 0, none⟩ (.bool s')).setCell ⟨g, 1, none⟩ u') v xs :=
 (h.box hb.2.2.2.2.2 0 _).box (hb.2.2.2.2.2.set_ 0 (by simp)) 1 _
theorem sub_rest_sign (a q : Nat) (hq : q ≤ a) : addS false (!false && decide (0 < q)) a q = false ∧ addM false (!false && decide (0 < q)) a q = a - q := by
 rcases Nat.eq_zero_or_pos q with h0 | h0
 ·subst h0; simp [addS, addM]
 ·have : decide (0 < q) = true := by simpa using h0
  simp [addS, addM, this, hq]
theorem sub_rest {A : Option Addr} {n c a b : Nat} {u : Value} {w : World} (h : Words w (.slice A n c) (limbs a)) (h' : Words w u (limbs (a / b * b))) (hsz : n ≤ 230000000) (hsz' : (limbs (a / b * b)).length ≤ 230000000) :
  Calls Tryz.prog 345 #[.agg #[.bool false, .slice A n c], .agg #[.bool false, u]] w (Ret w fun r w' => ∃ u', r = .agg #[.bool false, u'] ∧ Words w' u' (limbs (a % b))) := by
 obtain ⟨A', c', rfl, hl, hm⟩ := h'.form
 have := ref01_Sub (s := false) (t := false) h h' (by simp) (by omega) (by omega)
 obtain ⟨e1, e2⟩ := sub_rest_sign a (a / b * b) (Nat.div_mul_le_self a b)
 rw [e1, e2, Bool.false_and] at this
 have e3 : a - a / b * b = a % b := by
  have := Nat.div_add_mod a b
  rw [Nat.mul_comm] at this
  omega
 rw [e3] at this
 exact this
set_option maxHeartbeats 3200000 in
theorem ref01_DivMod {A A' : Option Addr} {n m c c' a b : Nat} {w : World} (h : Words w (.slice A n c) (limbs a)) (h' : Words w (.slice A' m c') (limbs b)) (hb : 0 < b) (hsz : n ≤ 230000000) (hsz' : m ≤ 230000000) :
  Calls Tryz.prog 327 #[.agg #[.bool false, .slice A n c], .agg #[.bool false, .slice A' m c']] w (Ret w fun r w' => ∃ u1 u2, r = .tuple #[.agg #[.bool false, u1], .agg #[.bool false, u2], .int .i64 0] ∧ Words w' u1 (limbs (a / b)) ∧ Words w' u2 (limbs (a % b))) := by
 have hn := h.len
 have hm := h'.len
 have hN1 := fun w1 (hx : Ext w w1) => ref01_Norm false (h.ext hx)
 have hN2 := fun w1 (hx : Ext w w1) => ref01_Norm false (h'.ext hx)
 rw [trimL_limbs, Bool.false_and, ← hn.1] at hN1
 rw [trimL_limbs, Bool.false_and, ← hm.1] at hN2
 have HN1 := Lib.hid hN1
 have HN2 := Lib.hid hN2
 have H := Lib.hid h
 have H' := Lib.hid h'
 have HLN := Lib.hid hn.1
 have hm0 : 0 < m := by rw [hm.1, limbs_pos (by omega)]; simp
 have hn2 : n ≤ c := hn.2.1
 have hm2 : m ≤ c' := hm.2.1
 have hc2 : n ≤ 35184372088832 := hn.2.2
 have hc2' : m ≤ 35184372088832 := hm.2.2
 clear hN1 hN2 h h' hn hm
 have HB0 := Lib.hid (boxes4 w false false A A' n m c c')
 go_enter Tryz.func327, Tryz.ntmps327
 go_upto_region 1 with fail
 go_cut [] (fun wx => Hid (Boxes4 wx w.heap.size false false (.slice A n c) (.slice A' m c')) ∧ Ext w wx)
 case first =>
  go_region_with (first
   | (go_at_call_of 91 (Value.slice A n c); refine (HN1.out _ ?_).mono ?_; (exact (by repeat first|exact xA _|assumption|refine xB ?_ _|refine xC ?_|refine xD ?_ _|refine xE ?_ (by simp <;> omega) _|refine xF ?_ (by assumption))); rintro e w1 ⟨rfl, hx1⟩; have hB1 := (Boxes4.ext (Boxes4.drew HB0.out) hx1); have HB1 := Lib.hid hB1; obtain ⟨⟨p0, p1, p2, p3, -, -⟩, ⟨q0, q1, q2, q3, -, -⟩, -⟩ := hB1)
   | (go_at_call_of 91 (Value.slice A' m c'); refine (HN2.out _ ?_).mono ?_; (exact (by repeat first|exact xA _|assumption|refine xB ?_ _|refine xC ?_|refine xD ?_ _|refine xE ?_ (by simp <;> omega) _|refine xF ?_ (by assumption))); rintro e w2 ⟨rfl, hx2⟩; have hB2 := (Boxes4.ext HB1.out hx2); have HB2 := Lib.hid hB2; clear p0 p1 p2 p3 q0 q1 q2 q3; obtain ⟨⟨p0, p1, p2, p3, -, -⟩, ⟨q0, q1, q2, q3, -, -⟩, -⟩ := hB2))
  all_goals
   go_wp2_with fail
   go_meet
   exact ⟨by rw [setCell_id p0, setCell_id p1, setCell_id q0, setCell_id q1]; exact HB2, by rw [setCell_id p0, setCell_id p1, setCell_id q0, setCell_id q1]; exact (by repeat first|exact xA _|assumption|refine xB ?_ _|refine xC ?_|refine xD ?_ _|refine xE ?_ (by simp <;> omega) _|refine xF ?_ (by assumption))⟩
 case rest =>
  obtain ⟨HB, hE⟩ := hcut
  clear HB0 HN1 HN2
  have hmne : ((m : Int) == 0) = false := by simp; omega
  have HD := Lib.hid (ref01_divide (H.out.ext hE) (H'.out.ext hE) hb (by omega))
  obtain ⟨⟨p0, p1, -, -, -, -⟩, ⟨q0, q1, -, -, -, -⟩, -⟩ := HB.out
  go_wp2_with fail
  refine HD.out.mono ?_
  rintro e w1 ⟨v, rfl, ⟨v1, v2, rfl, hv1, hv2⟩, hx1⟩
  obtain ⟨A1, c1, rfl, hl1, hm1⟩ := hv1.form
  have HQ := Lib.hid hv1
  have hB1 := HB.out.ext hx1
  have HB1 := Lib.hid hB1
  have hE1 := hE.trans hx1
  clear hv1 hv2 HD HB p0 p1 q0 q1 hE
  obtain ⟨⟨p0, p1, -, -, -, -⟩, ⟨q0, q1, -, -, -, -⟩, -⟩ := hB1
  have hS := ref01_signed false HQ.out
  rw [trimL_limbs, Bool.false_and] at hS
  have HS := Lib.hid hS
  clear hS hx1
  go_wp2_with fail
  refine HS.out.mono ?_
  rintro e w2 ⟨rfl, hx2⟩
  have hB9 := BoxI.new w2 false (.slice A1 (limbs (a / b)).length c1) 55 (by simp)
  have HQ2 := Lib.hid ((HQ.out.ext hx2).ext (Ext.alloc w2 (.cells #[.bool false, .slice A1 (limbs (a / b)).length c1] 55)))
  have hB2 := (HB1.out.ext hx2).ext (Ext.alloc w2 (.cells #[.bool false, .slice A1 (limbs (a / b)).length c1] 55))
  have hE2 : Ext w (w2.alloc (.cells #[.bool false, .slice A1 (limbs (a / b)).length c1] 55)) := (hE1.trans hx2).trans (Ext.alloc _ _)
  have hg9 : w.heap.size + 1 + 1 + 1 < w2.heap.size := (HB1.out.ext hx2).2.2.2.2.2.2.2.1
  have HB2 := Lib.hid hB2
  have HB9 := Lib.hid hB9
  clear HB1 p0 p1 q0 q1 HS HQ hB2 hB9 hE1 hx2
  go_wp2_with fail
  generalize w2.alloc (.cells #[.bool false, .slice A1 (limbs (a / b)).length c1] 55) = w3 at *
  generalize w2.heap.size = g9 at *
  have hlq : (limbs (a / b)).length ≤ 230000000 := by have := limbs_length_mono (Nat.div_le_self a b); have := HLN.out; omega
  have hM := fun w4 (hx : Ext w3 w4) => ref01_Mul (s := false) (t := false) (HQ2.out.ext hx) ((H'.out.ext hE2).ext hx) (by simp) (by simp) (by omega)
  simp only [bne_self_eq_false, Bool.false_and] at hM
  have HM := Lib.hid hM
  have hlp : (limbs (a / b * b)).length ≤ 230000000 := by have := limbs_length_mono (Nat.div_mul_le_self a b); have := HLN.out; omega
  have hS := fun w4 (hx : Ext w3 w4) (u : Value) (hu : Words w4 u (limbs (a / b * b))) => sub_rest ((H.out.ext hE2).ext hx) hu hsz hlp
  have HS := Lib.hid hS
  clear hM hS
  generalize (limbs (a / b)).length = lq at *
  obtain ⟨⟨p0, p1, -, -, -, -⟩, ⟨q0, q1, -, -, -, -⟩, -⟩ := HB2.out
  obtain ⟨o0, o1, -, -, -, -⟩ := HB9.out
  go_cut [10] (fun s10 wx => ∃ (g10 : Nat) (A5 : Option Addr) (c5 : Nat), s10 = .pointer (some ⟨g10, 0, none⟩) ∧ Hid (BoxI wx g10 false (.slice A5 (limbs (a % b)).length c5) ∧ Words wx (.slice A5 (limbs (a % b)).length c5) (limbs (a % b)) ∧ g9 < g10) ∧ Ext w3 wx)
  case first =>
   have n1 := HB2.out.1.2.2.2.2.1
   have n2 := HB2.out.2.1.2.2.2.2.1
   have n3 := HB9.out.2.2.2.2.1
   go_region_held3 (fun w' => w'.cell? ⟨w.heap.size, 0, none⟩ = some (.bool false) ∧ w'.cell? ⟨w.heap.size, 1, none⟩ = some (.slice A n c) ∧ w'.cell? ⟨w.heap.size + 1, 0, none⟩ = some (.bool false) ∧ w'.cell? ⟨w.heap.size + 1, 1, none⟩ = some (.slice A' m c') ∧ w'.cell? ⟨g9, 0, none⟩ = some (.bool false) ∧ w'.cell? ⟨g9, 1, none⟩ = some (.slice A1 lq c1))
    (first | (exact ⟨y0, y1, y2, y3, y4, y5⟩) | (exact ⟨r0, r1, r2, r3, r4, r5⟩) | (exact ⟨p0, p1, q0, q1, o0, o1⟩) | (exact ⟨cell_new y0, cell_new y1, cell_new y2, cell_new y3, cell_new y4, cell_new y5⟩) | (exact ⟨cell_new r0, cell_new r1, cell_new r2, cell_new r3, cell_new r4, cell_new r5⟩) | (exact ⟨cell_new p0, cell_new p1, cell_new q0, cell_new q1, cell_new o0, cell_new o1⟩) | (exact ⟨cell_far (cell_far y0 (by dsimp only; omega)) (by dsimp only; omega), cell_far (cell_far y1 (by dsimp only; omega)) (by dsimp only; omega), cell_far (cell_far y2 (by dsimp only; omega)) (by dsimp only; omega), cell_far (cell_far y3 (by dsimp only; omega)) (by dsimp only; omega), cell_far (cell_far y4 (by dsimp only; omega)) (by dsimp only; omega), cell_far (cell_far y5 (by dsimp only; omega)) (by dsimp only; omega)⟩) | (go_keep))
    (first
     | (go_at_call 294; refine (HM.out _ ?_).mono ?_; (exact (by repeat first|exact xA _|assumption|refine xB ?_ _|refine xC ?_|refine xD ?_ _|refine xE ?_ (by simp <;> omega) _|refine xF ?_ (by assumption))); rintro e w4 ⟨v4, rfl, ⟨u4, rfl, hu4⟩, hx4⟩; have HU4 := Lib.hid hu4; have hE4 : Ext w3 w4 := (by repeat first|exact xA _|assumption|refine xB ?_ _|refine xC ?_|refine xD ?_ _|refine xE ?_ (by simp <;> omega) _|refine xF ?_ (by assumption)); have l4 := hE4.size; clear hu4; have HB4 := Lib.hid (HB2.out.ext hE4); have HB94 := Lib.hid (HB9.out.ext hE4); obtain ⟨⟨r0, r1, -, -, -, -⟩, ⟨r2, r3, -, -, -, -⟩, -⟩ := HB4.out; obtain ⟨r4, r5, -, -, -, -⟩ := HB94.out)
     | (go_at_call 345; refine (HS.out _ ?_ _ ?_).mono ?_; (exact (by repeat first|exact xA _|assumption|refine xB ?_ _|refine xC ?_|refine xD ?_ _|refine xE ?_ (by simp <;> omega) _|refine xF ?_ (by assumption))); (first | exact HU4.out | exact HU4.out.ext (Ext.alloc _ _)); rintro e w5 ⟨v5, rfl, ⟨u5, rfl, hu5⟩, hx5⟩; obtain ⟨A5, c5, rfl, hl5, hm5⟩ := hu5.form; have HU5 := Lib.hid hu5; clear hu5; have hE5 : Ext w3 w5 := (by repeat first|exact xA _|assumption|refine xB ?_ _|refine xC ?_|refine xD ?_ _|refine xE ?_ (by simp <;> omega) _|refine xF ?_ (by assumption)); have l5 := hE5.size; have HB5 := Lib.hid (HB2.out.ext hE5); have HB95 := Lib.hid (HB9.out.ext hE5); obtain ⟨⟨y0, y1, -, -, -, -⟩, ⟨y2, y3, -, -, -, -⟩, -⟩ := HB5.out; obtain ⟨y4, y5, -, -, -, -⟩ := HB95.out; (first | (have HN5 : BoxI w5 w3.heap.size false (.slice none 0 0) := ((BoxI.new w3.drew false (.slice none 0 0) 55 (by simp)).ext hx4).ext hx5; have HN6 := Lib.hid HN5; obtain ⟨z0, z1, z2, z3, -, -⟩ := HN5) | (have HN5 : BoxI w5 w4.heap.size false (.slice none 0 0) := (BoxI.new w4 false (.slice none 0 0) 55 (by simp)).ext hx5; have HN6 := Lib.hid HN5; obtain ⟨z0, z1, z2, z3, -, -⟩ := HN5) | skip)))
   ·have hB := BoxI.new w5 false (.slice A5 (limbs (a % b)).length c5) 55 (by simp)
    have hF := Lib.hid (And.intro hB (And.intro (HU5.out.ext (Ext.alloc w5 (.cells #[.bool false, .slice A5 (limbs (a % b)).length c5] 55))) (Nat.lt_of_lt_of_le n3 hE5.size)))
    clear hB
    go_wp2_with fail
    go_meet
    exact ⟨_, A5, c5, rfl, hF, (by repeat first|exact xA _|assumption|refine xB ?_ _|refine xC ?_|refine xD ?_ _|refine xE ?_ (by simp <;> omega) _|refine xF ?_ (by assumption))⟩
   ·have hF := Lib.hid (And.intro (HN6.out.put false (u' := .slice A5 (limbs (a % b)).length c5) (by simp)) (And.intro (HU5.out.put HN6.out false (.slice A5 (limbs (a % b)).length c5)) (Nat.lt_of_lt_of_le n3 hE4.size)))
    go_wp2_with fail
    go_meet
    exact ⟨_, A5, c5, rfl, hF, (hE5.pset (by simpa using hE4.size) _).pset (by simpa using hE4.size) _⟩
   ·have hF := Lib.hid (And.intro (HN6.out.put false (u' := .slice A5 (limbs (a % b)).length c5) (by simp)) (And.intro (HU5.out.put HN6.out false (.slice A5 (limbs (a % b)).length c5)) n3))
    go_wp2_with fail
    go_meet
    exact ⟨_, A5, c5, rfl, hF, (hE5.pset (Nat.le_refl _) _).pset (Nat.le_refl _) _⟩
  case rest =>
   obtain ⟨g10, A5, c5, rfl, HF, hE6⟩ := hcut
   have HBF := Lib.hid (HB2.out.ext hE6)
   have HB9F := Lib.hid (HB9.out.ext hE6)
   have HQF := Lib.hid (HQ2.out.ext hE6)
   have hE7 := hE2.trans hE6
   clear HB2 HB9 HM HS HQ2 p0 p1 q0 q1 o0 o1 hE2 hE6
   have hs2 := fun w4 (hx : Ext wc w4) => ref01_Sign false ((H'.out.ext hE7).ext hx)
   rw [trimL_limbs, show sgnW false (limbs b).length = 1 by unfold sgnW; rw [limbs_pos (by omega)]; simp] at hs2
   have HS2 := Lib.hid hs2
   have hs1 := fun w4 (hx : Ext wc w4) => ref01_Sign false (HF.out.2.1.ext hx)
   rw [trimL_limbs] at hs1
   clear hs2
   obtain ⟨o0, o1, -, -, -, -⟩ := HF.out.1
   obtain ⟨⟨p0, p1, -, -, -, -⟩, ⟨q0, q1, -, -, -, -⟩, -⟩ := HBF.out
   obtain ⟨sg, hsg, hsg2⟩ : ∃ sg : Int, sgnW false (limbs (a % b)).length = sg ∧ (sg = 0 ∨ sg = 1) := ⟨_, rfl, by unfold sgnW; split <;> simp⟩
   rw [hsg] at hs1
   have HS1 := Lib.hid hs1
   have HWF := Lib.hid HF.out.2
   have HBR := Lib.hid HF.out.1
   clear hs1 hsg HF
   generalize (limbs (a % b)).length = lr at *
   go_upto_region 7 with fail
   go_cut [46] (fun s46 wx => s46 = .bool false ∧ Ext wc wx)
   case first =>
    rcases hsg2 with rfl | rfl
    all_goals
     go_region_held3 (fun w' => w'.cell? ⟨g10, 0, none⟩ = some (.bool false) ∧ w'.cell? ⟨g10, 1, none⟩ = some (.slice A5 lr c5) ∧ w'.cell? ⟨w.heap.size + 1, 0, none⟩ = some (.bool false) ∧ w'.cell? ⟨w.heap.size + 1, 1, none⟩ = some (.slice A' m c')) (first | (exact ⟨y0, y1, y2, y3⟩) | (exact ⟨r0, r1, r2, r3⟩) | (exact ⟨o0, o1, q0, q1⟩) | (go_keep))
      (first
       | (go_at_call_of 47 (Value.slice A5 lr c5); refine (HS1.out _ ?_).mono ?_; (exact (by repeat first|exact xA _|assumption|refine xB ?_ _|refine xC ?_|refine xD ?_ _|refine xE ?_ (by simp <;> omega) _|refine xF ?_ (by assumption))); rintro e w4 ⟨rfl, hx4⟩; have hE4 : Ext wc w4 := (by repeat first|exact xA _|assumption|refine xB ?_ _|refine xC ?_|refine xD ?_ _|refine xE ?_ (by simp <;> omega) _|refine xF ?_ (by assumption)); obtain ⟨r0, r1, -, -, -, -⟩ := HBR.out.ext hE4; obtain ⟨r2, r3, -, -, -, -⟩ := HBF.out.2.1.ext hE4)
       | (go_at_call_of 47 (Value.slice A' m c'); refine (HS2.out _ ?_).mono ?_; (exact (by repeat first|exact xA _|assumption|refine xB ?_ _|refine xC ?_|refine xD ?_ _|refine xE ?_ (by simp <;> omega) _|refine xF ?_ (by assumption))); rintro e w5 ⟨rfl, hx5⟩; have hE5 : Ext wc w5 := (by repeat first|exact xA _|assumption|refine xB ?_ _|refine xC ?_|refine xD ?_ _|refine xE ?_ (by simp <;> omega) _|refine xF ?_ (by assumption)); obtain ⟨y0, y1, -, -, -, -⟩ := HBR.out.ext hE5; obtain ⟨y2, y3, -, -, -, -⟩ := HBF.out.2.1.ext hE5))
     go_wp2_with fail
     go_meet
     exact ⟨rfl, (by repeat first|exact xA _|assumption|refine xB ?_ _|refine xC ?_|refine xD ?_ _|refine xE ?_ (by simp <;> omega) _|refine xF ?_ (by assumption))⟩
   case rest =>
    obtain ⟨rfl, hE8⟩ := hcut
    have hl9 := HWF.out.2
    have HX := Lib.hid (hE7.trans hE8)
    have HW1 := Lib.hid (HQF.out.ext hE8)
    have HW2 := Lib.hid (HWF.out.1.ext hE8)
    have HB4 := Lib.hid (HBF.out.ext hE8)
    obtain ⟨-, -, ⟨f0, f1, f2, f3, f4, -⟩, ⟨k0, k1, k2, k3, k4, -⟩⟩ := HBF.out.ext hE8
    obtain ⟨y0, y1, -, -, -, -⟩ := HB9F.out.ext hE8
    obtain ⟨y2, y3, -, -, -, -⟩ := HBR.out.ext hE8
    clear p0 p1 q0 q1 o0 o1 HS1 HS2 HBF HB9F HBR HQF HWF hE7 hE8 hsg2
    have ne1 : w.heap.size + 1 + 1 ≠ g9 := by omega
    have ne2 : w.heap.size + 1 + 1 ≠ g10 := by omega
    have ne3 : w.heap.size + 1 + 1 + 1 ≠ g9 := by omega
    have ne4 : w.heap.size + 1 + 1 + 1 ≠ g10 := by omega
    have HNE := Lib.hid (And.intro ne1 (And.intro ne2 (And.intro ne3 ne4)))
    clear ne1 ne2 ne3 ne4
    go_wp2_with fail
    go_region_held3 (fun w' => w'.cell? ⟨g9, 0, none⟩ = some (.bool false) ∧ w'.cell? ⟨g9, 1, none⟩ = some (.slice A1 lq c1) ∧ w'.cell? ⟨g10, 0, none⟩ = some (.bool false) ∧ w'.cell? ⟨g10, 1, none⟩ = some (.slice A5 lr c5)) (first | (exact ⟨y0, y1, y2, y3⟩) | (exact ⟨cell_far (cell_far y0 HNE.out.1) HNE.out.1, cell_far (cell_far y1 HNE.out.1) HNE.out.1, cell_far (cell_far y2 HNE.out.2.1) HNE.out.2.1, cell_far (cell_far y3 HNE.out.2.1) HNE.out.2.1⟩) | (exact ⟨cell_far (cell_far (cell_far (cell_far y0 HNE.out.1) HNE.out.1) HNE.out.2.2.1) HNE.out.2.2.1, cell_far (cell_far (cell_far (cell_far y1 HNE.out.1) HNE.out.1) HNE.out.2.2.1) HNE.out.2.2.1, cell_far (cell_far (cell_far (cell_far y2 HNE.out.2.1) HNE.out.2.1) HNE.out.2.2.2) HNE.out.2.2.2, cell_far (cell_far (cell_far (cell_far y3 HNE.out.2.1) HNE.out.2.1) HNE.out.2.2.2) HNE.out.2.2.2⟩) | (go_keep)) (fail)
    go_wp2_with fail
    refine bodyPost_ret (v := .tuple #[.agg #[.bool false, .slice A1 lq c1], .agg #[.bool false, .slice A5 lr c5], .int .i64 0]) ?_ rfl ⟨_, rfl, ⟨.slice A1 lq c1, .slice A5 lr c5, rfl, ?_, ?_⟩, ?_⟩
    ·simp [results, Tryz.results327, go_sem, f0, f1, k0, k1]
    ·have hb4 := HB4.out.2.2.1
     have hb5 : BoxI ((wc.setCell ⟨w.heap.size + 1 + 1, 0, none⟩ (.bool false)).setCell ⟨w.heap.size + 1 + 1, 1, none⟩ (.slice A1 lq c1)) (w.heap.size + 1 + 1 + 1) false (.slice none 0 0) := HB4.out.2.2.2.far (by omega) _ _
     exact ((HW1.out.put hb4 false _).put hb5 false _).ext (Ext.drew _)
    ·have hb4 := HB4.out.2.2.1
     have hb5 : BoxI ((wc.setCell ⟨w.heap.size + 1 + 1, 0, none⟩ (.bool false)).setCell ⟨w.heap.size + 1 + 1, 1, none⟩ (.slice A1 lq c1)) (w.heap.size + 1 + 1 + 1) false (.slice none 0 0) := HB4.out.2.2.2.far (by omega) _ _
     exact ((HW2.out.put hb4 false _).put hb5 false _).ext (Ext.drew _)
    ·exact ((((HX.out.pset (by simp <;> omega) _).pset (by simp <;> omega) _).pset (by simp <;> omega) _).pset (by simp <;> omega) _).pdrew
end Go.Proofs.YtceobmnljdhkmaaGreatDoor
