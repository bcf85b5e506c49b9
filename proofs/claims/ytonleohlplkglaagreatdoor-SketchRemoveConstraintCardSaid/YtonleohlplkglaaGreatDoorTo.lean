/- Contracts: Neg, Sub, FromInt of the reference's layer 1. -/
import Derived.Test.YtonleohlplkglaaGreatDoorTn
namespace Go.Proofs.YtonleohlplkglaaGreatDoor
open Go Go.RowKit

set_option maxHeartbeats 800000 in
theorem ref01_Neg {s : Bool} {v : Value} {a : Nat} {w : World} (h : Words w v (limbs a)) :
    Calls Tryz.prog 243 #[.agg #[.bool s, v]] w fun e w' => e = .returned (.agg #[.bool (!s && decide (0 < a)), v]) ∧ Ext w w' := by
  obtain ⟨A, c, rfl, hl, hm⟩ := h.form
  have hS := fun w' (hw : Ext w w') => ref01_signed (!s) (h.ext hw)
  rw [trimL_limbs, limbs_len_pos] at hS
  have HS := Lib.hid hS
  clear hS h
  generalize (limbs a).length = n at *
  go_enter Tryz.func243, Tryz.ntmps243
  go_wp2_with fail
  refine (HS.out _ (by repeat (first | exact Ext.refl _ | assumption | refine Ext.pdrewN ?_ _ | refine Ext.pdrew ?_ | refine Ext.palloc ?_ _ | refine Ext.pset ?_ (by simp <;> omega) _ | refine Ext.trans ?_ (by assumption)))).mono ?_
  rintro e w' ⟨rfl, hx⟩
  obtain ⟨hc, hf⟩ := bcell hx
  go_wp2_with fail
  refine bodyPost_ret ?_ rfl ⟨rfl, ?_⟩
  · simp [results, Tryz.results243, go_sem, hc]
  · exact ((((Ext.alloc _ _).trans (Ext.alloc _ _)).trans hx).setCell (by simp) _).setCell (by simp) _

set_option maxHeartbeats 1600000 in
theorem ref01_Sub {s t : Bool} {A A' : Option Addr} {n m c c' a b : Nat} {w : World} (h : Words w (.slice A n c) (limbs a)) (h' : Words w (.slice A' m c') (limbs b)) (hs : s = true → a ≠ 0) (hsz : n < 35184372088832) (hsz' : m < 35184372088832) :
    Calls Tryz.prog 239 #[.agg #[.bool s, .slice A n c], .agg #[.bool t, .slice A' m c']] w (Ret w fun r w' => ∃ u, r = .agg #[.bool (addS s (!t && decide (0 < b)) a b && decide (0 < addM s (!t && decide (0 < b)) a b)), u] ∧ Words w' u (limbs (addM s (!t && decide (0 < b)) a b))) := by
  have HN := Lib.hid (fun w1 (hx : Ext w w1) => ref01_Neg (s := t) (h'.ext hx))
  have HA := Lib.hid (fun w1 (hx : Ext w w1) => ref01_Add (s := s) (t := (!t && decide (0 < b))) (h.ext hx) (h'.ext hx) hs (by intro e; simp at e; omega) hsz hsz')
  have HB0 := Lib.hid (boxes3 w s t A A' n m c c')
  clear h h' hs
  generalize (!t && decide (0 < b)) = t' at *
  generalize (addS s t' a b && decide (0 < addM s t' a b)) = rs at *
  generalize limbs (addM s t' a b) = rl at *
  go_enter Tryz.func239, Tryz.ntmps239
  go_wp2_with fail
  obtain ⟨⟨p0, p1, -, -, -, -⟩, ⟨q0, q1, -, -, -, -⟩, -⟩ := HB0.out
  generalize hwb : ((w.alloc (Obj.cells #[Value.bool s, Value.slice A n c] 36)).alloc (Obj.cells #[Value.bool t, Value.slice A' m c'] 36)).alloc (Obj.cells #[Value.bool false, Value.slice none 0 0] 36) = wb at *
  have hE : Ext w wb := by rw [← hwb]; exact (by repeat (first | exact Ext.refl _ | assumption | refine Ext.pdrewN ?_ _ | refine Ext.pdrew ?_ | refine Ext.palloc ?_ _ | refine Ext.pset ?_ (by simp <;> omega) _ | refine Ext.trans ?_ (by assumption)))
  clear hwb
  go_region_held3 (fun w' => w'.cell? ⟨w.heap.size, 0, none⟩ = some (.bool s) ∧ w'.cell? ⟨w.heap.size, 1, none⟩ = some (.slice A n c) ∧ w'.cell? ⟨w.heap.size + 1, 0, none⟩ = some (.bool t) ∧ w'.cell? ⟨w.heap.size + 1, 1, none⟩ = some (.slice A' m c')) (first | (exact ⟨cell_far (cell_far y0 (by dsimp only; omega)) (by dsimp only; omega), cell_far (cell_far y1 (by dsimp only; omega)) (by dsimp only; omega), cell_far (cell_far y2 (by dsimp only; omega)) (by dsimp only; omega), cell_far (cell_far y3 (by dsimp only; omega)) (by dsimp only; omega)⟩) | (exact ⟨y0, y1, y2, y3⟩) | (exact ⟨r0, r1, r2, r3⟩) | (go_keep))
    (first
      | (go_at_call 243; refine (HN.out _ ?_).mono ?_; (exact (by repeat (first | exact Ext.refl _ | assumption | refine Ext.pdrewN ?_ _ | refine Ext.pdrew ?_ | refine Ext.palloc ?_ _ | refine Ext.pset ?_ (by simp <;> omega) _ | refine Ext.trans ?_ (by assumption)))); rintro e w1 ⟨rfl, hx1⟩; have hB1 := HB0.out.drew.ext hx1; have HB1 := Lib.hid hB1; obtain ⟨⟨r0, r1, -, -, -, -⟩, ⟨r2, r3, -, -, -, -⟩, -⟩ := hB1)
      | (go_at_call 240; refine (HA.out _ ?_).mono ?_; (exact (by repeat (first | exact Ext.refl _ | assumption | refine Ext.pdrewN ?_ _ | refine Ext.pdrew ?_ | refine Ext.palloc ?_ _ | refine Ext.pset ?_ (by simp <;> omega) _ | refine Ext.trans ?_ (by assumption)))); rintro e w2 ⟨v2, rfl, ⟨u2, rfl, hu2⟩, hx2⟩; obtain ⟨A2, c2, rfl, hl2, hm2⟩ := hu2.form; have HU2 := Lib.hid hu2; clear hu2; have hB2 := HB1.out.ext hx2; have HB2 := Lib.hid hB2; obtain ⟨⟨y0, y1, -, -, -, -⟩, ⟨y2, y3, -, -, -, -⟩, ⟨y4, y5, y6, y7, -, -⟩⟩ := hB2))
  have HX := Lib.hid (Ext.trans (Ext.trans hE (Ext.drew wb)) (Ext.trans hx1 hx2))
  go_wp2_with fail
  refine bodyPost_ret ?_ rfl ⟨_, rfl, ⟨.slice A2 rl.length c2, rfl, ?_⟩, ?_⟩
  · simp [results, Tryz.results239, go_sem, y4, y5]
  · have hb := HB2.out.2.2.2.2.2.2.2
    exact (HU2.out.box hb _ _).box (hb.set_ _ (by simp)) _ _
  · exact (HX.out.pset (by simp <;> omega) _).pset (by simp <;> omega) _

set_option maxHeartbeats 800000 in
theorem ref01_FromInt (n : Nat) (hn : n < 4294967296) (w : World) :
    Calls Tryz.prog 127 #[.int .i64 (n : Int)] w (Ret w fun r w' => ∃ u, r = .agg #[.bool false, u] ∧ Words w' u (limbs n)) := by
  have hnn : ¬ ((n : Int) < 0) := by omega
  have HW := Lib.hid (fun W => ref01_words n (by omega) W)
  go_enter Tryz.func127, Tryz.ntmps127
  go_wp2_with fail
  refine (HW.out _).mono ?_
  rintro e w1 ⟨v, rfl, hv, hx1⟩
  obtain ⟨A, c, rfl, hl, hm⟩ := hv.form
  have hS := ref01_signed false hv
  rw [trimL_limbs] at hS
  have HS := Lib.hid hS
  have HV := Lib.hid hv
  have hb := BoxI.new w false (.slice none 0 0) 36 (by simp)
  have HB1 := Lib.hid (hb.ext hx1)
  clear hS hv hb
  go_wp2_with fail
  refine HS.out.mono ?_
  rintro e w2 ⟨rfl, hx2⟩
  have hB2 := HB1.out.ext hx2
  have HB2 := Lib.hid hB2
  have HVV := Lib.hid (HV.out.ext hx2)
  obtain ⟨y4, y5, y6, y7, -, -⟩ := hB2
  have HX := Lib.hid (Ext.trans (Ext.trans (Ext.alloc w _) hx1) hx2)
  go_wp2_with fail
  refine bodyPost_ret ?_ rfl ⟨_, rfl, ⟨.slice A (limbs n).length c, rfl, ?_⟩, ?_⟩
  · simp [results, Tryz.results127, go_sem, y4, y5]
  · have hb := HB2.out.2.2.2.2.2
    exact (HVV.out.box hb _ _).box (hb.set_ _ (by simp)) _ _
  · exact (HX.out.pset (by simp <;> omega) _).pset (by simp <;> omega) _

end Go.Proofs.YtonleohlplkglaaGreatDoor
