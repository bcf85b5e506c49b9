/- Contracts: Mul of the reference's layer 1. -/
import Derived.Deep.RegionHeld3
import Derived.Test.YtonleohlplkglaaGreatDoorTk
namespace Go.Proofs.YtonleohlplkglaaGreatDoor
open Go Go.RowKit

/-- A box of two cells: a sign and words. -/
def BoxI (w : World) (g : Nat) (s : Bool) (u : Value) : Prop := w.cell? ⟨g, 0, none⟩ = some (.bool s) ∧ w.cell? ⟨g, 1, none⟩ = some u ∧ w.frozen? ⟨g, 0, none⟩ = false ∧ w.frozen? ⟨g, 1, none⟩ = false ∧ g < w.heap.size ∧ NoWord w g

theorem BoxI.ext {w w' : World} {g : Nat} {s : Bool} {u : Value} (h : BoxI w g s u) (hx : Ext w w') : BoxI w' g s u := by
  obtain ⟨h0, h1, h2, h3, h4, h5⟩ := h
  exact ⟨(hx.cell (p := ⟨g, 0, none⟩) h4).trans h0, (hx.cell (p := ⟨g, 1, none⟩) h4).trans h1, (Below.frozen hx (p := ⟨g, 0, none⟩) h4).trans h2, (Below.frozen hx (p := ⟨g, 1, none⟩) h4).trans h3, Nat.lt_of_lt_of_le h4 hx.size, h5.ext h4 hx⟩

theorem setCell_id {w : World} {p : Addr} {v : Value} (h : w.cell? p = some v) : w.setCell p v = w := by
  have e : (w.setCell p v).heap = w.heap := by
    apply Array.ext_getElem?
    intro i
    simp only [World.setCell, Array.getElem?_modify]
    by_cases hi : p.block = i
    · subst hi
      rw [if_pos rfl]
      unfold World.cell? at h
      cases hh : w.heap[p.block]? with
      | none => rw [hh] at h; cases h
      | some o =>
        rw [hh] at h
        cases o with
        | cells c elem fz =>
          have h' : (if p.spot.isSome = true then none else c[p.off]?) = some v := h
          clear h
          simp only [Option.map_some]
          congr 2
          by_cases hs : p.spot.isSome = true
          · rw [if_pos hs] at h'; cases h'
          · rw [if_neg hs] at h' ⊢
            apply Array.ext_getElem?
            intro j
            rw [Array.getElem?_setIfInBounds]
            split
            · rename_i hj; subst hj
              split
              · exact h'.symm
              · rename_i hlt; rw [Array.getElem?_eq_none (by omega)]
            · rfl
        | _ => simp at h
    · rw [if_neg hi]
  have e2 : w.setCell p v = { w with heap := (w.setCell p v).heap } := rfl
  rw [e2, e]

theorem cell_far {w : World} {p q : Addr} {u v : Value} (h : w.cell? q = some v) (hne : p.block ≠ q.block) : (w.setCell p u).cell? q = some v :=
  (World.cell?_setCell_other w p q u (fun e => hne (by rw [e]))).trans h

/-- The boxes of two arguments and of the result, one behind the other. -/
def Boxes3 (w : World) (g : Nat) (s t : Bool) (u v : Value) : Prop := BoxI w g s u ∧ BoxI w (g + 1) t v ∧ BoxI w (g + 1 + 1) false (.slice none 0 0)
theorem Boxes3.ext {w w' : World} {g : Nat} {s t : Bool} {u v : Value} (h : Boxes3 w g s t u v) (hx : Ext w w') : Boxes3 w' g s t u v := ⟨h.1.ext hx, h.2.1.ext hx, h.2.2.ext hx⟩
theorem Boxes3.drew {w : World} {g : Nat} {s t : Bool} {u v : Value} (h : Boxes3 w g s t u v) : Boxes3 w.drew g s t u v := h.ext (Ext.drew w)

theorem BoxI.new (w : World) (s : Bool) (u : Value) (T : TypeId) (hu : ∀ n, u ≠ .int .u32 n) : BoxI (w.alloc (.cells #[.bool s, u] T)) w.heap.size s u := by
  refine ⟨by simp [go_sem], by simp [go_sem], by simp [go_sem], by simp [go_sem], by simp, NoWord.new _ _ _ ?_⟩
  intro x hx n
  simp only [List.mem_toArray, List.mem_cons, List.not_mem_nil, or_false] at hx
  rcases hx with rfl | rfl
  · simp
  · exact hu n

theorem boxes3 (w : World) (s t : Bool) (A A' : Option Addr) (n m c c' : Nat) :
    Boxes3 (((w.alloc (.cells #[.bool s, .slice A n c] 36)).alloc (.cells #[.bool t, .slice A' m c'] 36)).alloc (.cells #[.bool false, .slice none 0 0] 36)) w.heap.size s t (.slice A n c) (.slice A' m c') := by
  refine ⟨?_, ?_, ?_⟩
  · exact (BoxI.new w s _ _ (by simp)).ext ((Ext.alloc _ _).trans (Ext.alloc _ _))
  · have := (BoxI.new (w.alloc (.cells #[.bool s, .slice A n c] 36)) t (.slice A' m c') 36 (by simp)).ext (Ext.alloc _ (.cells #[.bool false, .slice none 0 0] 36))
    simpa using this
  · have := BoxI.new ((w.alloc (.cells #[.bool s, .slice A n c] 36)).alloc (.cells #[.bool t, .slice A' m c'] 36)) false (.slice none 0 0) 36 (by simp)
    simpa using this

set_option maxHeartbeats 1600000 in
theorem ref01_Mul {s t : Bool} {A A' : Option Addr} {n m c c' a b : Nat} {w : World} (h : Words w (.slice A n c) (limbs a)) (h' : Words w (.slice A' m c') (limbs b)) (hs : s = true → a ≠ 0) (ht : t = true → b ≠ 0) (hsz : n + m ≤ 35184372088832) :
    Calls Tryz.prog 220 #[.agg #[.bool s, .slice A n c], .agg #[.bool t, .slice A' m c']] w (Ret w fun r w' => ∃ u, r = .agg #[.bool ((s != t) && decide (0 < a * b)), u] ∧ Words w' u (limbs (a * b))) := by
  have hn := h.len
  have hm := h'.len
  have hN1 := fun w1 (hx : Ext w w1) => ref01_Norm s (h.ext hx)
  have hN2 := fun w1 (hx : Ext w w1) => ref01_Norm t (h'.ext hx)
  have e1 : (s && decide (0 < (limbs a).length)) = s := by
    cases s
    · rfl
    · have : 0 < (limbs a).length := by rw [limbs_pos (hs rfl)]; simp
      simpa using this
  have e2 : (t && decide (0 < (limbs b).length)) = t := by
    cases t
    · rfl
    · have : 0 < (limbs b).length := by rw [limbs_pos (ht rfl)]; simp
      simpa using this
  rw [trimL_limbs, e1, ← hn.1] at hN1
  rw [trimL_limbs, e2, ← hm.1] at hN2
  have HN1 := Lib.hid hN1
  have HN2 := Lib.hid hN2
  have H := Lib.hid h
  have H' := Lib.hid h'
  have hn2 : n ≤ c := hn.2.1
  have hm2 : m ≤ c' := hm.2.1
  have hc2 : n ≤ 35184372088832 := hn.2.2
  have hc2' : m ≤ 35184372088832 := hm.2.2
  clear hN1 hN2 h h' e1 e2 hn hm hs ht
  have hB0 := boxes3 w s t A A' n m c c'
  have HB0 := Lib.hid hB0
  clear hB0
  go_enter Tryz.func220, Tryz.ntmps220
  go_upto_region 1 with fail
  go_cut [] (fun wx => Hid (Boxes3 wx w.heap.size s t (.slice A n c) (.slice A' m c')) ∧ Ext w wx)
  case first =>
    go_region_with (first
      | (go_at_call_of 146 (Value.slice A n c); refine (HN1.out _ ?_).mono ?_; (exact (by repeat (first | exact Ext.refl _ | assumption | refine Ext.pdrewN ?_ _ | refine Ext.pdrew ?_ | refine Ext.palloc ?_ _ | refine Ext.pset ?_ (by simp <;> omega) _ | refine Ext.trans ?_ (by assumption)))); rintro e w1 ⟨rfl, hx1⟩; have hB1 := (Boxes3.ext (Boxes3.drew HB0.out) hx1); have HB1 := Lib.hid hB1; obtain ⟨⟨p0, p1, p2, p3, -, -⟩, ⟨q0, q1, q2, q3, -, -⟩, -⟩ := hB1)
      | (go_at_call_of 146 (Value.slice A' m c'); refine (HN2.out _ ?_).mono ?_; (exact (by repeat (first | exact Ext.refl _ | assumption | refine Ext.pdrewN ?_ _ | refine Ext.pdrew ?_ | refine Ext.palloc ?_ _ | refine Ext.pset ?_ (by simp <;> omega) _ | refine Ext.trans ?_ (by assumption)))); rintro e w2 ⟨rfl, hx2⟩; have hB2 := (Boxes3.ext HB1.out hx2); have HB2 := Lib.hid hB2; clear p0 p1 p2 p3 q0 q1 q2 q3; obtain ⟨⟨p0, p1, p2, p3, -, -⟩, ⟨q0, q1, q2, q3, -, -⟩, -⟩ := hB2))
    all_goals
      go_wp2_with fail
      go_meet
      exact ⟨by rw [setCell_id p0, setCell_id p1, setCell_id q0, setCell_id q1]; exact HB2, by rw [setCell_id p0, setCell_id p1, setCell_id q0, setCell_id q1]; exact (by repeat (first | exact Ext.refl _ | assumption | refine Ext.pdrewN ?_ _ | refine Ext.pdrew ?_ | refine Ext.palloc ?_ _ | refine Ext.pset ?_ (by simp <;> omega) _ | refine Ext.trans ?_ (by assumption)))⟩
  case rest =>
    obtain ⟨HB, hE⟩ := hcut
    clear HB0 HN1 HN2
    have hT := fun w1 (hx : Ext wc w1) => ref01_times ((H.out.ext hE).ext hx) ((H'.out.ext hE).ext hx) hsz
    rw [val_limbs, val_limbs] at hT
    have HT := Lib.hid hT
    clear hT
    obtain ⟨⟨p0, p1, -, -, -, -⟩, ⟨q0, q1, -, -, -, -⟩, -⟩ := HB.out
    go_wp2_with fail
    go_region_held3 (fun w' => w'.cell? ⟨w.heap.size, 0, none⟩ = some (.bool s) ∧ w'.cell? ⟨w.heap.size, 1, none⟩ = some (.slice A n c) ∧ w'.cell? ⟨w.heap.size + 1, 0, none⟩ = some (.bool t) ∧ w'.cell? ⟨w.heap.size + 1, 1, none⟩ = some (.slice A' m c')) (first | (exact ⟨cell_far (cell_far y0 (by dsimp only; omega)) (by dsimp only; omega), cell_far (cell_far y1 (by dsimp only; omega)) (by dsimp only; omega), cell_far (cell_far y2 (by dsimp only; omega)) (by dsimp only; omega), cell_far (cell_far y3 (by dsimp only; omega)) (by dsimp only; omega)⟩) | (go_keep))
      (first
        | (go_at_call 190; refine (HT.out _ ?_).mono ?_; (exact (by repeat (first | exact Ext.refl _ | assumption | refine Ext.pdrewN ?_ _ | refine Ext.pdrew ?_ | refine Ext.palloc ?_ _ | refine Ext.pset ?_ (by simp <;> omega) _ | refine Ext.trans ?_ (by assumption)))); rintro e w1 ⟨v1, rfl, ⟨hfr1, hv1⟩, hx1⟩; obtain ⟨A1, c1, rfl, hl1, hm1⟩ := hv1.form; have HV1 := Lib.hid hv1; clear hv1 hfr1; have hB1 := HB.out.drew.ext hx1; have HB1 := Lib.hid hB1; obtain ⟨⟨r0, r1, -, -, -, -⟩, ⟨r2, r3, -, -, -, -⟩, -⟩ := hB1)
        | (go_at_call 148; refine (ref01_signed _ HV1.out).mono ?_; rintro e w2 ⟨rfl, hx2⟩; have hB2 := HB1.out.ext hx2; have HB2 := Lib.hid hB2; obtain ⟨⟨y0, y1, -, -, -, -⟩, ⟨y2, y3, -, -, -, -⟩, ⟨y4, y5, y6, y7, -, -⟩⟩ := hB2))
    have HX := Lib.hid (Ext.trans (Ext.trans hE (Ext.drew wc)) (Ext.trans hx1 hx2))
    have HVV := Lib.hid (HV1.out.ext hx2)
    have HR : Hid ((trimL (limbs (a * b))) = limbs (a * b)) := trimL_limbs _
    have hlp : decide (0 < (limbs (a * b)).length) = decide (0 < a * b) := by
      apply decide_eq_decide.2
      rcases Nat.eq_zero_or_pos (a * b) with h0 | h0
      · rw [h0, limbs_zero]; simp
      · rw [limbs_pos (by omega)]; simp; omega
    have HLP := Lib.hid hlp
    clear hlp
    go_wp2_with fail
    refine bodyPost_ret ?_ rfl ⟨_, rfl, ⟨.slice A1 (trimL (limbs (a * b))).length c1, rfl, ?_⟩, ?_⟩
    · rw [← HLP.out]
      simp [results, Tryz.results220, go_sem, y4, y5, HR.out]
      cases s <;> cases t <;> rfl
    · rw [HR.out]
      have hb := HB2.out.2.2.2.2.2.2.2
      exact (HVV.out.box hb _ _).box (hb.set_ _ (by simp)) _ _
    · exact (HX.out.pset (by simp <;> omega) _).pset (by simp <;> omega) _

end Go.Proofs.YtonleohlplkglaaGreatDoor
