/- Contracts: Add of the reference's layer 1. -/
import Derived.Test.YtonleohlplkglaaGreatDoorTm
namespace Go.Proofs.YtonleohlplkglaaGreatDoor
open Go Go.RowKit

theorem canon_sign {s : Bool} {a : Nat} (hs : s = true → a ≠ 0) : (s && decide (0 < (limbs a).length)) = s := by
  cases s
  · rfl
  · have : 0 < (limbs a).length := by rw [limbs_pos (hs rfl)]; simp
    simpa using this
theorem limbs_len_pos (a : Nat) : decide (0 < (limbs a).length) = decide (0 < a) := by
  apply decide_eq_decide.2
  rcases Nat.eq_zero_or_pos a with h0 | h0
  · rw [h0, limbs_zero]; simp
  · rw [limbs_pos (by omega)]; simp; omega

/-- The sign and the absolute value of a sum. -/
def addS (s t : Bool) (a b : Nat) : Bool := if s = t then s else if b ≤ a then s else t
def addM (s t : Bool) (a b : Nat) : Nat := if s = t then a + b else if b ≤ a then a - b else b - a

set_option maxHeartbeats 3200000 in
theorem ref01_Add {s t : Bool} {A A' : Option Addr} {n m c c' a b : Nat} {w : World} (h : Words w (.slice A n c) (limbs a)) (h' : Words w (.slice A' m c') (limbs b)) (hs : s = true → a ≠ 0) (ht : t = true → b ≠ 0) (hsz : n < 35184372088832) (hsz' : m < 35184372088832) :
    Calls Tryz.prog 240 #[.agg #[.bool s, .slice A n c], .agg #[.bool t, .slice A' m c']] w (Ret w fun r w' => ∃ u, r = .agg #[.bool (addS s t a b && decide (0 < addM s t a b)), u] ∧ Words w' u (limbs (addM s t a b))) := by
  have hn := h.len
  have hm := h'.len
  have hN1 := fun w1 (hx : Ext w w1) => ref01_Norm s (h.ext hx)
  have hN2 := fun w1 (hx : Ext w w1) => ref01_Norm t (h'.ext hx)
  rw [trimL_limbs, canon_sign hs, ← hn.1] at hN1
  rw [trimL_limbs, canon_sign ht, ← hm.1] at hN2
  have HN1 := Lib.hid hN1
  have HN2 := Lib.hid hN2
  have H := Lib.hid h
  have H' := Lib.hid h'
  have HLN := Lib.hid hn.1
  have HLM := Lib.hid hm.1
  have hn2 : n ≤ c := hn.2.1
  have hm2 : m ≤ c' := hm.2.1
  have hc2 : n ≤ 35184372088832 := hn.2.2
  have hc2' : m ≤ 35184372088832 := hm.2.2
  clear hN1 hN2 h h' hn hm hs ht
  have HB0 := Lib.hid (boxes3 w s t A A' n m c c')
  go_enter Tryz.func240, Tryz.ntmps240
  go_upto_region 1 with fail
  go_cut [] (fun wx => Hid (Boxes3 wx w.heap.size s t (.slice A n c) (.slice A' m c')) ∧ Ext w wx)
  case first =>
    go_region_with (first
      | (go_at_call_of 146 (Value.slice A n c); refine (HN1.out _ ?_).mono ?_; (exact (by repeat (first | exact Ext.refl _ | assumption | refine Ext.pdrewN ?_ _ | refine Ext.pdrew ?_ | refine Ext.palloc ?_ _ | refine Ext.pset ?_ (by simp <;> omega) _ | refine Ext.trans ?_ (by assumption)))); rintro e w1 ⟨rfl, hx1⟩; have hB1 := (Boxes3.ext (Boxes3.drew HB0.out) hx1); have HB1 := Lib.hid hB1; obtain ⟨⟨p0, p1, p2, p3, -, -⟩, ⟨q0, q1, q2, q3, -, -⟩, -⟩ := hB1)
      | (go_at_call_of 146 (Value.slice A' m c'); refine (HN2.out _ ?_).mono ?_; (exact (by repeat (first | exact Ext.refl _ | assumption | refine Ext.pdrewN ?_ _ | refine Ext.pdrew ?_ | refine Ext.palloc ?_ _ | refine Ext.pset ?_ (by simp <;> omega) _ | refine Ext.trans ?_ (by assumption)))); rintro e w2 ⟨rfl, hx2⟩; have hB2 := (Boxes3.ext HB1.out hx2); have HB2 := Lib.hid hB2; clear p0 p1 p2 p3 q0 q1 q2 q3; obtain ⟨⟨p0, p1, p2, p3, -, -⟩, ⟨q0, q1, q2, q3, -, -⟩, -⟩ := hB2))
    all_goals
      go_wp2_with fail
      go_meet
      exact ⟨by rw [setCell_id p0, setCell_id p1, setCell_id q0, setCell_id q1]; exact HB2, by rw [setCell_id p0, setCell_id p1, setCell_id q0, setCell_id q1]; exact (by repeat (first | exact Ext.refl _ | assumption | refine Ext.pdrewN ?_ _ | refine Ext.pdrew ?_ | refine Ext.palloc ?_ _ | refine Ext.pset ?_ (by simp <;> omega) _ | refine Ext.trans ?_ (by assumption)))⟩
  case rest =>
    obtain ⟨HB, hE⟩ := hcut
    clear HB0 HN1 HN2
    by_cases hst : s = t
    · subst hst
      have hP := fun w1 (hx : Ext wc w1) => ref01_plus ((H.out.ext hE).ext hx) ((H'.out.ext hE).ext hx) hsz hsz'
      rw [val_limbs, val_limbs] at hP
      have HP := Lib.hid hP
      have HAS : Hid (addS s s a b = s ∧ addM s s a b = a + b) := by exact ⟨by simp [addS], by simp [addM]⟩
      clear hP
      have hss : (s == s) = true := by simp
      obtain ⟨⟨p0, p1, -, -, -, -⟩, ⟨q0, q1, -, -, -, -⟩, -⟩ := HB.out
      go_wp2_with fail
      go_region_held3 (fun w' => w'.cell? ⟨w.heap.size, 0, none⟩ = some (.bool s) ∧ w'.cell? ⟨w.heap.size, 1, none⟩ = some (.slice A n c) ∧ w'.cell? ⟨w.heap.size + 1, 1, none⟩ = some (.slice A' m c')) (first | (exact ⟨cell_far (cell_far y0 (by dsimp only; omega)) (by dsimp only; omega), cell_far (cell_far y1 (by dsimp only; omega)) (by dsimp only; omega), cell_far (cell_far y3 (by dsimp only; omega)) (by dsimp only; omega)⟩) | (exact ⟨y0, y1, y3⟩) | (exact ⟨r0, r1, r3⟩) | (go_keep))
        (first
          | (go_at_call 244; refine (HP.out _ ?_).mono ?_; (exact (by repeat (first | exact Ext.refl _ | assumption | refine Ext.pdrewN ?_ _ | refine Ext.pdrew ?_ | refine Ext.palloc ?_ _ | refine Ext.pset ?_ (by simp <;> omega) _ | refine Ext.trans ?_ (by assumption)))); rintro e w1 ⟨v1, rfl, ⟨hfr1, hv1⟩, hx1⟩; obtain ⟨A1, c1, rfl, hl1, hm1⟩ := hv1.form; have HV1 := Lib.hid hv1; clear hv1 hfr1; have hB1 := HB.out.drew.ext hx1; have HB1 := Lib.hid hB1; obtain ⟨⟨r0, r1, -, -, -, -⟩, ⟨r2, r3, -, -, -, -⟩, -⟩ := hB1)
          | (go_at_call 148; refine (ref01_signed _ HV1.out).mono ?_; rintro e w2 ⟨rfl, hx2⟩; have hB2 := HB1.out.ext hx2; have HB2 := Lib.hid hB2; obtain ⟨⟨y0, y1, -, -, -, -⟩, ⟨y2, y3, -, -, -, -⟩, ⟨y4, y5, y6, y7, -, -⟩⟩ := hB2))
      have HX := Lib.hid (Ext.trans (Ext.trans hE (Ext.drew wc)) (Ext.trans hx1 hx2))
      have HVV := Lib.hid (HV1.out.ext hx2)
      have HR : Hid ((trimL (limbs (a + b))) = limbs (a + b)) := trimL_limbs _
      have HLP := Lib.hid (limbs_len_pos (a + b))
      go_wp2_with fail
      refine bodyPost_ret ?_ rfl ⟨_, rfl, ⟨.slice A1 (trimL (limbs (a + b))).length c1, rfl, ?_⟩, ?_⟩
      · rw [HAS.out.1, HAS.out.2, ← HLP.out]
        simp [results, Tryz.results240, go_sem, y4, y5, HR.out]
      · rw [HAS.out.2, HR.out]
        have hb := HB2.out.2.2.2.2.2.2.2
        exact (HVV.out.box hb _ _).box (hb.set_ _ (by simp)) _ _
      · exact (HX.out.pset (by simp <;> omega) _).pset (by simp <;> omega) _
    · have hst' : (s == t) = false := by simpa using hst
      have hC := ref01_compare (H.out.ext hE) (H'.out.ext hE)
      rw [cmpW_limbs] at hC
      obtain ⟨⟨p0, p1, -, -, -, -⟩, ⟨q0, q1, -, -, -, -⟩, -⟩ := HB.out
      by_cases hab : b ≤ a
      · obtain ⟨r, hr, hr0⟩ : ∃ r : Int, (if a < b then -1 else if b < a then (1 : Int) else 0) = r ∧ 0 ≤ r := ⟨_, rfl, by rw [if_neg (by omega)]; split <;> omega⟩
        rw [hr] at hC
        have HC := Lib.hid hC
        have HAS : Hid (addS s t a b = s ∧ addM s t a b = a - b) := by exact ⟨by simp [addS, hst, hab], by simp [addM, hst, hab]⟩
        clear hC hr
        go_wp2_with fail
        refine HC.out.mono ?_
        rintro e w0 ⟨rfl, hx0⟩
        have hB0 := HB.out.ext hx0
        have hE0 := hE.trans hx0
        clear HB hE hx0 p0 p1 q0 q1 HC
        have HB := Lib.hid hB0
        obtain ⟨⟨p0, p1, -, -, -, -⟩, ⟨q0, q1, -, -, -, -⟩, -⟩ := hB0
        have hM := fun w1 (hx : Ext w0 w1) => ref01_minus ((H.out.ext hE0).ext hx) ((H'.out.ext hE0).ext hx) (by rw [val_limbs, val_limbs]; exact hab) (by rw [HLN.out, HLM.out]; exact limbs_length_mono hab)
        rw [val_limbs, val_limbs] at hM
        have HM := Lib.hid hM
        clear hM
        go_wp2_with fail
        go_region_held3 (fun w' => w'.cell? ⟨w.heap.size, 0, none⟩ = some (.bool s) ∧ w'.cell? ⟨w.heap.size, 1, none⟩ = some (.slice A n c) ∧ w'.cell? ⟨w.heap.size + 1, 1, none⟩ = some (.slice A' m c')) (first | (exact ⟨cell_far (cell_far y0 (by dsimp only; omega)) (by dsimp only; omega), cell_far (cell_far y1 (by dsimp only; omega)) (by dsimp only; omega), cell_far (cell_far y3 (by dsimp only; omega)) (by dsimp only; omega)⟩) | (exact ⟨y0, y1, y3⟩) | (exact ⟨r0, r1, r3⟩) | (go_keep))
          (first
            | (go_at_call 173; refine (HM.out _ ?_).mono ?_; (exact (by repeat (first | exact Ext.refl _ | assumption | refine Ext.pdrewN ?_ _ | refine Ext.pdrew ?_ | refine Ext.palloc ?_ _ | refine Ext.pset ?_ (by simp <;> omega) _ | refine Ext.trans ?_ (by assumption)))); rintro e w1 ⟨v1, rfl, ⟨hfr1, hv1⟩, hx1⟩; obtain ⟨A1, c1, rfl, hl1, hm1⟩ := hv1.form; have HV1 := Lib.hid hv1; clear hv1 hfr1; have hB1 := HB.out.drew.ext hx1; have HB1 := Lib.hid hB1; obtain ⟨⟨r0, r1, -, -, -, -⟩, ⟨r2, r3, -, -, -, -⟩, -⟩ := hB1)
            | (go_at_call 148; refine (ref01_signed _ HV1.out).mono ?_; rintro e w2 ⟨rfl, hx2⟩; have hB2 := HB1.out.ext hx2; have HB2 := Lib.hid hB2; obtain ⟨⟨y0, y1, -, -, -, -⟩, ⟨y2, y3, -, -, -, -⟩, ⟨y4, y5, y6, y7, -, -⟩⟩ := hB2))
        have HX := Lib.hid (Ext.trans (Ext.trans hE0 (Ext.drew w0)) (Ext.trans hx1 hx2))
        have HVV := Lib.hid (HV1.out.ext hx2)
        have HR : Hid ((trimL (limbs (a - b))) = limbs (a - b)) := trimL_limbs _
        have HLP := Lib.hid (limbs_len_pos (a - b))
        go_wp2_with fail
        refine bodyPost_ret ?_ rfl ⟨_, rfl, ⟨.slice A1 (trimL (limbs (a - b))).length c1, rfl, ?_⟩, ?_⟩
        · rw [HAS.out.1, HAS.out.2, ← HLP.out]
          simp [results, Tryz.results240, go_sem, y4, y5, HR.out]
        · rw [HAS.out.2, HR.out]
          have hb := HB2.out.2.2.2.2.2.2.2
          exact (HVV.out.box hb _ _).box (hb.set_ _ (by simp)) _ _
        · exact (HX.out.pset (by simp <;> omega) _).pset (by simp <;> omega) _
      · rw [if_pos (by omega)] at hC
        have HC := Lib.hid hC
        have HAS : Hid (addS s t a b = t ∧ addM s t a b = b - a) := by exact ⟨by simp [addS, hst, hab], by simp [addM, hst, hab]⟩
        clear hC
        go_wp2_with fail
        refine HC.out.mono ?_
        rintro e w0 ⟨rfl, hx0⟩
        have hB0 := HB.out.ext hx0
        have hE0 := hE.trans hx0
        clear HB hE hx0 p0 p1 q0 q1 HC
        have HB := Lib.hid hB0
        obtain ⟨⟨p0, p1, -, -, -, -⟩, ⟨q0, q1, -, -, -, -⟩, -⟩ := hB0
        have hM := fun w1 (hx : Ext w0 w1) => ref01_minus ((H'.out.ext hE0).ext hx) ((H.out.ext hE0).ext hx) (by rw [val_limbs, val_limbs]; omega) (by rw [HLN.out, HLM.out]; exact limbs_length_mono (by omega))
        rw [val_limbs, val_limbs] at hM
        have HM := Lib.hid hM
        clear hM
        go_wp2_with fail
        go_region_held3 (fun w' => w'.cell? ⟨w.heap.size, 1, none⟩ = some (.slice A n c) ∧ w'.cell? ⟨w.heap.size + 1, 0, none⟩ = some (.bool t) ∧ w'.cell? ⟨w.heap.size + 1, 1, none⟩ = some (.slice A' m c')) (first | (exact ⟨cell_far (cell_far y1 (by dsimp only; omega)) (by dsimp only; omega), cell_far (cell_far y2 (by dsimp only; omega)) (by dsimp only; omega), cell_far (cell_far y3 (by dsimp only; omega)) (by dsimp only; omega)⟩) | (exact ⟨y1, y2, y3⟩) | (exact ⟨r1, r2, r3⟩) | (go_keep))
          (first
            | (go_at_call 173; refine (HM.out _ ?_).mono ?_; (exact (by repeat (first | exact Ext.refl _ | assumption | refine Ext.pdrewN ?_ _ | refine Ext.pdrew ?_ | refine Ext.palloc ?_ _ | refine Ext.pset ?_ (by simp <;> omega) _ | refine Ext.trans ?_ (by assumption)))); rintro e w1 ⟨v1, rfl, ⟨hfr1, hv1⟩, hx1⟩; obtain ⟨A1, c1, rfl, hl1, hm1⟩ := hv1.form; have HV1 := Lib.hid hv1; clear hv1 hfr1; have hB1 := HB.out.drew.ext hx1; have HB1 := Lib.hid hB1; obtain ⟨⟨r0, r1, -, -, -, -⟩, ⟨r2, r3, -, -, -, -⟩, -⟩ := hB1)
            | (go_at_call 148; refine (ref01_signed _ HV1.out).mono ?_; rintro e w2 ⟨rfl, hx2⟩; have hB2 := HB1.out.ext hx2; have HB2 := Lib.hid hB2; obtain ⟨⟨y0, y1, -, -, -, -⟩, ⟨y2, y3, -, -, -, -⟩, ⟨y4, y5, y6, y7, -, -⟩⟩ := hB2))
        have HX := Lib.hid (Ext.trans (Ext.trans hE0 (Ext.drew w0)) (Ext.trans hx1 hx2))
        have HVV := Lib.hid (HV1.out.ext hx2)
        have HR : Hid ((trimL (limbs (b - a))) = limbs (b - a)) := trimL_limbs _
        have HLP := Lib.hid (limbs_len_pos (b - a))
        go_wp2_with fail
        refine bodyPost_ret ?_ rfl ⟨_, rfl, ⟨.slice A1 (trimL (limbs (b - a))).length c1, rfl, ?_⟩, ?_⟩
        · rw [HAS.out.1, HAS.out.2, ← HLP.out]
          simp [results, Tryz.results240, go_sem, y4, y5, HR.out]
        · rw [HAS.out.2, HR.out]
          have hb := HB2.out.2.2.2.2.2.2.2
          exact (HVV.out.box hb _ _).box (hb.set_ _ (by simp)) _ _
        · exact (HX.out.pset (by simp <;> omega) _).pset (by simp <;> omega) _

end Go.Proofs.YtonleohlplkglaaGreatDoor
