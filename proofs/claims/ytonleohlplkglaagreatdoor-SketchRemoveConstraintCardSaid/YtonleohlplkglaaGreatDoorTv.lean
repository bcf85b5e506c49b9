/- Contract: Decimal of the reference's layer 22, for every number. -/
import Derived.Test.YtonleohlplkglaaGreatDoorTu
namespace Go.Proofs.YtonleohlplkglaaGreatDoor
open Go Go.RowKit

theorem trimL_of_length {xs : List Nat} (h : (trimL xs).length = xs.length) (hL : Limb xs) : limbs (val xs) = xs := by
  apply limbs_val_of_trim hL
  rw [trimL_prefix, h, List.take_length]

theorem dec_parts {s t : Bool} {xs ys : List Nat} (hok : QI.ok ⟨⟨s, xs⟩, ⟨t, ys⟩⟩ = true) (hL : Limb xs) (hL' : Limb ys) : limbs (val xs) = xs ∧ limbs (val ys) = ys ∧ t = false ∧ 0 < val ys ∧ Nat.gcd (val xs) (val ys) = 1 ∧ ((⟨s, xs⟩ : ZI).sgn < 0 ∨ s = false) := by
  simp only [QI.ok, ZI.ok, ZI.sgn, Bool.and_eq_true, decide_eq_true_eq, Bool.or_eq_true, Bool.not_eq_true'] at hok ⊢
  obtain ⟨⟨⟨⟨a1, a2⟩, ⟨b1, b2⟩⟩, c0⟩, d1⟩ := hok
  have c1 : 0 < sgnW t (trimL ys).length := of_decide_eq_true c0
  have e1 := trimL_of_length a1 hL
  have e2 := trimL_of_length b1 hL'
  have c2 : ¬ ((trimL ys).length = 0) ∧ t = false := by
    by_cases h1 : (trimL ys).length = 0
    · rw [sgnW, if_pos h1] at c1; exact absurd c1 (by decide)
    · refine ⟨h1, ?_⟩
      cases t with
      | false => rfl
      | true => rw [sgnW, if_neg h1, if_pos rfl] at c1; exact absurd c1 (by decide)
  refine ⟨e1, e2, c2.2, ?_, d1, ?_⟩
  · rcases Nat.eq_zero_or_pos (val ys) with h0 | h0
    · rw [h0, limbs_zero] at e2
      rw [← e2] at c2
      simp [trimL] at c2
    · exact h0
  · cases s with
    | false => exact .inr rfl
    | true =>
      left
      rw [a1]
      have h0 : ¬ xs.length = 0 := by
        rcases a2 with h | h
        · cases h
        · omega
      rw [sgnW, if_neg h0, if_pos rfl]; decide

set_option maxRecDepth 100000 in
set_option maxHeartbeats 1600000 in
theorem ref22_Decimal {q : QI} {v v' : Value} {w : World} (h : Words w v q.num.mag) (h' : Words w v' q.den.mag) (hx : q.num.mag.length ≤ 1000) (hy : q.den.mag.length ≤ 1000) :
    Calls Tryz.prog 191 #[.agg #[.bool q.num.neg, v, .bool q.den.neg, v']] w fun e w' => (∃ s, e = .returned (.tuple #[.string s, .bool q.dec])) ∧ Ext w w' := by
  obtain ⟨⟨s, xs⟩, ⟨t, ys⟩⟩ := q
  simp only at h h' hx hy ⊢
  cases hok : QI.ok ⟨⟨s, xs⟩, ⟨t, ys⟩⟩ with
  | false =>
    have HD : Hid (false = QI.dec ⟨⟨s, xs⟩, ⟨t, ys⟩⟩) := by show _ = _; rw [QI.dec, hok]; rfl
    have hV := fun w1 (hx' : Ext w w1) => ref02_Valid (q := ⟨⟨s, xs⟩, ⟨t, ys⟩⟩) (h.ext hx') (h'.ext hx') (by simp only; omega) (by simp only; omega)
    rw [hok] at hV
    have HV := Lib.hid hV
    obtain ⟨A, c, rfl, hc, hc'⟩ := h.form
    obtain ⟨B, k, rfl, hk, hk'⟩ := h'.form
    clear h h' hV hok
    generalize xs.length = n at *
    generalize ys.length = m at *
    go_enter Tryz.func191, Tryz.ntmps191
    go_wp2_with fail
    refine (HV.out _ (by repeat (first | exact Ext.refl _ | assumption | refine Ext.pdrewN ?_ _ | refine Ext.pdrew ?_ | refine Ext.palloc ?_ _ | refine Ext.pset ?_ (by simp <;> omega) _ | refine Ext.trans ?_ (by assumption)))).mono ?_
    rintro e w1 ⟨rfl, hx1⟩
    go_wp2_with fail
    refine bodyPost_ret (v := .tuple #[.string ⟨#[]⟩, .bool false]) ?_ rfl ⟨⟨_, by rw [← HD.out]⟩, (by repeat (first | exact Ext.refl _ | assumption | refine Ext.pdrewN ?_ _ | refine Ext.pdrew ?_ | refine Ext.palloc ?_ _ | refine Ext.pset ?_ (by simp <;> omega) _ | refine Ext.trans ?_ (by assumption)))⟩
    simp [results, Tryz.results191, go_sem]
  | true =>
    obtain ⟨e1, e2, rfl, hd, hg, hs⟩ := dec_parts hok h.limb h'.limb
    rcases hs with hs | rfl
    · have HD : Hid (false = QI.dec ⟨⟨s, xs⟩, ⟨false, ys⟩⟩) := by
        show _ = _
        have : decide (0 ≤ (⟨s, xs⟩ : ZI).sgn) = false := decide_eq_false (by omega)
        rw [QI.dec, hok]; simp only [this]; rfl
      have hV := fun w1 (hx' : Ext w w1) => ref02_Valid (q := ⟨⟨s, xs⟩, ⟨false, ys⟩⟩) (h.ext hx') (h'.ext hx') (by simp only; omega) (by simp only; omega)
      rw [hok] at hV
      have HV := Lib.hid hV
      have HS := Lib.hid (fun w1 (hx : Ext w w1) => ref02_Sign (q := ⟨⟨s, xs⟩, ⟨false, ys⟩⟩) (v' := v') (h.ext hx))
      obtain ⟨A, c, rfl, hc, hc'⟩ := h.form
      obtain ⟨B, k, rfl, hk, hk'⟩ := h'.form
      have HBX := Lib.hid (BoxQ.new w s false (.slice A xs.length c) (.slice B ys.length k) 38 (by simp) (by simp))
      clear h h' hV hok e1 e2 hg
      generalize xs.length = n at *
      generalize ys.length = m at *
      generalize (⟨s, xs⟩ : ZI).sgn = z at *
      go_enter Tryz.func191, Tryz.ntmps191
      go_wp2_with fail
      refine (HV.out _ (by repeat (first | exact Ext.refl _ | assumption | refine Ext.pdrewN ?_ _ | refine Ext.pdrew ?_ | refine Ext.palloc ?_ _ | refine Ext.pset ?_ (by simp <;> omega) _ | refine Ext.trans ?_ (by assumption)))).mono ?_
      rintro e w1 ⟨rfl, hx1⟩
      obtain ⟨y0, y1, y2, y3, -⟩ := HBX.out.ext hx1
      have hE1 : Ext w w1 := (by repeat (first | exact Ext.refl _ | assumption | refine Ext.pdrewN ?_ _ | refine Ext.pdrew ?_ | refine Ext.palloc ?_ _ | refine Ext.pset ?_ (by simp <;> omega) _ | refine Ext.trans ?_ (by assumption)))
      go_wp2_with fail
      refine (HS.out _ (by repeat (first | exact Ext.refl _ | assumption | refine Ext.pdrewN ?_ _ | refine Ext.pdrew ?_ | refine Ext.palloc ?_ _ | refine Ext.pset ?_ (by simp <;> omega) _ | refine Ext.trans ?_ (by assumption)))).mono ?_
      rintro e w2 ⟨rfl, hx2⟩
      go_wp2_with fail
      refine bodyPost_ret (v := .tuple #[.string ⟨#[]⟩, .bool false]) ?_ rfl ⟨⟨_, by rw [← HD.out]⟩, hE1.trans hx2⟩
      simp [results, Tryz.results191, go_sem]
    · have hdec : QI.dec ⟨⟨false, xs⟩, ⟨false, ys⟩⟩ = decFrom 41 0 (val xs) (val ys) := by
        have := dec_sgn (val xs)
        rw [e1] at this
        have : decide (0 ≤ (⟨false, xs⟩ : ZI).sgn) = true := decide_eq_true (by omega)
        rw [QI.dec, hok]; simp only [this]; rfl
      rw [hdec]
      have h1 := h
      have h1' := h'
      rw [← e1] at h1
      rw [← e2] at h1'
      exact decimal_main h1 h1' hg hd (by rw [e1]; exact hx) (by rw [e2]; exact hy)
end Go.Proofs.YtonleohlplkglaaGreatDoor
