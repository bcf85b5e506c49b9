/- Contracts: one, Valid, Sign, Few of the reference's layer 2. -/
import Derived.Test.YtonleohlplkglaaGreatDoorTj
namespace Go.Proofs.YtonleohlplkglaaGreatDoor
open Go Go.RowKit

/-- An integer as it lies in memory: its sign and its words, whatever they are. -/
structure ZI where
  neg : Bool
  mag : List Nat
/-- A quotient as it lies in memory. -/
structure QI where
  num : ZI
  den : ZI
/-- In normal form. -/
def ZI.ok (z : ZI) : Bool := decide ((trimL z.mag).length = z.mag.length) && (!z.neg || decide (0 < z.mag.length))
def ZI.sgn (z : ZI) : Int := sgnW z.neg (trimL z.mag).length
def QI.ok (q : QI) : Bool := q.num.ok && q.den.ok && decide (0 < q.den.sgn) && decide (Nat.gcd (val q.num.mag) (val q.den.mag) = 1)

set_option maxHeartbeats 800000 in
theorem ref02_one {s : Bool} {v : Value} {xs : List Nat} {w : World} (h : Words w v xs) :
    Calls Tryz.prog 101 #[.agg #[.bool s, v]] w fun e w' => e = .returned (.bool (decide (xs = [1]) && !s)) ∧ Ext w w' := by
  obtain ⟨A, c, rfl, hl, hm⟩ := h.form
  match xs, h with
  | [], h =>
    clear h
    go_enter Tryz.func101, Tryz.ntmps101
    go_wp2
    go_ret
    exact ⟨by simp, (by repeat (first | exact Ext.refl _ | assumption | refine Ext.pdrewN ?_ _ | refine Ext.pdrew ?_ | refine Ext.palloc ?_ _ | refine Ext.pset ?_ (by simp <;> omega) _ | refine Ext.trans ?_ (by assumption)))⟩
  | [x], h =>
    obtain ⟨b, off, rfl, hb, -, hcell⟩ := h.at_ (k := 0) (by simp)
    have g1 := hcell 0 (by simp)
    simp only [List.getD_cons_zero, Nat.add_zero] at g1
    have hne : b ≠ w.heap.size := by omega
    clear hcell h
    simp only [List.length_cons, List.length_nil, Nat.zero_add] at *
    by_cases hx : x = 1
    · subst hx
      cases s
      all_goals
        go_enter Tryz.func101, Tryz.ntmps101
        go_wp2
        go_ret
        exact ⟨by simp, (by repeat (first | exact Ext.refl _ | assumption | refine Ext.pdrewN ?_ _ | refine Ext.pdrew ?_ | refine Ext.palloc ?_ _ | refine Ext.pset ?_ (by simp <;> omega) _ | refine Ext.trans ?_ (by assumption)))⟩
    · have hx1 : ((x : Int) == 1) = false := by simp; omega
      go_enter Tryz.func101, Tryz.ntmps101
      go_wp2
      go_ret
      exact ⟨by simp [hx], (by repeat (first | exact Ext.refl _ | assumption | refine Ext.pdrewN ?_ _ | refine Ext.pdrew ?_ | refine Ext.palloc ?_ _ | refine Ext.pset ?_ (by simp <;> omega) _ | refine Ext.trans ?_ (by assumption)))⟩
  | x :: y :: xs, h =>
    clear h
    generalize hn : (x :: y :: xs).length = n at *
    have h1 : ((n : Int) == 1) = false := by rw [← hn]; simp; omega
    have HD : Hid (decide (x :: y :: xs = [1]) = false) := by show _ = _; simp
    clear hn
    go_enter Tryz.func101, Tryz.ntmps101
    go_wp2
    go_ret
    exact ⟨by rw [HD.out]; rfl, (by repeat (first | exact Ext.refl _ | assumption | refine Ext.pdrewN ?_ _ | refine Ext.pdrew ?_ | refine Ext.palloc ?_ _ | refine Ext.pset ?_ (by simp <;> omega) _ | refine Ext.trans ?_ (by assumption)))⟩

theorem limbs_eq_one {g : Nat} : (limbs g = [1]) ↔ g = 1 := by
  constructor
  · intro h
    have := val_limbs g
    rw [h] at this
    simpa [val] using this.symm
  · intro h; rw [h, limbs_pos (by omega)]; simp [limbs_zero]

set_option maxHeartbeats 1600000 in
theorem ref02_Valid {q : QI} {v v' : Value} {w : World} (h : Words w v q.num.mag) (h' : Words w v' q.den.mag) (hx : q.num.mag.length < 35184372088832) (hy : q.den.mag.length < 35184372088832) :
    Calls Tryz.prog 53 #[.agg #[.bool q.num.neg, v, .bool q.den.neg, v']] w fun e w' => e = .returned (.bool q.ok) ∧ Ext w w' := by
  obtain ⟨⟨s, xs⟩, ⟨t, ys⟩⟩ := q
  simp only at h h' hx hy ⊢
  obtain ⟨A, c, rfl, hl, hm⟩ := h.form
  obtain ⟨A', c', rfl, hl', hm'⟩ := h'.form
  have HV1 := Lib.hid (fun w1 (hx : Ext w w1) => ref01_Valid s (h.ext hx))
  have HV2 := Lib.hid (fun w1 (hx : Ext w w1) => ref01_Valid t (h'.ext hx))
  have HS2 := Lib.hid (fun w1 (hx : Ext w w1) => ref01_Sign t (h'.ext hx))
  have HG := Lib.hid (fun w1 (hx1 : Ext w w1) => ref01_GCD (s := s) (t := t) (h.ext hx1) (h'.ext hx1) hx hy)
  have HOK : Hid (QI.ok ⟨⟨s, xs⟩, ⟨t, ys⟩⟩ = ((decide ((trimL xs).length = xs.length) && (!s || decide (0 < xs.length))) && (decide ((trimL ys).length = ys.length) && (!t || decide (0 < ys.length))) && decide (0 < sgnW t (trimL ys).length) && decide (limbs (Nat.gcd (val xs) (val ys)) = [1]))) := by
    show _ = _
    rw [decide_eq_decide.2 (limbs_eq_one (g := Nat.gcd (val xs) (val ys)))]
    rfl
  clear h h' hx hy
  generalize (decide ((trimL xs).length = xs.length) && (!s || decide (0 < xs.length))) = b1 at *
  generalize (decide ((trimL ys).length = ys.length) && (!t || decide (0 < ys.length))) = b2 at *
  generalize sgnW t (trimL ys).length = sg at *
  generalize limbs (Nat.gcd (val xs) (val ys)) = gl at *
  generalize xs.length = n at *
  generalize ys.length = m at *
  go_enter Tryz.func53, Tryz.ntmps53
  go_wp2_with fail
  refine (HV1.out _ (Ext.alloc _ _)).mono ?_
  rintro e w1 ⟨rfl, hx1⟩
  cases b1
  · go_wp2_with fail
    go_ret
    exact ⟨by rw [HOK.out]; rfl, (by repeat (first | exact Ext.refl _ | assumption | refine Ext.pdrewN ?_ _ | refine Ext.pdrew ?_ | refine Ext.palloc ?_ _ | refine Ext.pset ?_ (by simp <;> omega) _ | refine Ext.trans ?_ (by assumption)))⟩
  obtain ⟨hc, hf⟩ := bcell hx1
  go_wp2_with fail
  refine (HV2.out _ (by repeat (first | exact Ext.refl _ | assumption | refine Ext.pdrewN ?_ _ | refine Ext.pdrew ?_ | refine Ext.palloc ?_ _ | refine Ext.pset ?_ (by simp <;> omega) _ | refine Ext.trans ?_ (by assumption)))).mono ?_
  rintro e w2 ⟨rfl, hx2⟩
  have hx2 := Ext.trans hx1 hx2
  clear hx1 hc hf
  cases b2
  · go_wp2_with fail
    go_ret
    exact ⟨by rw [HOK.out]; rfl, (by repeat (first | exact Ext.refl _ | assumption | refine Ext.pdrewN ?_ _ | refine Ext.pdrew ?_ | refine Ext.palloc ?_ _ | refine Ext.pset ?_ (by simp <;> omega) _ | refine Ext.trans ?_ (by assumption)))⟩
  obtain ⟨hc, hf⟩ := bcell hx2
  go_wp2_with fail
  refine (HS2.out _ (by repeat (first | exact Ext.refl _ | assumption | refine Ext.pdrewN ?_ _ | refine Ext.pdrew ?_ | refine Ext.palloc ?_ _ | refine Ext.pset ?_ (by simp <;> omega) _ | refine Ext.trans ?_ (by assumption)))).mono ?_
  rintro e w3 ⟨rfl, hx3⟩
  have hx3 := Ext.trans hx2 hx3
  clear hx2 hc hf
  by_cases hsg : 0 < sg
  · have HOK2 : Hid (QI.ok ⟨⟨s, xs⟩, ⟨t, ys⟩⟩ = decide (gl = [1])) := by show _ = _; rw [HOK.out]; simp [hsg]
    clear HOK
    obtain ⟨hc, hf⟩ := bcell hx3
    go_wp2_with fail
    refine (HG.out _ (by repeat (first | exact Ext.refl _ | assumption | refine Ext.pdrewN ?_ _ | refine Ext.pdrew ?_ | refine Ext.palloc ?_ _ | refine Ext.pset ?_ (by simp <;> omega) _ | refine Ext.trans ?_ (by assumption)))).mono ?_
    rintro e w4 ⟨r, rfl, ⟨u, rfl, hu⟩, hx4⟩
    have HU := Lib.hid hu
    clear hu hc hf
    go_wp2_with fail
    refine (ref02_one HU.out).mono ?_
    rintro e w5 ⟨rfl, hx5⟩
    go_wp2_with fail
    go_ret
    exact ⟨by rw [HOK2.out]; simp, (by repeat (first | exact Ext.refl _ | assumption | refine Ext.pdrewN ?_ _ | refine Ext.pdrew ?_ | refine Ext.palloc ?_ _ | refine Ext.pset ?_ (by simp <;> omega) _ | refine Ext.trans ?_ (by assumption)))⟩
  · have hsd : decide (0 < sg) = false := by simpa using hsg
    have HOK2 : Hid (QI.ok ⟨⟨s, xs⟩, ⟨t, ys⟩⟩ = false) := by show _ = _; rw [HOK.out, hsd]; simp
    go_wp2_with fail
    go_ret
    exact ⟨by rw [HOK2.out]; rfl, (by repeat (first | exact Ext.refl _ | assumption | refine Ext.pdrewN ?_ _ | refine Ext.pdrew ?_ | refine Ext.palloc ?_ _ | refine Ext.pset ?_ (by simp <;> omega) _ | refine Ext.trans ?_ (by assumption)))⟩

set_option maxHeartbeats 800000 in
theorem ref02_Sign {q : QI} {v v' : Value} {w : World} (h : Words w v q.num.mag) :
    Calls Tryz.prog 55 #[.agg #[.bool q.num.neg, v, .bool q.den.neg, v']] w fun e w' => e = .returned (.int .i64 q.num.sgn) ∧ Ext w w' := by
  obtain ⟨⟨s, xs⟩, ⟨t, ys⟩⟩ := q
  simp only [ZI.sgn] at h ⊢
  obtain ⟨A, c, rfl, hl, hm⟩ := h.form
  have HS := Lib.hid (fun w1 (hx : Ext w w1) => ref01_Sign s (h.ext hx))
  clear h
  generalize sgnW s (trimL xs).length = sg at *
  generalize xs.length = n at *
  go_enter Tryz.func55, Tryz.ntmps55
  go_wp2_with fail
  refine (HS.out _ (Ext.alloc _ _)).mono ?_
  rintro e w1 ⟨rfl, hx1⟩
  go_wp2_with fail
  go_ret
  exact ⟨rfl, (by repeat (first | exact Ext.refl _ | assumption | refine Ext.pdrewN ?_ _ | refine Ext.pdrew ?_ | refine Ext.palloc ?_ _ | refine Ext.pset ?_ (by simp <;> omega) _ | refine Ext.trans ?_ (by assumption)))⟩

/-- In normal form, with few words. -/
def QI.few (q : QI) (k : Nat) : Bool := decide (q.num.mag.length ≤ k) && decide (q.den.mag.length ≤ k) && q.ok

set_option maxHeartbeats 800000 in
theorem ref02_Few {q : QI} {k : Nat} (hk : k < 1000) {v v' : Value} {w : World} (h : Words w v q.num.mag) (h' : Words w v' q.den.mag) :
    Calls Tryz.prog 31 #[.agg #[.bool q.num.neg, v, .bool q.den.neg, v'], .int .i64 (k : Int)] w fun e w' => e = .returned (.bool (q.few k)) ∧ Ext w w' := by
  by_cases h1 : q.num.mag.length ≤ k
  · by_cases h2 : q.den.mag.length ≤ k
    · have HV := Lib.hid (fun w1 (hx : Ext w w1) => ref02_Valid (h.ext hx) (h'.ext hx) (by omega) (by omega))
      have HF : Hid (q.few k = q.ok) := by show _ = _; simp [QI.few, h1, h2]
      obtain ⟨A, c, rfl, hl, hm⟩ := h.form
      obtain ⟨A', c', rfl, hl', hm'⟩ := h'.form
      clear h h'
      generalize q.num.mag.length = n at *
      generalize q.den.mag.length = m at *
      go_enter Tryz.func31, Tryz.ntmps31
      go_wp2_with fail
      refine (HV.out _ (Ext.alloc _ _)).mono ?_
      rintro e w1 ⟨rfl, hx1⟩
      go_wp2_with fail
      go_ret
      exact ⟨by rw [HF.out]; rfl, (by repeat (first | exact Ext.refl _ | assumption | refine Ext.pdrewN ?_ _ | refine Ext.pdrew ?_ | refine Ext.palloc ?_ _ | refine Ext.pset ?_ (by simp <;> omega) _ | refine Ext.trans ?_ (by assumption)))⟩
    · have HF : Hid (q.few k = false) := by show _ = _; simp [QI.few, h2]
      obtain ⟨A, c, rfl, hl, hm⟩ := h.form
      obtain ⟨A', c', rfl, hl', hm'⟩ := h'.form
      clear h h'
      generalize q.num.mag.length = n at *
      generalize q.den.mag.length = m at *
      go_enter Tryz.func31, Tryz.ntmps31
      go_wp2_with fail
      go_ret
      exact ⟨by rw [HF.out]; rfl, (by repeat (first | exact Ext.refl _ | assumption | refine Ext.pdrewN ?_ _ | refine Ext.pdrew ?_ | refine Ext.palloc ?_ _ | refine Ext.pset ?_ (by simp <;> omega) _ | refine Ext.trans ?_ (by assumption)))⟩
  · have HF : Hid (q.few k = false) := by show _ = _; simp [QI.few, h1]
    obtain ⟨A, c, rfl, hl, hm⟩ := h.form
    obtain ⟨A', c', rfl, hl', hm'⟩ := h'.form
    clear h h'
    generalize q.num.mag.length = n at *
    generalize q.den.mag.length = m at *
    go_enter Tryz.func31, Tryz.ntmps31
    go_wp2_with fail
    go_ret
    exact ⟨by rw [HF.out]; rfl, (by repeat (first | exact Ext.refl _ | assumption | refine Ext.pdrewN ?_ _ | refine Ext.pdrew ?_ | refine Ext.palloc ?_ _ | refine Ext.pset ?_ (by simp <;> omega) _ | refine Ext.trans ?_ (by assumption)))⟩

end Go.Proofs.YtonleohlplkglaaGreatDoor
