/- Contracts: GCD (the reference's); one, Valid, Sign, Few of layer 2. -/
import Derived.Test.YtonleohlplkglaaGreatDoorTi
namespace Go.Proofs.YtonleohlplkglaaGreatDoor
open Go Go.RowKit

theorem gcd_step (p q : Nat) : Nat.gcd q (p % q) = Nat.gcd p q := by
  rw [Nat.gcd_comm p q, Nat.gcd_rec q p, Nat.gcd_comm]

set_option maxHeartbeats 1600000 in
theorem ref01_GCD {s t : Bool} {v v' : Value} {xs ys : List Nat} {w : World} (h : Words w v xs) (h' : Words w v' ys) (hx : xs.length < 35184372088832) (hy : ys.length < 35184372088832) :
    Calls Tryz.prog 102 #[.agg #[.bool s, v], .agg #[.bool t, v']] w (Ret w fun r w' => ∃ u, r = .agg #[.bool false, u] ∧ Words w' u (limbs (Nat.gcd (val xs) (val ys)))) := by
  obtain ⟨A, c, rfl, hl, hm⟩ := h.form
  obtain ⟨A', c', rfl, hl', hm'⟩ := h'.form
  have hL := h.limb
  have hL' := h'.limb
  obtain ⟨M, hM1, hM2, hM3⟩ : ∃ M, val xs ≤ M ∧ val ys ≤ M ∧ (limbs M).length < 35184372088832 := by
    rcases Nat.le_total (val xs) (val ys) with h1 | h1
    · refine ⟨val ys, h1, Nat.le_refl _, ?_⟩
      rw [← trimL_eq_limbs hL']; have := trimL_length_le ys; omega
    · refine ⟨val xs, Nat.le_refl _, h1, ?_⟩
      rw [← trimL_eq_limbs hL]; have := trimL_length_le xs; omega
  have hT := fun w1 (hx : Ext w w1) => ref01_trim (h.ext hx)
  have hT' := fun w1 (hx : Ext w w1) => ref01_trim (h'.ext hx)
  have hW := h.trim
  have hW' := h'.trim
  rw [trimL_eq_limbs hL] at hT hW
  rw [trimL_eq_limbs hL'] at hT' hW'
  have HT := Lib.hid hT
  have HT' := Lib.hid hT'
  have HW := Lib.hid hW
  have HW' := Lib.hid hW'
  have HM := Lib.hid (And.intro hM1 (And.intro hM2 hM3))
  clear h h' hT hT' hW hW' hM1 hM2 hM3
  generalize xs.length = n at *
  generalize ys.length = m at *
  go_enter Tryz.func102, Tryz.ntmps102
  go_wp2_with fail
  go_quiet ((first | (go_at_call_of 145 (Value.slice A n c); exact quiet_left (HT.out _ (by repeat (first | exact Ext.refl _ | assumption | refine Ext.pdrewN ?_ _ | refine Ext.pdrew ?_ | refine Ext.palloc ?_ _ | refine Ext.pset ?_ (by simp <;> omega) _ | refine Ext.trans ?_ (by assumption))))) | (go_at_call_of 145 (Value.slice A' m c'); exact quiet_left (HT'.out _ (by repeat (first | exact Ext.refl _ | assumption | refine Ext.pdrewN ?_ _ | refine Ext.pdrew ?_ | refine Ext.palloc ?_ _ | refine Ext.pset ?_ (by simp <;> omega) _ | refine Ext.trans ?_ (by assumption)))))))
  clear HT HT'
  go_wp2_with fail
  generalize hwn : (((w.alloc (Obj.cells #[Value.bool s, Value.slice A n c] 36)).alloc (Obj.cells #[Value.bool t, Value.slice A' m c'] 36)).alloc (Obj.cells #[Value.bool false, Value.slice none 0 0] 36)).drewN nq = wn at *
  have hEn : Ext w wn := by rw [← hwn]; exact (by repeat (first | exact Ext.refl _ | assumption | refine Ext.pdrewN ?_ _ | refine Ext.pdrew ?_ | refine Ext.palloc ?_ _ | refine Ext.pset ?_ (by simp <;> omega) _ | refine Ext.trans ?_ (by assumption)))
  have hc0 : wn.cell? ⟨w.heap.size + 1 + 1, 0, none⟩ = some (.bool false) := by rw [← hwn]; simp [go_sem]
  have hc1 : wn.cell? ⟨w.heap.size + 1 + 1, 1, none⟩ = some (.slice none 0 0) := by rw [← hwn]; simp [go_sem]
  have hf0 : wn.frozen? ⟨w.heap.size + 1 + 1, 0, none⟩ = false := by rw [← hwn]; simp [go_sem]
  have hf1 : wn.frozen? ⟨w.heap.size + 1 + 1, 1, none⟩ = false := by rw [← hwn]; simp [go_sem]
  have hsz : wn.heap.size = w.heap.size + 1 + 1 + 1 := by rw [← hwn]; simp
  have HSZ := Lib.hid hsz
  have HNW : Hid (NoWord wn (w.heap.size + 1 + 1)) := by
    rw [← hwn]
    have h1 := NoWord.new ((w.alloc (Obj.cells #[Value.bool s, Value.slice A n c] 36)).alloc (Obj.cells #[Value.bool t, Value.slice A' m c'] 36)) #[Value.bool false, Value.slice none 0 0] 36 (by simp)
    simp only [World.size_alloc] at h1
    exact h1
  have HC := Lib.hid (And.intro hc0 (And.intro hc1 (And.intro hf0 hf1)))
  clear hwn hc0 hc1 hf0 hf1 hsz
  go_loopg [5, 6] (val ys) (fun q x y wr => ∃ p : Nat, Hid (Words wr x (limbs p)) ∧ Hid (Words wr y (limbs q)) ∧ Hid (Nat.gcd p q = Nat.gcd (val xs) (val ys)) ∧ p ≤ M ∧ q ≤ M ∧ Ext wn wr)
  case atStart => exact ⟨val xs, HW.out.ext hEn, HW'.out.ext hEn, rfl, HM.out.1, HM.out.2.1, Ext.refl _⟩
  case round =>
    obtain ⟨p, HP, HQ, HG, hp, hq, hE⟩ := hrel
    obtain ⟨A1, c1, rfl, hl1, hm1⟩ := HP.out.form
    obtain ⟨A2, c2, rfl, hl2, hm2⟩ := HQ.out.form
    by_cases h0 : 0 < gk
    · have hlen : 0 < (limbs gk).length := by rw [limbs_pos (by omega)]; simp
      have hD := ref01_divide HP.out HQ.out h0 (by have := limbs_length_mono hp; have := HM.out.2.2; omega)
      have HD := Lib.hid hD
      have HG2 : Hid (Nat.gcd gk (p % gk) = Nat.gcd (val xs) (val ys)) := (gcd_step p gk).trans HG.out
      have hlt := Nat.mod_lt p h0
      clear hD
      generalize (limbs gk).length = lk at *
      generalize (limbs p).length = lp at *
      go_wp2_with fail
      refine HD.out.mono ?_
      rintro e w1 ⟨v, rfl, ⟨v1, v2, rfl, hv1, hv2⟩, hx1⟩
      have HV2 := Lib.hid hv2
      have HV1 := Lib.hid (HQ.out.ext hx1)
      clear hv1 hv2 HD
      go_wp2_with fail
      go_roundg (p % gk)
      case measure => exact hlt
      case rel => exact ⟨gk, HV1, HV2, HG2, hq, by omega, hE.trans hx1⟩
    · obtain rfl : gk = 0 := by omega
      have hlen : (limbs 0).length = 0 := by rw [limbs_zero]; rfl
      rw [hlen] at *
      have hg : p = Nat.gcd (val xs) (val ys) := by have := HG.out; rwa [Nat.gcd_zero_right] at this
      have hS := ref01_signed false HP.out
      rw [trimL_limbs] at hS
      have HS := Lib.hid hS
      have HGG := Lib.hid hg
      clear hS hg hlen
      go_wp2_with fail
      refine HS.out.mono ?_
      rintro e w1 ⟨rfl, hx1⟩
      have hx := hE.trans hx1
      obtain ⟨r0, r1, r2, r3⟩ := HC.out
      have hlt2 : w.heap.size + 1 + 1 < wn.heap.size := by rw [HSZ.out]; omega
      have s0 := (hx.cell (p := ⟨w.heap.size + 1 + 1, 0, none⟩) hlt2).trans r0
      have s1 := (hx.cell (p := ⟨w.heap.size + 1 + 1, 1, none⟩) hlt2).trans r1
      have s2 := (Below.frozen hx (p := ⟨w.heap.size + 1 + 1, 0, none⟩) hlt2).trans r2
      have s3 := (Below.frozen hx (p := ⟨w.heap.size + 1 + 1, 1, none⟩) hlt2).trans r3
      have HX := Lib.hid (hEn.trans hx)
      have HXX := Lib.hid hx
      have HPP := Lib.hid (HP.out.ext hx1)
      clear r0 r1 r2 r3 hx hx1 hE hEn HP HC
      go_wp2_with fail
      refine bodyPost_ret ?_ rfl ⟨_, rfl, ⟨.slice A1 (limbs p).length c1, rfl, ?_⟩, ?_⟩
      · simp [results, Tryz.results102, go_sem, s0, s1]
      · rw [← HGG.out]
        have hb := HNW.out.ext hlt2 HXX.out
        exact (HPP.out.box hb _ _).box (hb.set_ _ (by simp)) _ _
      · exact (HX.out.pset (by simp <;> omega) _).pset (by simp <;> omega) _

end Go.Proofs.YtonleohlplkglaaGreatDoor
