/- Contract of the program's layer 1: GCD, of any numbers. -/
import Derived.Test.YtonleohlplkglaaGreatDoorYC
import Derived.Test.YtonleohlplkglaaGreatDoorYB
import Derived.Test.YtonleohlplkglaaGreatDoorYG
import Derived.Test.YtonleohlplkglaaGreatDoorYE
namespace Go.Proofs.YtonleohlplkglaaGreatDoor
open Go Go.RowKit
set_option maxRecDepth 100000 in
set_option maxHeartbeats 3200000 in
theorem int_GCD {s t : Bool} {v v' : Value} {xs ys : List Nat} {w : World} (h : Words w v xs) (h' : Words w v' ys) (hx : xs.length < 35184372088832) (hy : ys.length < 35184372088832) :
  Calls Tryz.prog 83 #[.agg #[.bool s, v], .agg #[.bool t, v']] w (Ret w fun r w' => ∃ u, r = .agg #[.bool false, u] ∧ Words w' u (limbs (Nat.gcd (val xs) (val ys)))) := by
 obtain ⟨A, c, rfl, hl, hm⟩ := h.form
 obtain ⟨A', c', rfl, hl', hm'⟩ := h'.form
 have hL := h.limb
 have hL' := h'.limb
 obtain ⟨M, hM1, hM2, hM3⟩ : ∃ M, val xs ≤ M ∧ val ys ≤ M ∧ (limbs M).length < 35184372088832 := by
  rcases Nat.le_total (val xs) (val ys) with h1 | h1
  ·refine ⟨val ys, h1, Nat.le_refl _, ?_⟩
   rw [← trimL_eq_limbs hL']; have := trimL_length_le ys; omega
  ·refine ⟨val xs, Nat.le_refl _, h1, ?_⟩
   rw [← trimL_eq_limbs hL]; have := trimL_length_le xs; omega
 have hT := fun w1 (hx : Ext w w1) => int_trim (h.ext hx)
 have hT' := fun w1 (hx : Ext w w1) => int_trim (h'.ext hx)
 have hW := h.trim
 have hW' := h'.trim
 rw [trimL_eq_limbs hL] at hT hW
 rw [trimL_eq_limbs hL'] at hT' hW'
 have HT := Lib.hid hT
 have HT' := Lib.hid hT'
 have HW := Lib.hid hW
 have HW' := Lib.hid hW'
 have HM := Lib.hid (And.intro hM1 (And.intro hM2 hM3))
 have HF := Lib.hid (fun (p : Nat) (hp : p < 18446744073709551616) w1 => int_fromUint p hp w1)
 have HSG := Lib.hid (fun (A : Option Addr) (n c : Nat) (xs : List Nat) (w1 : World) (hh : Words w1 (.slice A n c) xs) => int_signed false hh)
 clear h h' hT hT' hW hW' hM1 hM2 hM3 hx hy hL hL'
 generalize val xs = vx at *
 generalize val ys = vy at *
 generalize xs.length = n at *
 generalize ys.length = m at *
 go_enter Tryz.func83, Tryz.ntmps83
 go_wp2_with fail
 go_quiet ((first | (go_at_call_of 131 (Value.slice A n c); exact quiet_left (HT.out _ (by repeat first|exact xA _|assumption|refine xB ?_ _|refine xC ?_|refine xD ?_ _|refine xE ?_ (by simp <;> omega) _|refine xF ?_ (by assumption)))) | (go_at_call_of 131 (Value.slice A' m c'); exact quiet_left (HT'.out _ (by repeat first|exact xA _|assumption|refine xB ?_ _|refine xC ?_|refine xD ?_ _|refine xE ?_ (by simp <;> omega) _|refine xF ?_ (by assumption))))))
 clear HT HT'
 go_wp2_with fail
 generalize hwn : (((w.alloc (Obj.cells #[Value.bool s, Value.slice A n c] 36)).alloc (Obj.cells #[Value.bool t, Value.slice A' m c'] 36)).alloc (Obj.cells #[Value.bool false, Value.slice none 0 0] 36)).drewN nq = wn at *
 have hEn : Ext w wn := by rw [← hwn]; exact (by repeat first|exact xA _|assumption|refine xB ?_ _|refine xC ?_|refine xD ?_ _|refine xE ?_ (by simp <;> omega) _|refine xF ?_ (by assumption))
 have hc0 : wn.cell? ⟨w.heap.size + 1 + 1, 0, none⟩ = some (.bool false) := by rw [← hwn]; simp [go_sem]
 have hc1 : wn.cell? ⟨w.heap.size + 1 + 1, 1, none⟩ = some (.slice none 0 0) := by rw [← hwn]; simp [go_sem]
 have hf0 : wn.frozen? ⟨w.heap.size + 1 + 1, 0, none⟩ = false := by rw [← hwn]; simp [go_sem]
 have hf1 : wn.frozen? ⟨w.heap.size + 1 + 1, 1, none⟩ = false := by rw [← hwn]; simp [go_sem]
 have hsz : wn.heap.size = w.heap.size + 1 + 1 + 1 := by rw [← hwn]; simp
 have HSZ := Lib.hid hsz
 have HNW : Hid (NoWord wn (w.heap.size + 1 + 1)) := by
  rw [← hwn]
  have h1 := NoWord.new ((w.alloc (Obj.cells #[Value.bool s, Value.slice A n c] 36)).alloc (Obj.cells #[Value.bool t, Value.slice A' m c'] 36)) #[Value.bool false, Value.slice none 0 0] 36 (by simp)
  simp only [World.size_alloc] at h1
  exact h1
 have HC := Lib.hid (And.intro hc0 (And.intro hc1 (And.intro hf0 hf1)))
 have HEN := Lib.hid hEn
 clear hwn hc0 hc1 hf0 hf1 hsz hEn
 go_loopg [5, 6] vy (fun q x y wr => ∃ p : Nat, Hid (Words wr x (limbs p)) ∧ Hid (Words wr y (limbs q)) ∧ Hid (Nat.gcd p q = Nat.gcd vx vy) ∧ Hid (p ≤ M ∧ q ≤ M) ∧ Hid (Ext wn wr))
 case atStart => exact ⟨vx, HW.out.ext HEN.out, HW'.out.ext HEN.out, rfl, ⟨HM.out.1, HM.out.2.1⟩, Ext.refl _⟩
 case round =>
  obtain ⟨p, HP, HQ, HG, HPM, HE⟩ := hrel
  obtain ⟨A1, c1, rfl, hl1, hm1⟩ := HP.out.form
  obtain ⟨A2, c2, rfl, hl2, hm2⟩ := HQ.out.form
  have HLP := Lib.hid (rfl : (limbs p).length = (limbs p).length)
  have hlp : (limbs p).length < 35184372088832 := by have := limbs_length_mono HPM.out.1; have := HM.out.2.2; omega
  by_cases hq0 : 0 < gk
  ·have hlen : 0 < (limbs gk).length := by rw [limbs_pos (by omega)]; simp
   have HG2 : Hid (Nat.gcd gk (p % gk) = Nat.gcd vx vy) := (gcd_step p gk).trans HG.out
   have hlt := Nat.mod_lt p hq0
   have HPM2 : Hid (gk ≤ M ∧ p % gk ≤ M) := ⟨HPM.out.2, by have := HPM.out.2; omega⟩
   by_cases hbig : 2 < (limbs gk).length ∨ ((limbs gk).length ≤ 2 ∧ 2 < (limbs p).length)
   ·have HD := Lib.hid (int_divide lz32 HP.out HQ.out hq0 hlp)
    have HQ3 := Lib.hid (fun w1 (hx : Ext wr w1) => HQ.out.ext hx)
    clear hlp
    rcases hbig with hb | ⟨hb1, hb⟩
    all_goals
     generalize (limbs gk).length = lk at *
     generalize (limbs p).length = lp at *
     go_wp2_with fail
     refine HD.out.mono ?_
     rintro e w1 ⟨v, rfl, ⟨v1, v2, rfl, hv1, hv2⟩, hx1⟩
     have HV2 := Lib.hid hv2
     have HV1 := Lib.hid (HQ3.out _ hx1)
     have HE1 := Lib.hid (Ext.trans HE.out hx1)
     clear hv1 hv2 HD
     go_wp2_with fail
     go_roundg (p % gk)
     case measure => exact hlt
     case rel => exact ⟨gk, HV1, HV2, HG2, HPM2, HE1⟩
   ·have hs1 : (limbs gk).length ≤ 2 := by omega
    have hs2 : (limbs p).length ≤ 2 := by omega
    have HU := Lib.hid (fun w1 (hx : Ext wr w1) => int_toUint (HP.out.ext hx) hs2)
    have HU' := Lib.hid (fun w1 (hx : Ext wr w1) => int_toUint (HQ.out.ext hx) hs1)
    simp only [val_limbs] at HU HU'
    have HB : Hid (p < 18446744073709551616 ∧ gk < 18446744073709551616) := ⟨words_two hs2, words_two hs1⟩
    have e3 : (((limbs gk).length : Int) == 0) = false := by rw [beq_eq_false_iff_ne]; omega
    obtain ⟨wo, hwo⟩ : ∃ wo : World, wo = wr := ⟨_, rfl⟩
    subst hwo
    have HEo := Lib.hid HE.out
    clear hbig hlt hlp HG2 HPM2 HPM HP HQ HLP HE
    generalize (limbs gk).length = lk at *
    generalize (limbs p).length = lp at *
    obtain ⟨q0, rfl⟩ : ∃ q0 : Nat, q0 = gk := ⟨_, rfl⟩
    obtain ⟨p0, rfl⟩ : ∃ p0 : Nat, p0 = p := ⟨_, rfl⟩
    have HG0 := Lib.hid HG.out
    clear HG
    go_wp2_with fail
    refine (HU.out _ (Ext.refl _)).mono ?_
    rintro e w1 ⟨rfl, hx1⟩
    go_wp2_with fail
    refine (HU'.out _ hx1).mono ?_
    rintro e w2 ⟨rfl, hx2⟩
    have HX2 := Lib.hid (Ext.trans hx1 hx2)
    clear hx1 hx2
    go_wp2_with fail
    go_loopg [9, 10] q0 (fun q x y w3 => ∃ p : Nat, x = .int .u64 (p : Int) ∧ y = .int .u64 (q : Int) ∧ Hid (Nat.gcd p q = Nat.gcd vx vy) ∧ Hid (p < 18446744073709551616 ∧ q < 18446744073709551616) ∧ Hid (Ext wn w3))
    case atStart => exact ⟨p0, rfl, rfl, HG0.out, HB.out, Ext.trans HEo.out HX2.out⟩
    case round =>
     obtain ⟨p, rfl, rfl, HG, HPQ, HE⟩ := hrel
     by_cases h0 : 0 < gk
     ·have hb0 : ¬ ((gk : Int) = 0) := by omega
      have hb1 : ((gk : Int) == 0) = false := by rw [beq_eq_false_iff_ne]; omega
      have hb2 : ((gk : Int) != 0) = true := by rw [bne_iff_ne]; omega
      have HG2 : Hid (Nat.gcd gk (p % gk) = Nat.gcd vx vy) := (by
       show _ = _
       rw [← HG.out, Nat.gcd_comm p gk, Nat.gcd_rec gk p, Nat.gcd_comm])
      have hlt := Nat.mod_lt p h0
      have HP2 : Hid (gk < 18446744073709551616 ∧ p % gk < 18446744073709551616) := ⟨HPQ.out.2, by have := HPQ.out.2; omega⟩
      go_wp2_with fail
      go_quiet (fail)
      go_wp2_with fail
      go_roundg (p % gk)
      case measure => exact hlt
      case rel => exact ⟨gk, rfl, by first | rfl | simp | (rw [Int.natCast_emod]), HG2, HP2, HE.out.pdrewN _⟩
     ·obtain rfl : gk = 0 := by omega
      have hg : p = Nat.gcd vx vy := by have := HG.out; rwa [Nat.gcd_zero_right] at this
      have HGG := Lib.hid hg
      clear hg
      have HF1 := Lib.hid (fun w1 => HF.out p HPQ.out.1 w1)
      clear HF HPQ
      go_wp2_with fail
      refine (HF1.out _).mono ?_
      rintro e w4 ⟨v4, rfl, hv4, hx4⟩
      obtain ⟨A4, c4, rfl, hl4, hm4⟩ := hv4.form
      have hS := HSG.out _ _ _ _ _ hv4
      rw [trimL_limbs] at hS
      have HS := Lib.hid hS
      have HE4 := Lib.hid (Ext.trans HE.out hx4)
      clear hS hv4 hx4 HSG HF1
      generalize (limbs p).length = kp at *
      go_wp2_with fail
      refine HS.out.mono ?_
      rintro e w5 ⟨r5, rfl, ⟨u5, rfl, hu5⟩, hx5⟩
      have hx := Ext.trans HE4.out hx5
      obtain ⟨A5, c5, rfl, hl5, hm5⟩ := hu5.form
      obtain ⟨r0, r1, r2, r3⟩ := HC.out
      have hlt2 : w.heap.size + 1 + 1 < wn.heap.size := by rw [HSZ.out]; omega
      have s0 := (hx.cell (p := ⟨w.heap.size + 1 + 1, 0, none⟩) hlt2).trans r0
      have s1 := (hx.cell (p := ⟨w.heap.size + 1 + 1, 1, none⟩) hlt2).trans r1
      have s2 := (Below.frozen hx (p := ⟨w.heap.size + 1 + 1, 0, none⟩) hlt2).trans r2
      have s3 := (Below.frozen hx (p := ⟨w.heap.size + 1 + 1, 1, none⟩) hlt2).trans r3
      have HX := Lib.hid (HEN.out.trans hx)
      have HXX := Lib.hid hx
      have HPP := Lib.hid hu5
      clear r0 r1 r2 r3 hx hx5 HC hu5 HE HE4
      generalize hkq : (limbs p).length = kq at *
      have HKQ := Lib.hid hkq
      clear hkq
      go_wp2_with fail
      refine bodyPost_ret (v := .agg #[.bool false, .slice A5 kq c5]) ?_ rfl ⟨_, rfl, ⟨_, rfl, ?_⟩, ?_⟩
      ·simp [results, Tryz.results83, go_sem, s0, s1]
      ·rw [← HGG.out]
       have hb := HNW.out.ext hlt2 HXX.out
       exact (HPP.out.box hb _ _).box (hb.set_ _ (by simp)) _ _
      ·exact (HX.out.pset (by simp <;> omega) _).pset (by simp <;> omega) _
  ·obtain rfl : gk = 0 := by omega
   have hlen : (limbs 0).length = 0 := by rw [limbs_zero]; rfl
   rw [hlen] at *
   have hg : p = Nat.gcd vx vy := by have := HG.out; rwa [Nat.gcd_zero_right] at this
   have HGG := Lib.hid hg
   have HCL := Lib.hid (int_clone HP.out)
   have HEo := Lib.hid HE.out
   clear hg hlen HQ HP HE HG HPM
   generalize (limbs p).length = lp at *
   by_cases hlp2 : 2 < lp
   all_goals
    go_wp2_with fail
    refine HCL.out.mono ?_
    rintro e w4 ⟨v4, rfl, hv4, hx4⟩
    obtain ⟨A4, c4, rfl, hl4, hm4⟩ := hv4.form
    have hS := HSG.out _ _ _ _ _ hv4
    rw [trimL_limbs] at hS
    have HS := Lib.hid hS
    have HE4 := Lib.hid (Ext.trans HEo.out hx4)
    clear hS hv4 hx4 HSG
    generalize (limbs p).length = kp at *
    go_wp2_with fail
    refine HS.out.mono ?_
    rintro e w5 ⟨r5, rfl, ⟨u5, rfl, hu5⟩, hx5⟩
    have hx := Ext.trans HE4.out hx5
    obtain ⟨A5, c5, rfl, hl5, hm5⟩ := hu5.form
    obtain ⟨r0, r1, r2, r3⟩ := HC.out
    have hlt2 : w.heap.size + 1 + 1 < wn.heap.size := by rw [HSZ.out]; omega
    have s0 := (hx.cell (p := ⟨w.heap.size + 1 + 1, 0, none⟩) hlt2).trans r0
    have s1 := (hx.cell (p := ⟨w.heap.size + 1 + 1, 1, none⟩) hlt2).trans r1
    have s2 := (Below.frozen hx (p := ⟨w.heap.size + 1 + 1, 0, none⟩) hlt2).trans r2
    have s3 := (Below.frozen hx (p := ⟨w.heap.size + 1 + 1, 1, none⟩) hlt2).trans r3
    have HX := Lib.hid (HEN.out.trans hx)
    have HXX := Lib.hid hx
    have HPP := Lib.hid hu5
    clear r0 r1 r2 r3 hx hx5 HC hu5 HEo HE4
    generalize hkq : (limbs p).length = kq at *
    have HKQ := Lib.hid hkq
    clear hkq
    go_wp2_with fail
    refine bodyPost_ret (v := .agg #[.bool false, .slice A5 kq c5]) ?_ rfl ⟨_, rfl, ⟨_, rfl, ?_⟩, ?_⟩
    ·simp [results, Tryz.results83, go_sem, s0, s1]
    ·rw [← HGG.out]
     have hb := HNW.out.ext hlt2 HXX.out
     exact (HPP.out.box hb _ _).box (hb.set_ _ (by simp)) _ _
    ·exact (HX.out.pset (by simp <;> omega) _).pset (by simp <;> omega) _
end Go.Proofs.YtonleohlplkglaaGreatDoor
namespace Go.Proofs.YtonleohlplkglaaGreatDoor
open Go Go.RowKit
set_option maxHeartbeats 1600000 in
theorem rat_Valid {q : QI} {v v' : Value} {w : World} (h : Words w v q.num.mag) (h' : Words w v' q.den.mag) (hx : q.num.mag.length < 35184372088832) (hy : q.den.mag.length < 35184372088832) :
  Calls Tryz.prog 36 #[.agg #[.bool q.num.neg, v, .bool q.den.neg, v']] w fun e w' => e = .returned (.bool q.ok) ∧ Ext w w' := by
 obtain ⟨⟨s, xs⟩, ⟨t, ys⟩⟩ := q
 simp only at h h' hx hy ⊢
 obtain ⟨A, c, rfl, hl, hm⟩ := h.form
 obtain ⟨A', c', rfl, hl', hm'⟩ := h'.form
 have HV1 := Lib.hid (fun w1 (hx : Ext w w1) => int_Valid s (h.ext hx))
 have HV2 := Lib.hid (fun w1 (hx : Ext w w1) => int_Valid t (h'.ext hx))
 have HS2 := Lib.hid (fun w1 (hx : Ext w w1) => int_Sign t (h'.ext hx))
 have HG := Lib.hid (fun w1 (hx1 : Ext w w1) => int_GCD (s := s) (t := t) (h.ext hx1) (h'.ext hx1) hx hy)
 have HOK : Hid (QI.ok ⟨⟨s, xs⟩, ⟨t, ys⟩⟩ = ((decide ((trimL xs).length = xs.length) && (!s || decide (0 < xs.length))) && (decide ((trimL ys).length = ys.length) && (!t || decide (0 < ys.length))) && decide (0 < sgnW t (trimL ys).length) && decide (limbs (Nat.gcd (val xs) (val ys)) = [1]))) := by
  show _ = _
  rw [decide_eq_decide.2 (limbs_eq_one (g := Nat.gcd (val xs) (val ys)))]
  rfl
 clear h h' hx hy
 generalize (decide ((trimL xs).length = xs.length) && (!s || decide (0 < xs.length))) = b1 at *
 generalize (decide ((trimL ys).length = ys.length) && (!t || decide (0 < ys.length))) = b2 at *
 generalize sgnW t (trimL ys).length = sg at *
 generalize limbs (Nat.gcd (val xs) (val ys)) = gl at *
 generalize xs.length = n at *
 generalize ys.length = m at *
 go_enter Tryz.func36, Tryz.ntmps36
 go_wp2_with fail
 refine (HV1.out _ (Ext.alloc _ _)).mono ?_
 rintro e w1 ⟨rfl, hx1⟩
 cases b1
 ·go_wp2_with fail
  go_ret
  exact ⟨by rw [HOK.out]; rfl, (by repeat first|exact xA _|assumption|refine xB ?_ _|refine xC ?_|refine xD ?_ _|refine xE ?_ (by simp <;> omega) _|refine xF ?_ (by assumption))⟩
 obtain ⟨hc, hf⟩ := bcell hx1
 go_wp2_with fail
 refine (HV2.out _ (by repeat first|exact xA _|assumption|refine xB ?_ _|refine xC ?_|refine xD ?_ _|refine xE ?_ (by simp <;> omega) _|refine xF ?_ (by assumption))).mono ?_
 rintro e w2 ⟨rfl, hx2⟩
 have hx2 := Ext.trans hx1 hx2
 clear hx1 hc hf
 cases b2
 ·go_wp2_with fail
  go_ret
  exact ⟨by rw [HOK.out]; rfl, (by repeat first|exact xA _|assumption|refine xB ?_ _|refine xC ?_|refine xD ?_ _|refine xE ?_ (by simp <;> omega) _|refine xF ?_ (by assumption))⟩
 obtain ⟨hc, hf⟩ := bcell hx2
 go_wp2_with fail
 refine (HS2.out _ (by repeat first|exact xA _|assumption|refine xB ?_ _|refine xC ?_|refine xD ?_ _|refine xE ?_ (by simp <;> omega) _|refine xF ?_ (by assumption))).mono ?_
 rintro e w3 ⟨rfl, hx3⟩
 have hx3 := Ext.trans hx2 hx3
 clear hx2 hc hf
 by_cases hsg : 0 < sg
 ·have HOK2 : Hid (QI.ok ⟨⟨s, xs⟩, ⟨t, ys⟩⟩ = decide (gl = [1])) := by show _ = _; rw [HOK.out]; simp [hsg]
  clear HOK
  obtain ⟨hc, hf⟩ := bcell hx3
  go_wp2_with fail
  refine (HG.out _ (by repeat first|exact xA _|assumption|refine xB ?_ _|refine xC ?_|refine xD ?_ _|refine xE ?_ (by simp <;> omega) _|refine xF ?_ (by assumption))).mono ?_
  rintro e w4 ⟨r, rfl, ⟨u, rfl, hu⟩, hx4⟩
  have HU := Lib.hid hu
  clear hu hc hf
  go_wp2_with fail
  refine (rat_isOne HU.out).mono ?_
  rintro e w5 ⟨rfl, hx5⟩
  go_wp2_with fail
  go_ret
  exact ⟨by rw [HOK2.out]; simp, (by repeat first|exact xA _|assumption|refine xB ?_ _|refine xC ?_|refine xD ?_ _|refine xE ?_ (by simp <;> omega) _|refine xF ?_ (by assumption))⟩
 ·have hsd : decide (0 < sg) = false := by simpa using hsg
  have HOK2 : Hid (QI.ok ⟨⟨s, xs⟩, ⟨t, ys⟩⟩ = false) := by show _ = _; rw [HOK.out, hsd]; simp
  go_wp2_with fail
  go_ret
  exact ⟨by rw [HOK2.out]; rfl, (by repeat first|exact xA _|assumption|refine xB ?_ _|refine xC ?_|refine xD ?_ _|refine xE ?_ (by simp <;> omega) _|refine xF ?_ (by assumption))⟩
end Go.Proofs.YtonleohlplkglaaGreatDoor
namespace Go.Proofs.YtonleohlplkglaaGreatDoor
open Go Go.RowKit
set_option maxRecDepth 100000 in
set_option maxHeartbeats 1600000 in
theorem int_times {A A' : Option Addr} {n m c c' : Nat} {xs ys : List Nat} {w : World} (h : Words w (.slice A n c) xs) (h' : Words w (.slice A' m c') ys) (hsz : n + m ≤ 35184372088832) :
  Calls Tryz.prog 211 #[.slice A n c, .slice A' m c'] w (Ret w fun v w' => Words w' v (limbs (val xs * val ys))) := by
 obtain ⟨rfl, hl, hm⟩ := h.len
 obtain ⟨rfl, hl', hm'⟩ := h'.len
 have hL := h.limb
 have hL' := h'.limb
 have H := Lib.hid h
 have H' := Lib.hid h'
 clear h h'
 by_cases h0 : xs.length = 0
 ·have HZ : Hid (limbs (val xs * val ys) = []) := by
   show _ = _
   rw [List.eq_nil_of_length_eq_zero h0]; simp [val, limbs_zero]
  have e0 : ((xs.length : Int) == 0) = true := by simp [h0]
  clear h0
  generalize xs.length = n at *
  generalize ys.length = m at *
  go_enter Tryz.func211, Tryz.ntmps211
  go_wp2_with fail
  go_ret
  exact ⟨_, rfl, by rw [HZ.out]; exact Words.nil _, (by repeat first|exact xA _|assumption|refine xB ?_ _|refine xC ?_|refine xD ?_ _|refine xE ?_ (by simp <;> omega) _|refine xF ?_ (by assumption))⟩
 by_cases h1 : ys.length = 0
 ·have HZ : Hid (limbs (val xs * val ys) = []) := by
   show _ = _
   rw [List.eq_nil_of_length_eq_zero h1]; simp [val, limbs_zero]
  have e0 : ((xs.length : Int) == 0) = false := by rw [beq_eq_false_iff_ne]; omega
  have e1 : ((ys.length : Int) == 0) = true := by simp [h1]
  clear h0 h1
  generalize xs.length = n at *
  generalize ys.length = m at *
  go_enter Tryz.func211, Tryz.ntmps211
  go_wp2_with fail
  go_ret
  exact ⟨_, rfl, by rw [HZ.out]; exact Words.nil _, (by repeat first|exact xA _|assumption|refine xB ?_ _|refine xC ?_|refine xD ?_ _|refine xE ?_ (by simp <;> omega) _|refine xF ?_ (by assumption))⟩
 have e0 : ((xs.length : Int) == 0) = false := by rw [beq_eq_false_iff_ne]; omega
 have e1 : ((ys.length : Int) == 0) = false := by rw [beq_eq_false_iff_ne]; omega
 have hmk := mk_words (xs.length + ys.length) (by omega)
 simp only [Int.natCast_add] at hmk
 go_enter Tryz.func211, Tryz.ntmps211
 go_wp2_with fail
 go_loopw [27] (fun i wr => ∃ (k : Nat) (zs : List Nat), k ≤ xs.length ∧ i = .int .i64 (k : Int) ∧ Hid (zs.length = xs.length + ys.length ∧ Limb zs ∧ Row wr w.heap.size zs ∧ (∀ j, k + ys.length ≤ j → zs.getD j 0 = 0) ∧ val zs = val (xs.take k) * val ys) ∧ Ext w wr) (fun i _ => xs.length - (intOf i).toNat)
 case atStart =>
  exact ⟨0, List.replicate (xs.length + ys.length) 0, by omega, rfl, ⟨by simp, limb_replicate _, Row.made _ _, fun j _ => getD_replicate _ _, by rw [val_replicate]; simp [val]⟩, (by repeat first|exact xA _|assumption|refine xB ?_ _|refine xC ?_|refine xD ?_ _|refine xE ?_ (by simp <;> omega) _|refine xF ?_ (by assumption))⟩
 case round =>
  obtain ⟨i, zs, hi, rfl, HZ, hE⟩ := hrel
  obtain ⟨wo, rfl⟩ : ∃ wo : World, wo = wr := ⟨_, rfl⟩
  by_cases hi0 : i < xs.length
  ·obtain ⟨b, off, rfl, hb, -, hcell⟩ := (H.out.ext hE).at_ (k := i) (by omega)
   have hx := hL.getD i
   have g1 := hcell i (by omega)
   have i1 : (i : Int) < (xs.length : Int) := by omega
   have i0 : (0 : Int) ≤ (i : Int) := by omega
   clear hcell
   obtain ⟨x, hxe⟩ : ∃ x, xs.getD i 0 = x := ⟨_, rfl⟩
   rw [hxe] at g1 hx
   have HXE := Lib.hid hxe
   clear hxe
   go_wp2_with fail
   go_loopw [8, 34] (fun r i' wr => ∃ (k cc : Nat) (zs : List Nat), k ≤ ys.length ∧ i' = .int .i64 (k : Int) ∧ r = .int .u64 (cc : Int) ∧ cc < 4294967296 ∧ Hid (zs.length = xs.length + ys.length ∧ Limb zs ∧ Row wr w.heap.size zs ∧ (∀ j, i + ys.length ≤ j → zs.getD j 0 = 0) ∧ val zs + 4294967296 ^ (i + k) * cc = val (xs.take i) * val ys + 4294967296 ^ i * xs.getD i 0 * val (ys.take k)) ∧ Ext w wr) (fun _ i' _ => ys.length - (intOf i').toNat)
   case atStart =>
    obtain ⟨z1, z2, z3, z4, z5⟩ := HZ.out
    exact ⟨0, 0, zs, by omega, rfl, rfl, by omega, ⟨z1, z2, z3, z4, by rw [z5]; simp [val]⟩, hE⟩
   case round =>
    obtain ⟨k, cc, zs', hk, rfl, rfl, hcc, HZ', hE'⟩ := hrel
    by_cases hk0 : k < ys.length
    ·obtain ⟨b', off', rfl, hb', -, hcell'⟩ := (H'.out.ext hE').at_ (k := k) (by omega)
     have g2 := hcell' k (by omega)
     have g3 := HZ'.out.2.2.1.cell (k := i + k) (by have := HZ'.out.1; omega)
     have g4 := HZ'.out.2.2.1.frozen (i + k)
     have hy := hL'.getD k
     have hz := HZ'.out.2.1.getD (i + k)
     clear hcell'
     obtain ⟨z1, z2, z3, z4, z5⟩ := HZ'.out
     have HR := times_inner (by omega) z5
     have HS := z3.set_ (i + k) ((cc + zs'.getD (i + k) 0 + xs.getD i 0 * ys.getD k 0) % 4294967296)
     have HQ : Limb (zs'.set (i + k) ((cc + zs'.getD (i + k) 0 + xs.getD i 0 * ys.getD k 0) % 4294967296)) := limb_set z2 (Nat.mod_lt _ (by omega))
     have HN := Lib.hid z1
     have HF : ∀ j, i + ys.length ≤ j → (zs'.set (i + k) ((cc + zs'.getD (i + k) 0 + xs.getD i 0 * ys.getD k 0) % 4294967296)).getD j 0 = 0 := fun j hj => by rw [getD_set_ne (by omega)]; exact z4 j hj
     have HALL := Lib.hid (And.intro HQ (And.intro HS (And.intro HF HR)))
     rw [HXE.out] at HALL
     obtain ⟨b1, b2⟩ := times_bound hcc hz hx hy
     have hp0 : (0 : Int) ≤ (x : Int) * (ys.getD k 0 : Int) := Int.mul_nonneg (Int.natCast_nonneg _) (Int.natCast_nonneg _)
     clear z1 z2 z3 z4 z5 HR HS HQ HF
     generalize ys.getD k 0 = y at *
     generalize zs'.getD (i + k) 0 = z at *
     go_wp2_with fail
     rw [show ((cc : Int) + ((x : Int) * y + z)) % 4294967296 = (((cc + z + x * y) % 4294967296 : Nat) : Int) by rw [Int.natCast_emod, Int.natCast_add, Int.natCast_add, Int.natCast_mul, Int.add_comm ((x : Int) * y), Int.add_assoc]; rfl,
      show ((cc : Int) + ((x : Int) * y + z)) / 4294967296 = (((cc + z + x * y) / 4294967296 : Nat) : Int) by rw [Int.natCast_ediv, Int.natCast_add, Int.natCast_add, Int.natCast_mul, Int.add_comm ((x : Int) * y), Int.add_assoc]; rfl]
     obtain ⟨a1, a2, a3, a4⟩ := HALL.out
     exact ⟨⟨k + 1, _, _, by omega, by go_num, rfl, by omega, ⟨by simp [HN.out], a1, a2, a3, by rw [HXE.out]; exact a4⟩, (by repeat first|exact xA _|assumption|refine xB ?_ _|refine xC ?_|refine xD ?_ _|refine xE ?_ (by simp <;> omega) _|refine xF ?_ (by assumption))⟩, by simp [intOf]; omega⟩
    ·obtain rfl : k = ys.length := by omega
     obtain ⟨z1, z2, z3, z4, z5⟩ := HZ'.out
     have g3 := z3.cell (k := i + ys.length) (by omega)
     have g4 := z3.frozen (i + ys.length)
     have HR := Lib.hid (times_outer hi0 z1 (z4 _ (Nat.le_refl _)) z5)
     have HS := Lib.hid (z3.set_ (i + ys.length) cc)
     have HQ : Hid (Limb (zs'.set (i + ys.length) cc)) := limb_set z2 hcc
     have HN := Lib.hid z1
     have HF : Hid (∀ j, i + 1 + ys.length ≤ j → (zs'.set (i + ys.length) cc).getD j 0 = 0) := fun j hj => by rw [getD_set_ne (by omega)]; exact z4 j (by omega)
     clear z1 z2 z3 z4 z5
     generalize zs'.getD (i + ys.length) 0 = z at *
     go_wp2_with fail
     exact ⟨⟨i + 1, _, by omega, by go_num, ⟨by simp [HN.out], HQ.out, HS.out, HF.out, HR.out⟩, (by repeat first|exact xA _|assumption|refine xB ?_ _|refine xC ?_|refine xD ?_ _|refine xE ?_ (by simp <;> omega) _|refine xF ?_ (by assumption))⟩, by simp [intOf]; omega⟩
  ·obtain rfl : i = xs.length := by omega
   obtain ⟨z1, z2, z3, z4, z5⟩ := HZ.out
   rw [List.take_length] at z5
   have hW := z3.words z2 (c := xs.length + ys.length) (by omega) (by omega)
   rw [z1] at hW
   have HT := Lib.hid (int_trim hW)
   have TW := hW.trim
   rw [trimL_eq_limbs z2, z5] at TW
   have TW' := Lib.hid TW
   rw [trimL_eq_limbs z2, z5] at HT
   clear hW z1 z2 z3 z4 z5 TW
   go_wp2_with fail
   refine HT.out.mono ?_
   rintro e w' ⟨rfl, rfl⟩
   go_wp2_with fail
   go_ret
   exact ⟨_, rfl, TW'.out, (by repeat first|exact xA _|assumption|refine xB ?_ _|refine xC ?_|refine xD ?_ _|refine xE ?_ (by simp <;> omega) _|refine xF ?_ (by assumption))⟩
end Go.Proofs.YtonleohlplkglaaGreatDoor
namespace Go.Proofs.YtonleohlplkglaaGreatDoor
open Go Go.RowKit
set_option maxRecDepth 100000 in
set_option maxHeartbeats 3200000 in
theorem int_Mul {A A' : Option Addr} {n m c c' a b : Nat} {w : World} (h : Words w (.slice A n c) (limbs a)) (h' : Words w (.slice A' m c') (limbs b)) (hsz : n + m ≤ 35184372088832) :
  Calls Tryz.prog 196 #[.agg #[.bool false, .slice A n c], .agg #[.bool false, .slice A' m c']] w (Ret w fun r w' => ∃ u, r = .agg #[.bool false, u] ∧ Words w' u (limbs (a * b))) := by
 have hn := h.len
 have hm := h'.len
 have hT1 := fun w1 (hx : Ext w w1) => int_trim (h.ext hx)
 have hT2 := fun w1 (hx : Ext w w1) => int_trim (h'.ext hx)
 rw [trimL_limbs, ← hn.1] at hT1
 rw [trimL_limbs, ← hm.1] at hT2
 have hT := fun w1 (hx : Ext w w1) => int_times (h.ext hx) (h'.ext hx) hsz
 rw [val_limbs, val_limbs] at hT
 have HT1 := Lib.hid hT1
 have HT2 := Lib.hid hT2
 have HT := Lib.hid hT
 have HTL : Hid (trimL (limbs (a * b)) = limbs (a * b)) := trimL_limbs _
 have hn2 : n ≤ c := hn.2.1
 have hm2 : m ≤ c' := hm.2.1
 have hc2 : n ≤ 35184372088832 := hn.2.2
 have hc2' : m ≤ 35184372088832 := hm.2.2
 clear hT1 hT2 hT h h' hn hm
 obtain ⟨W3, hW3⟩ : ∃ W3, (((w.alloc (.cells #[.bool false, .slice A n c] 36)).alloc (.cells #[.bool false, .slice A' m c'] 36)).alloc (.cells #[.bool false, .slice none 0 0] 36)) = W3 := ⟨_, rfl⟩
 have HB0 : Hid (Boxes3 W3 w.heap.size false false (.slice A n c) (.slice A' m c')) := by rw [← hW3]; exact boxes3 w false false A A' n m c c'
 have hE3 : Ext w W3 := by rw [← hW3]; exact (by repeat first|exact xA _|assumption|refine xB ?_ _|refine xC ?_|refine xD ?_ _|refine xE ?_ (by simp <;> omega) _|refine xF ?_ (by assumption))
 have HW3 := Lib.hid hW3
 clear hW3
 go_enter Tryz.func196, Tryz.ntmps196
 go_upto_region 1 with fail
 rw [HW3.out]
 obtain ⟨⟨p0, p1, -, -, -, -⟩, ⟨q0, q1, -, -, -, -⟩, -⟩ := HB0.out
 go_region_held3 (fun w' => w'.cell? ⟨w.heap.size, 0, none⟩ = some (.bool false) ∧ w'.cell? ⟨w.heap.size, 1, none⟩ = some (.slice A n c) ∧ w'.cell? ⟨w.heap.size + 1, 0, none⟩ = some (.bool false) ∧ w'.cell? ⟨w.heap.size + 1, 1, none⟩ = some (.slice A' m c')) (first | (exact ⟨cell_far (cell_far y0 (by dsimp only; omega)) (by dsimp only; omega), cell_far (cell_far y1 (by dsimp only; omega)) (by dsimp only; omega), cell_far (cell_far y2 (by dsimp only; omega)) (by dsimp only; omega), cell_far (cell_far y3 (by dsimp only; omega)) (by dsimp only; omega)⟩) | (go_keep))
  (first
   | (go_at_call_of 131 (Value.slice A n c); refine (HT1.out _ (by repeat first|exact xA _|assumption|refine xB ?_ _|refine xC ?_|refine xD ?_ _|refine xE ?_ (by simp <;> omega) _|refine xF ?_ (by assumption))).mono ?_; rintro e w1 ⟨rfl, rfl⟩)
   | (go_at_call_of 131 (Value.slice A' m c'); refine (HT2.out _ (by repeat first|exact xA _|assumption|refine xB ?_ _|refine xC ?_|refine xD ?_ _|refine xE ?_ (by simp <;> omega) _|refine xF ?_ (by assumption))).mono ?_; rintro e w1 ⟨rfl, rfl⟩)
   | (go_at_call 211; refine (HT.out _ (by repeat first|exact xA _|assumption|refine xB ?_ _|refine xC ?_|refine xD ?_ _|refine xE ?_ (by simp <;> omega) _|refine xF ?_ (by assumption))).mono ?_; rintro e w1 ⟨v1, rfl, hv1, hx1⟩; obtain ⟨A1, c1, rfl, hl1, hm1⟩ := hv1.form; have HV1 := Lib.hid hv1; clear hv1; have hB1 := HB0.out.drew.ext hx1; have HB1 := Lib.hid hB1; obtain ⟨⟨r0, r1, -, -, -, -⟩, ⟨r2, r3, -, -, -, -⟩, -⟩ := hB1)
   | (go_at_call 133; refine (int_signed _ HV1.out).mono ?_; rintro e w2 ⟨v2, rfl, ⟨u2, rfl, hu2⟩, hx2⟩; obtain ⟨A2, c2, rfl, hl2, hm2'⟩ := hu2.form; have HU2 := Lib.hid hu2; clear hu2; have hB2 := HB1.out.ext hx2; have HB2 := Lib.hid hB2; obtain ⟨⟨y0, y1, -, -, -, -⟩, ⟨y2, y3, -, -, -, -⟩, ⟨y4, y5, y6, y7, -, -⟩⟩ := hB2))
 all_goals
  have HX := Lib.hid (Ext.trans (Ext.trans hE3 (Ext.drew W3)) (Ext.trans hx1 hx2))
  generalize hk2 : (trimL (limbs (a * b))).length = k2 at *
  have HK2 := Lib.hid hk2
  clear hk2
  go_wp2_with fail
  refine bodyPost_ret (v := .agg #[.bool false, .slice A2 k2 c2]) ?_ rfl ⟨_, rfl, ⟨_, rfl, ?_⟩, ?_⟩
  ·simp [results, Tryz.results196, go_sem, y4, y5]
  ·rw [← HTL.out]
   have hb := HB2.out.2.2.2.2.2.2.2
   exact (HU2.out.box hb _ _).box (hb.set_ _ (by simp)) _ _
  ·exact (HX.out.pset (by simp <;> omega) _).pset (by simp <;> omega) _
end Go.Proofs.YtonleohlplkglaaGreatDoor
namespace Go.Proofs.YtonleohlplkglaaGreatDoor
open Go Go.RowKit
set_option maxHeartbeats 800000 in
theorem int_FromInt (n : Nat) (hn : n < 1000) (w : World) :
  Calls Tryz.prog 182 #[.int .i64 (n : Int)] w (Ret w fun r w' => ∃ u, r = .agg #[.bool false, u] ∧ Words w' u (limbs n)) := by
 have HF := Lib.hid (fun w1 => int_fromUint n (by omega) w1)
 have HTL : Hid (trimL (limbs n) = limbs n) := trimL_limbs _
 go_enter Tryz.func182, Tryz.ntmps182
 go_wp2_with fail
 refine (HF.out _).mono ?_
 rintro e w1 ⟨v1, rfl, hv1, hx1⟩
 obtain ⟨A1, c1, rfl, hl1, hm1⟩ := hv1.form
 have HS := Lib.hid (int_signed false hv1)
 have HB := BoxI.new w false (.slice none 0 0) 36 (by simp)
 have HB1 := Lib.hid (HB.ext hx1)
 have hE1 : Ext w w1 := Ext.trans (Ext.alloc _ _) hx1
 clear hv1 HB hx1
 go_wp2_with fail
 refine HS.out.mono ?_
 rintro e w2 ⟨v2, rfl, ⟨u2, rfl, hu2⟩, hx2⟩
 obtain ⟨A2, c2, rfl, hl2, hm2⟩ := hu2.form
 have HU2 := Lib.hid hu2
 have HB2 := Lib.hid (HB1.out.ext hx2)
 obtain ⟨y0, y1, y2, y3, -, -⟩ := HB2.out
 have HX := Lib.hid (Ext.trans hE1 hx2)
 clear hu2 hx2 hE1 HS HB1
 generalize hk2 : (trimL (limbs n)).length = k2 at *
 have HK2 := Lib.hid hk2
 clear hk2
 go_wp2_with fail
 refine bodyPost_ret (v := .agg #[.bool false, .slice A2 k2 c2]) ?_ rfl ⟨_, rfl, ⟨_, rfl, ?_⟩, ?_⟩
 ·simp [results, Tryz.results182, go_sem, y0, y1]
 ·rw [← HTL.out]
  have hb := HB2.out.2.2.2.2.2
  exact (HU2.out.box hb _ _).box (hb.set_ _ (by simp)) _ _
 ·exact (HX.out.pset (by simp <;> omega) _).pset (by simp <;> omega) _
set_option maxHeartbeats 800000 in
theorem rat_one (w : World) :
  Calls Tryz.prog 195 #[] w (Ret w fun r w' => ∃ u, r = .agg #[.bool false, u] ∧ Words w' u (limbs 1)) := by
 have HF := Lib.hid (fun w1 => int_FromInt 1 (by omega) w1)
 go_enter Tryz.func195, Tryz.ntmps195
 go_wp2_with fail
 refine (HF.out _).mono ?_
 rintro e w1 ⟨v1, rfl, ⟨u1, rfl, hu1⟩, hx1⟩
 obtain ⟨A1, c1, rfl, hl1, hm1⟩ := hu1.form
 have HB := BoxI.new w false (.slice none 0 0) 36 (by simp)
 have HB1 := Lib.hid (HB.ext hx1)
 obtain ⟨y0, y1, y2, y3, -, -⟩ := HB1.out
 have HX := Lib.hid (Ext.trans (Ext.alloc w (.cells #[.bool false, .slice none 0 0] 36)) hx1)
 have HU := Lib.hid hu1
 clear hu1 hx1 HB
 generalize (limbs 1).length = k at *
 go_wp2_with fail
 refine bodyPost_ret (v := .agg #[.bool false, .slice A1 k c1]) ?_ rfl ⟨_, rfl, ⟨_, rfl, ?_⟩, ?_⟩
 ·simp [results, Tryz.results195, go_sem, y0, y1]
 ·have hb := HB1.out.2.2.2.2.2
  exact (HU.out.box hb _ _).box (hb.set_ _ (by simp)) _ _
 ·exact (HX.out.pset (by simp <;> omega) _).pset (by simp <;> omega) _
set_option maxHeartbeats 800000 in
theorem rat_FromInt (n : Nat) (hn : n < 1000) (w : World) :
  Calls Tryz.prog 181 #[.int .i64 (n : Int)] w (Ret w fun r w' => ∃ u v, r = .agg #[.bool false, u, .bool false, v] ∧ Words w' u (limbs n) ∧ Words w' v (limbs 1)) := by
 have HF := Lib.hid (fun w1 => int_FromInt n hn w1)
 have HO := Lib.hid (fun w1 => rat_one w1)
 go_enter Tryz.func181, Tryz.ntmps181
 go_wp2_with fail
 refine (HF.out _).mono ?_
 rintro e w1 ⟨v1, rfl, ⟨u1, rfl, hu1⟩, hx1⟩
 obtain ⟨A1, c1, rfl, hl1, hm1⟩ := hu1.form
 have HB := BoxQ.new w false false (.slice none 0 0) (.slice none 0 0) 38 (by simp) (by simp)
 have HB1 := Lib.hid (HB.ext hx1)
 have hE1 : Ext w w1 := Ext.trans (Ext.alloc _ _) hx1
 have HU1 := Lib.hid hu1
 clear hu1 hx1 HB
 go_wp2_with fail
 refine (HO.out _).mono ?_
 rintro e w2 ⟨v2, rfl, ⟨u2, rfl, hu2⟩, hx2⟩
 obtain ⟨A2, c2, rfl, hl2, hm2⟩ := hu2.form
 have HB2 := Lib.hid (HB1.out.ext hx2)
 have HU1' := Lib.hid (HU1.out.ext hx2)
 have HU2 := Lib.hid hu2
 have HX := Lib.hid (Ext.trans hE1 hx2)
 clear hu2 hx2 hE1 HB1 HU1
 generalize (limbs 1).length = k at *
 generalize (limbs n).length = k' at *
 have HFIN : Hid (Words (putQ w2 w.heap.size false (.slice A1 k' c1) false (.slice A2 k c2)) (.slice A1 k' c1) (limbs n) ∧ Words (putQ w2 w.heap.size false (.slice A1 k' c1) false (.slice A2 k c2)) (.slice A2 k c2) (limbs 1)) := ⟨HU1'.out.putQ HB2.out _ _ _ _ (by simp), HU2.out.putQ HB2.out _ _ _ _ (by simp)⟩
 have HXX : Hid (Ext w (putQ w2 w.heap.size false (.slice A1 k' c1) false (.slice A2 k c2))) := HX.out.putQ (Nat.le_refl _) _ _ _ _
 obtain ⟨y0, y1, y2, y3, y4, y5, y6, y7, -, -⟩ := HB2.out
 unfold putQ at HFIN HXX
 go_wp2_with fail
 refine bodyPost_ret (v := .agg #[.bool false, .slice A1 k' c1, .bool false, .slice A2 k c2]) ?_ rfl ⟨_, rfl, ⟨_, _, rfl, ?_, ?_⟩, ?_⟩
 ·simp [results, Tryz.results181, go_sem, y0, y1, y2, y3]
 ·exact HFIN.out.1
 ·exact HFIN.out.2
 ·exact HXX.out
end Go.Proofs.YtonleohlplkglaaGreatDoor
namespace Go.Proofs.YtonleohlplkglaaGreatDoor
open Go Go.RowKit
theorem signed0 {A : Option Addr} {n c a : Nat} {w : World} (h : Words w (.slice A n c) (limbs a)) :
  Calls Tryz.prog 133 #[.bool false, .slice A n c] w (Ret w fun r w' => ∃ A' c', r = .agg #[.bool false, .slice A' (limbs a).length c'] ∧ Words w' (.slice A' (limbs a).length c') (limbs a)) := by
 refine (int_signed false h).mono ?_
 rintro e w' ⟨v, rfl, ⟨u, rfl, hu⟩, hx⟩
 rw [trimL_limbs] at hu
 obtain ⟨A', c', rfl, -, -⟩ := hu.form
 exact ⟨_, rfl, ⟨A', c', rfl, hu⟩, hx⟩
set_option maxRecDepth 100000 in
set_option maxHeartbeats 3200000 in
theorem int_DivMod {A A' : Option Addr} {n m c c' a b : Nat} {w : World} (h : Words w (.slice A n c) (limbs a)) (h' : Words w (.slice A' m c') (limbs b)) (hb : 0 < b) (hn : n < 35184372088832) :
  Calls Tryz.prog 224 #[.agg #[.bool false, .slice A n c], .agg #[.bool false, .slice A' m c']] w (Ret w fun r w' => ∃ u v, r = .tuple #[.agg #[.bool false, u], .agg #[.bool false, v], .int .i64 0] ∧ Words w' u (limbs (a / b)) ∧ Words w' v (limbs (a % b))) := by
 have hln := h.len
 have hlm := h'.len
 have hT1 := fun w1 (hx : Ext w w1) => int_trim (h.ext hx)
 have hT2 := fun w1 (hx : Ext w w1) => int_trim (h'.ext hx)
 rw [trimL_limbs, ← hln.1] at hT1
 rw [trimL_limbs, ← hlm.1] at hT2
 have HT1 := Lib.hid hT1
 have HT2 := Lib.hid hT2
 have HD := Lib.hid (fun w1 (hx : Ext w w1) => int_divide lz32 (h.ext hx) (h'.ext hx) hb hn)
 have hm0 : 0 < m := by rw [hlm.1, limbs_pos (by omega)]; simp
 have e0 : ((m : Int) == 0) = false := by rw [beq_eq_false_iff_ne]; omega
 have hn2 : n ≤ c := hln.2.1
 have hm2 : m ≤ c' := hlm.2.1
 have hc2 : n ≤ 35184372088832 := hln.2.2
 have hc2' : m ≤ 35184372088832 := hlm.2.2
 clear hT1 hT2 h h' hln hlm hb
 obtain ⟨W4, hW4⟩ : ∃ W4, ((((w.alloc (.cells #[.bool false, .slice A n c] 36)).alloc (.cells #[.bool false, .slice A' m c'] 36)).alloc (.cells #[.bool false, .slice none 0 0] 36)).alloc (.cells #[.bool false, .slice none 0 0] 36)) = W4 := ⟨_, rfl⟩
 have HB0 : Hid (Boxes4 W4 w.heap.size false false (.slice A n c) (.slice A' m c')) := by rw [← hW4]; exact boxes4 w false false A A' n m c c'
 have hE4 : Ext w W4 := by rw [← hW4]; exact (by repeat first|exact xA _|assumption|refine xB ?_ _|refine xC ?_|refine xD ?_ _|refine xE ?_ (by simp <;> omega) _|refine xF ?_ (by assumption))
 have HW4 := Lib.hid hW4
 clear hW4
 go_enter Tryz.func224, Tryz.ntmps224
 go_upto_region 1 with fail
 rw [HW4.out]
 obtain ⟨⟨p0, p1, -, -, -, -⟩, ⟨q0, q1, -, -, -, -⟩, -⟩ := HB0.out
 go_wp2_with fail
 refine (HT2.out _ hE4).mono ?_
 rintro e w1 ⟨rfl, rfl⟩
 go_wp2_with fail
 refine (HT1.out _ hE4).mono ?_
 rintro e w1 ⟨rfl, rfl⟩
 go_wp2_with fail
 refine (HD.out _ hE4).mono ?_
 rintro e w1 ⟨v, rfl, ⟨v1, v2, rfl, hv1, hv2⟩, hx1⟩
 obtain ⟨A1, c1, rfl, hl1, hm1⟩ := hv1.form
 obtain ⟨A2, c2, rfl, hl2, hm2'⟩ := hv2.form
 have HV1 := Lib.hid hv1
 have HV2 := Lib.hid hv2
 have hE1 : Ext w w1 := Ext.trans hE4 hx1
 have HB1 := Lib.hid (HB0.out.ext hx1)
 clear hv1 hv2 hx1 HD HT1 HT2 p0 p1 q0 q1 HB0
 obtain ⟨⟨p0, p1, -, -, -, -⟩, ⟨q0, q1, -, -, -, -⟩, -⟩ := HB1.out
 have HSQ := Lib.hid (fun w2 (hx : Ext w1 w2) => signed0 (HV1.out.ext hx))
 generalize (limbs (a / b)).length = k1 at *
 have HS2 := Lib.hid (fun w2 (hh : Words w2 (.slice A2 (limbs (a % b)).length c2) (limbs (a % b))) => signed0 hh)
 generalize (limbs (a % b)).length = k2 at *
 go_wp2_with fail
 go_region_with
  (first
   | (go_at_call 133; refine (HSQ.out _ (by repeat first|exact xA _|assumption|refine xB ?_ _|refine xC ?_|refine xD ?_ _|refine xE ?_ (by simp <;> omega) _|refine xF ?_ (by assumption))).mono ?_; clear HSQ; rintro e w2 ⟨v2, rfl, ⟨A3, c3, rfl, hu2⟩, hx2⟩; have HU2 := Lib.hid hu2; clear hu2; have hB2 := HB1.out.drew.ext hx2; have HB2 := Lib.hid hB2; have HV2a := Lib.hid (HV2.out.ext (Ext.trans (Ext.drew _) hx2)); have HU2b := Lib.hid (HU2.out.put HB2.out.2.2.1 false (.slice A3 k1 c3)); have HV2b := Lib.hid (HV2a.out.put HB2.out.2.2.1 false (.slice A3 k1 c3)); have HB2b := Lib.hid (And.intro (HB2.out.1.far (h := w.heap.size + 1 + 1) (by omega) (.bool false) (.slice A3 k1 c3)) (And.intro (HB2.out.2.1.far (h := w.heap.size + 1 + 1) (by omega) (.bool false) (.slice A3 k1 c3)) (And.intro (HB2.out.2.2.1.put false (u' := .slice A3 k1 c3) (by simp)) (HB2.out.2.2.2.far (h := w.heap.size + 1 + 1) (by omega) (.bool false) (.slice A3 k1 c3))))); obtain ⟨⟨r0, r1, -, -, -, -⟩, ⟨r2, r3, -, -, -, -⟩, ⟨r4, r5, r6, r7, -, -⟩, -⟩ := hB2)
   | (go_at_call 133; refine (HS2.out _ HV2a.out).mono ?_; rintro e w3 ⟨v3, rfl, ⟨A4, c4, rfl, hu3⟩, hx3⟩; have HU3 := Lib.hid hu3; clear hu3; have hB3 := HB2.out.ext hx3; have HB3 := Lib.hid hB3; obtain ⟨⟨y0, y1, -, -, -, -⟩, ⟨y2, y3, -, -, -, -⟩, ⟨y4, y5, y6, y7, -, -⟩, ⟨z4, z5, z6, z7, -, -⟩⟩ := hB3)
   | (go_at_call 133; refine (HS2.out _ HV2b.out).mono ?_; rintro e w3 ⟨v3, rfl, ⟨A4, c4, rfl, hu3⟩, hx3⟩; have HU3 := Lib.hid hu3; clear hu3; have hB3 := And.intro (HB2b.out.1.ext hx3) (And.intro (HB2b.out.2.1.ext hx3) (And.intro (HB2b.out.2.2.1.ext hx3) (HB2b.out.2.2.2.ext hx3))); have HB3 := Lib.hid hB3; obtain ⟨⟨y0, y1, -, -, -, -⟩, ⟨y2, y3, -, -, -, -⟩, ⟨y4, y5, y6, y7, -, -⟩, ⟨z4, z5, z6, z7, -, -⟩⟩ := hB3))
 all_goals
  go_wp2_with fail
  refine bodyPost_ret (v := .tuple #[.agg #[.bool false, .slice A3 k1 c3], .agg #[.bool false, .slice A4 k2 c4], .int .i64 0]) ?_ rfl ⟨_, rfl, ⟨_, _, rfl, ?_, ?_⟩, ?_⟩
  ·simp [results, Tryz.results224, go_sem, y4, y5, z4, z5]
  ·first
    | exact ((HU2.out.ext hx3).put HB3.out.2.2.1 _ _).put (HB3.out.2.2.2.far (by omega) _ _) _ _
    | exact (HU2b.out.ext hx3).put HB3.out.2.2.2 _ _
  ·first
    | exact (HU3.out.put HB3.out.2.2.1 _ _).put (HB3.out.2.2.2.far (by omega) _ _) _ _
    | exact HU3.out.put HB3.out.2.2.2 _ _
  ·exact (by repeat first|exact xA _|assumption|refine xB ?_ _|refine xC ?_|refine xD ?_ _|refine xE ?_ (by simp <;> omega) _|refine xF ?_ (by assumption))
end Go.Proofs.YtonleohlplkglaaGreatDoor
namespace Go.Proofs.YtonleohlplkglaaGreatDoor
open Go Go.RowKit
theorem limbs_is_one {b : Nat} : (limbs b = [1]) ↔ b = 1 := limbs_eq_one
set_option maxRecDepth 100000 in
set_option maxHeartbeats 1600000 in
theorem rat_quo {A A' : Option Addr} {n m c c' a b : Nat} {w : World} (h : Words w (.slice A n c) (limbs a)) (h' : Words w (.slice A' m c') (limbs b)) (hb : 0 < b) (hn : n < 35184372088832) :
  Calls Tryz.prog 213 #[.agg #[.bool false, .slice A n c], .agg #[.bool false, .slice A' m c']] w (Ret w fun r w' => ∃ u, r = .agg #[.bool false, u] ∧ Words w' u (limbs (a / b))) := by
 have hln := h.len
 have hlm := h'.len
 have HO := Lib.hid (fun w1 (hx : Ext w w1) => rat_isOne (s := false) (h'.ext hx))
 have HD := Lib.hid (fun w1 (hx : Ext w w1) => int_DivMod (h.ext hx) (h'.ext hx) hb hn)
 have HW := Lib.hid h
 have hn2 : n ≤ c := hln.2.1
 have hm2 : m ≤ c' := hlm.2.1
 have hc2 : n ≤ 35184372088832 := hln.2.2
 have hc2' : m ≤ 35184372088832 := hlm.2.2
 clear h h' hb hln hlm
 obtain ⟨W3, hW3⟩ : ∃ W3, (((w.alloc (.cells #[.bool false, .slice A n c] 36)).alloc (.cells #[.bool false, .slice A' m c'] 36)).alloc (.cells #[.bool false, .slice none 0 0] 36)) = W3 := ⟨_, rfl⟩
 have HB0 : Hid (Boxes3 W3 w.heap.size false false (.slice A n c) (.slice A' m c')) := by rw [← hW3]; exact boxes3 w false false A A' n m c c'
 have hE3 : Ext w W3 := by rw [← hW3]; exact (by repeat first|exact xA _|assumption|refine xB ?_ _|refine xC ?_|refine xD ?_ _|refine xE ?_ (by simp <;> omega) _|refine xF ?_ (by assumption))
 have HW3 := Lib.hid hW3
 clear hW3
 by_cases h1 : b = 1
 ·subst h1
  have HB1 : Hid (decide (limbs 1 = [1]) = true) := decide_eq_true (limbs_is_one.2 rfl)
  rw [HB1.out] at HO
  have HQ : Hid (a / 1 = a) := Nat.div_one a
  go_enter Tryz.func213, Tryz.ntmps213
  go_upto_region 1 with fail
  rw [HW3.out]
  obtain ⟨⟨p0, p1, -, -, -, -⟩, ⟨q0, q1, -, -, -, -⟩, -⟩ := HB0.out
  go_wp2_with fail
  refine (HO.out _ hE3).mono ?_
  rintro e w1 ⟨rfl, hx1⟩
  clear p0 p1 q0 q1
  obtain ⟨⟨p0, p1, -, -, -, -⟩, -, ⟨y0, y1, y2, y3, -, -⟩⟩ := HB0.out.ext hx1
  have HX := Lib.hid (Ext.trans hE3 hx1)
  have HBX := Lib.hid (HB0.out.ext hx1)
  go_wp2_with fail
  refine bodyPost_ret (v := .agg #[.bool false, .slice A n c]) ?_ rfl ⟨_, rfl, ⟨_, rfl, ?_⟩, ?_⟩
  ·simp [results, Tryz.results213, go_sem, y0, y1]
  ·rw [HQ.out]
   exact (HW.out.ext HX.out).put HBX.out.2.2 _ _
  ·exact (HX.out.pset (by simp <;> omega) _).pset (by simp <;> omega) _
 ·have HB1 : Hid (decide (limbs b = [1]) = false) := decide_eq_false (fun e => h1 (limbs_is_one.1 e))
  rw [HB1.out] at HO
  clear h1
  go_enter Tryz.func213, Tryz.ntmps213
  go_upto_region 1 with fail
  rw [HW3.out]
  obtain ⟨⟨p0, p1, -, -, -, -⟩, ⟨q0, q1, -, -, -, -⟩, -⟩ := HB0.out
  go_wp2_with fail
  refine (HO.out _ hE3).mono ?_
  rintro e w1 ⟨rfl, hx1⟩
  clear p0 p1 q0 q1
  obtain ⟨⟨p0, p1, -, -, -, -⟩, ⟨q0, q1, -, -, -, -⟩, -⟩ := HB0.out.ext hx1
  have hE1 : Ext w w1 := Ext.trans hE3 hx1
  have HBX := Lib.hid (HB0.out.ext hx1)
  clear hx1
  go_wp2_with fail
  refine (HD.out _ hE1).mono ?_
  rintro e w2 ⟨v, rfl, ⟨u1, u2, rfl, hu1, hu2⟩, hx2⟩
  obtain ⟨A1, c1, rfl, hl1, hm1⟩ := hu1.form
  obtain ⟨A2, c2, rfl, hl2, hm2⟩ := hu2.form
  clear p0 p1 q0 q1
  obtain ⟨-, -, ⟨y0, y1, y2, y3, y4, -⟩⟩ := HBX.out.ext hx2
  have HBY := Lib.hid (HBX.out.ext hx2).2.2
  have HX := Lib.hid (Ext.trans hE1 hx2)
  have HU1 := Lib.hid hu1
  clear hu1 hu2 hx2 HBX
  generalize (limbs (a / b)).length = k1 at *
  generalize (limbs (a % b)).length = k2 at *
  have g0 : ∀ o1 o2, ((w2.alloc o1).alloc o2).cell? ⟨w.heap.size + 1 + 1, 0, none⟩ = some (.bool false) := fun o1 o2 => cell_new (cell_new y0)
  have g1 : ∀ o1 o2, ((w2.alloc o1).alloc o2).cell? ⟨w.heap.size + 1 + 1, 1, none⟩ = some (.slice none 0 0) := fun o1 o2 => cell_new (cell_new y1)
  have g2 : ∀ o1 o2, ((w2.alloc o1).alloc o2).frozen? ⟨w.heap.size + 1 + 1, 0, none⟩ = false := fun o1 o2 => (Below.frozen (Ext.trans (Ext.alloc w2 o1) (Ext.alloc _ o2)) y4).trans y2
  have g3 : ∀ o1 o2, ((w2.alloc o1).alloc o2).frozen? ⟨w.heap.size + 1 + 1, 1, none⟩ = false := fun o1 o2 => (Below.frozen (Ext.trans (Ext.alloc w2 o1) (Ext.alloc _ o2)) y4).trans y3
  have hne1 : w.heap.size + 1 + 1 ≠ w2.heap.size := by omega
  have hne2 : w.heap.size + 1 + 1 ≠ w2.heap.size + 1 := by omega
  go_wp2_with fail
  refine bodyPost_ret (v := .agg #[.bool false, .slice A1 k1 c1]) ?_ rfl ⟨_, rfl, ⟨_, rfl, ?_⟩, ?_⟩
  ·simp [results, Tryz.results213, go_sem, g0, g1]
  ·exact (HU1.out.ext (Ext.trans (Ext.alloc _ _) (Ext.alloc _ _))).put (HBY.out.ext (Ext.trans (Ext.alloc _ _) (Ext.alloc _ _))) _ _
  ·have hX := HX.out
   exact (by repeat first|exact xA _|assumption|refine xB ?_ _|refine xC ?_|refine xD ?_ _|refine xE ?_ (by simp <;> omega) _|refine xF ?_ (by assumption))
end Go.Proofs.YtonleohlplkglaaGreatDoor
namespace Go.Proofs.YtonleohlplkglaaGreatDoor
open Go Go.RowKit
/-- The boxes of lowest: the numerator, the denominator, the result. -/
def BoxesL (w : World) (g : Nat) (u v : Value) : Prop := BoxI w g false u ∧ BoxI w (g + 1) false v ∧ BoxQ w (g + 1 + 1) false (.slice none 0 0) false (.slice none 0 0)
theorem BoxesL.ext {w w' : World} {g : Nat} {u v : Value} (h : BoxesL w g u v) (hx : Ext w w') : BoxesL w' g u v := ⟨h.1.ext hx, h.2.1.ext hx, h.2.2.ext hx⟩
theorem boxesL (w : World) (A A' : Option Addr) (n m c c' : Nat) :
  BoxesL (((w.alloc (.cells #[.bool false, .slice A n c] 36)).alloc (.cells #[.bool false, .slice A' m c'] 36)).alloc (.cells #[.bool false, .slice none 0 0, .bool false, .slice none 0 0] 38)) w.heap.size (.slice A n c) (.slice A' m c') := by
 refine ⟨?_, ?_, ?_⟩
 ·exact (BoxI.new w false _ _ (by simp)).ext ((Ext.alloc _ _).trans (Ext.alloc _ _))
 ·have := (BoxI.new (w.alloc (.cells #[.bool false, .slice A n c] 36)) false (.slice A' m c') 36 (by simp)).ext (Ext.alloc _ (.cells #[.bool false, .slice none 0 0, .bool false, .slice none 0 0] 38))
  simpa using this
 ·have := BoxQ.new ((w.alloc (.cells #[.bool false, .slice A n c] 36)).alloc (.cells #[.bool false, .slice A' m c'] 36)) false false (.slice none 0 0) (.slice none 0 0) 38 (by simp) (by simp)
  simpa using this
set_option maxRecDepth 100000 in
set_option maxHeartbeats 3200000 in
theorem rat_lowest {A A' : Option Addr} {n m c c' a d : Nat} {w : World} (h : Words w (.slice A n c) (limbs a)) (h' : Words w (.slice A' m c') (limbs d)) (hd : 0 < d) (hn : n < 35184372088832) (hm : m < 35184372088832) :
  Calls Tryz.prog 197 #[.agg #[.bool false, .slice A n c], .agg #[.bool false, .slice A' m c']] w (Ret w fun r w' => ∃ A1 k1 c1 A2 k2 c2, r = .agg #[.bool false, .slice A1 k1 c1, .bool false, .slice A2 k2 c2] ∧ Words w' (.slice A1 k1 c1) (limbs (a / Nat.gcd a d)) ∧ Words w' (.slice A2 k2 c2) (limbs (d / Nat.gcd a d))) := by
 have hln := h.len
 have hlm := h'.len
 have hG := fun w1 (hx : Ext w w1) => int_GCD (s := false) (t := false) (h.ext hx) (h'.ext hx) (by rw [← hln.1]; exact hn) (by rw [← hlm.1]; exact hm)
 simp only [val_limbs] at hG
 have hg0 : 0 < Nat.gcd a d := Nat.gcd_pos_of_pos_right a hd
 have HG := Lib.hid hG
 have HQ1 := Lib.hid (fun w1 (A3 : Option Addr) k3 c3 (hx : Ext w w1) (h3 : Words w1 (.slice A3 k3 c3) (limbs (Nat.gcd a d))) => rat_quo (h.ext hx) h3 hg0 hn)
 have HQ2 := Lib.hid (fun w1 (A3 : Option Addr) k3 c3 (hx : Ext w w1) (h3 : Words w1 (.slice A3 k3 c3) (limbs (Nat.gcd a d))) => rat_quo (h'.ext hx) h3 hg0 hm)
 have hn2 : n ≤ c := hln.2.1
 have hm2 : m ≤ c' := hlm.2.1
 have hc2 : n ≤ 35184372088832 := hln.2.2
 have hc2' : m ≤ 35184372088832 := hlm.2.2
 clear h h' hd hln hlm hG hg0 hn hm
 generalize Nat.gcd a d = g at *
 obtain ⟨W3, hW3⟩ : ∃ W3, (((w.alloc (.cells #[.bool false, .slice A n c] 36)).alloc (.cells #[.bool false, .slice A' m c'] 36)).alloc (.cells #[.bool false, .slice none 0 0, .bool false, .slice none 0 0] 38)) = W3 := ⟨_, rfl⟩
 have HB0 : Hid (BoxesL W3 w.heap.size (.slice A n c) (.slice A' m c')) := by rw [← hW3]; exact boxesL w A A' n m c c'
 have hE3 : Ext w W3 := by rw [← hW3]; exact (by repeat first|exact xA _|assumption|refine xB ?_ _|refine xC ?_|refine xD ?_ _|refine xE ?_ (by simp <;> omega) _|refine xF ?_ (by assumption))
 have HW3 := Lib.hid hW3
 clear hW3
 go_enter Tryz.func197, Tryz.ntmps197
 go_upto_region 1 with fail
 rw [HW3.out]
 obtain ⟨⟨p0, p1, -, -, -, -⟩, ⟨q0, q1, -, -, -, -⟩, -⟩ := HB0.out
 go_wp2_with fail
 refine (HG.out _ hE3).mono ?_
 rintro e w1 ⟨v, rfl, ⟨u, rfl, hu⟩, hx1⟩
 obtain ⟨Ag, cg, rfl, hlg, hmg⟩ := hu.form
 clear p0 p1 q0 q1 HG
 obtain ⟨W5, hW5⟩ : ∃ W5, w1.alloc (.cells #[.bool false, .slice Ag (limbs g).length cg] 36) = W5 := ⟨_, rfl⟩
 have HB5 : Hid (BoxesL W5 w.heap.size (.slice A n c) (.slice A' m c')) := by rw [← hW5]; exact (HB0.out.ext hx1).ext (Ext.alloc _ _)
 obtain ⟨gb, hgb⟩ : ∃ gb, w1.heap.size = gb := ⟨_, rfl⟩
 have HG5 : Hid (BoxI W5 gb false (.slice Ag (limbs g).length cg)) := by rw [← hW5, ← hgb]; exact BoxI.new w1 false _ _ (by simp)
 have HU5 : Hid (Words W5 (.slice Ag (limbs g).length cg) (limbs g)) := by rw [← hW5]; exact hu.ext (Ext.alloc _ _)
 have hE5 : Ext w W5 := by rw [← hW5]; exact (Ext.trans hE3 hx1).palloc _
 have HW5 := Lib.hid hW5
 have HGB := Lib.hid hgb
 have hgne : gb ≠ w.heap.size + 1 + 1 ∧ gb ≠ w.heap.size ∧ gb ≠ w.heap.size + 1 := by
  have h1 := HB0.out.2.2.2.2.2.2.2.2.2.2.1
  have h2 := hx1.size
  omega
 clear hu hW5 hgb hx1 hE3
 generalize (limbs g).length = kg at *
 go_upto_region 2 with fail
 rw [HW5.out, HGB.out]
 obtain ⟨⟨p0, p1, -, -, -, -⟩, ⟨q0, q1, -, -, -, -⟩, -⟩ := HB5.out
 obtain ⟨s0, s1, -, -, -, -⟩ := HG5.out
 go_wp2_with fail
 have mixed : Tryz.prog.follows .mixedOrders = true := by kernel_rfl
 clear p0 p1 q0 q1 s0 s1
 refine wp_region_ext 7 20 (fun op v w' => match op with
  | 0 => v = .agg #[.bool false, .slice A n c]
  | 1 => v = .agg #[.bool false, .slice Ag kg cg]
  | 2 => ∃ u, v = .agg #[.bool false, u] ∧ Words w' u (limbs (a / g))
  | 3 => v = .agg #[.bool false, .slice A' m c']
  | 4 => v = .agg #[.bool false, .slice Ag kg cg]
  | 5 => ∃ u, v = .agg #[.bool false, u] ∧ Words w' u (limbs (d / g))
  | 6 => ∃ u u', v = .agg #[.bool false, u, .bool false, u'] ∧ Words w' u (limbs (a / g)) ∧ Words w' u' (limbs (d / g))
  | _ => False)
  ((fun _ _ _ _ => True)) mixed (by kernel_rfl) rfl ?_ (AllLt.all ?_) ?_
 ·intro i v wa wb hx
  match i with
  | 2 => exact fun ⟨u, h, h'⟩ => ⟨u, h, h'.ext hx⟩
  | 5 => exact fun ⟨u, h, h'⟩ => ⟨u, h, h'.ext hx⟩
  | 6 => exact fun ⟨u, u', h, h', h''⟩ => ⟨u, u', h, h'.ext hx, h''.ext hx⟩
  | 0 | 1 | 3 | 4 => exact id
  | _ + 7 => exact id
 ·refine ⟨⟨⟨⟨⟨⟨⟨trivial, ?_⟩, ?_⟩, ?_⟩, ?_⟩, ?_⟩, ?_⟩, ?_⟩
  ·refine PreOp.of _ _ rfl rfl rfl ?_
   intro vs w' hx hnd
   have hE : Ext W5 w' := Ext.trans (Ext.drew _) hx
   clear hnd
   simp only [fill]
   obtain ⟨⟨p0, p1, -, -, -, -⟩, ⟨q0, q1, -, -, -, -⟩, -⟩ := HB5.out.ext hE
   obtain ⟨s0, s1, -, -, -, -⟩ := HG5.out.ext hE
   go_wp2_with fail
   exact ⟨rfl, Ext.refl _, rfl, fun _ _ _ _ => trivial⟩
  ·refine PreOp.of _ _ rfl rfl rfl ?_
   intro vs w' hx hnd
   have hE : Ext W5 w' := Ext.trans (Ext.drew _) hx
   clear hnd
   simp only [fill, dstOf, List.getElem?_toArray, List.getElem?_cons_zero, Option.bind_some, Act.put, List.setIfInBounds_toArray, List.set_cons_zero, List.set_cons_succ]
   obtain ⟨⟨p0, p1, -, -, -, -⟩, ⟨q0, q1, -, -, -, -⟩, -⟩ := HB5.out.ext hE
   obtain ⟨s0, s1, -, -, -, -⟩ := HG5.out.ext hE
   go_wp2_with fail
   exact ⟨rfl, Ext.refl _, rfl, fun _ _ _ _ => trivial⟩
  ·refine PreOp.of _ _ rfl rfl rfl ?_
   intro vs w' hx hnd
   have hE : Ext W5 w' := Ext.trans (Ext.drew _) hx
   have e0 : vs 0 = .agg #[.bool false, .slice A n c] := hnd 0 (by kernel_rfl) (by omega)
   have e1 : vs 1 = .agg #[.bool false, .slice Ag kg cg] := hnd 1 (by kernel_rfl) (by omega)
   clear hnd
   simp only [fill, dstOf, List.getElem?_toArray, List.getElem?_cons_zero, List.getElem?_cons_succ, Option.bind_some, Act.put, List.setIfInBounds_toArray, List.set_cons_zero, List.set_cons_succ]
   rw [e0, e1]
   obtain ⟨⟨p0, p1, -, -, -, -⟩, ⟨q0, q1, -, -, -, -⟩, -⟩ := HB5.out.ext hE
   obtain ⟨s0, s1, -, -, -, -⟩ := HG5.out.ext hE
   go_wp2_with fail
   refine (HQ1.out _ _ _ _ (Ext.trans hE5 hE) (HU5.out.ext hE)).mono ?_
   rintro e w4 ⟨v, rfl, ⟨u, rfl, hu⟩, hx4⟩
   go_wp2_with fail
   exact ⟨rfl, hx4, ⟨u, rfl, hu⟩, fun _ _ _ _ => trivial⟩
  ·refine PreOp.of _ _ rfl rfl rfl ?_
   intro vs w' hx hnd
   have hE : Ext W5 w' := Ext.trans (Ext.drew _) hx
   clear hnd
   simp only [fill, dstOf, List.getElem?_toArray, List.getElem?_cons_zero, List.getElem?_cons_succ, Option.bind_some, Act.put, List.setIfInBounds_toArray, List.set_cons_zero, List.set_cons_succ]
   obtain ⟨⟨p0, p1, -, -, -, -⟩, ⟨q0, q1, -, -, -, -⟩, -⟩ := HB5.out.ext hE
   obtain ⟨s0, s1, -, -, -, -⟩ := HG5.out.ext hE
   go_wp2_with fail
   exact ⟨rfl, Ext.refl _, rfl, fun _ _ _ _ => trivial⟩
  ·refine PreOp.of _ _ rfl rfl rfl ?_
   intro vs w' hx hnd
   have hE : Ext W5 w' := Ext.trans (Ext.drew _) hx
   clear hnd
   simp only [fill, dstOf, List.getElem?_toArray, List.getElem?_cons_zero, List.getElem?_cons_succ, Option.bind_some, Act.put, List.setIfInBounds_toArray, List.set_cons_zero, List.set_cons_succ]
   obtain ⟨⟨p0, p1, -, -, -, -⟩, ⟨q0, q1, -, -, -, -⟩, -⟩ := HB5.out.ext hE
   obtain ⟨s0, s1, -, -, -, -⟩ := HG5.out.ext hE
   go_wp2_with fail
   exact ⟨rfl, Ext.refl _, rfl, fun _ _ _ _ => trivial⟩
  ·refine PreOp.of _ _ rfl rfl rfl ?_
   intro vs w' hx hnd
   have hE : Ext W5 w' := Ext.trans (Ext.drew _) hx
   have e3 : vs 3 = .agg #[.bool false, .slice A' m c'] := hnd 3 (by kernel_rfl) (by omega)
   have e4 : vs 4 = .agg #[.bool false, .slice Ag kg cg] := hnd 4 (by kernel_rfl) (by omega)
   clear hnd
   simp only [fill, dstOf, List.getElem?_toArray, List.getElem?_cons_zero, List.getElem?_cons_succ, Option.bind_some, Act.put, List.setIfInBounds_toArray, List.set_cons_zero, List.set_cons_succ]
   rw [e3, e4]
   obtain ⟨⟨p0, p1, -, -, -, -⟩, ⟨q0, q1, -, -, -, -⟩, -⟩ := HB5.out.ext hE
   obtain ⟨s0, s1, -, -, -, -⟩ := HG5.out.ext hE
   go_wp2_with fail
   refine (HQ2.out _ _ _ _ (Ext.trans hE5 hE) (HU5.out.ext hE)).mono ?_
   rintro e w4 ⟨v, rfl, ⟨u, rfl, hu⟩, hx4⟩
   go_wp2_with fail
   exact ⟨rfl, hx4, ⟨u, rfl, hu⟩, fun _ _ _ _ => trivial⟩
  ·refine PreOp.of _ _ rfl rfl rfl ?_
   intro vs w' hx hnd
   have hE : Ext W5 w' := Ext.trans (Ext.drew _) hx
   obtain ⟨v2, e2, g2⟩ := hnd 2 (by kernel_rfl) (by omega)
   obtain ⟨v5, e5, g5⟩ := hnd 5 (by kernel_rfl) (by omega)
   clear hnd
   simp only [fill, dstOf, List.getElem?_toArray, List.getElem?_cons_zero, List.getElem?_cons_succ, Option.bind_some, Act.put, List.setIfInBounds_toArray, List.set_cons_zero, List.set_cons_succ]
   rw [e2, e5]
   obtain ⟨⟨p0, p1, -, -, -, -⟩, ⟨q0, q1, -, -, -, -⟩, -⟩ := HB5.out.ext hE
   obtain ⟨s0, s1, -, -, -, -⟩ := HG5.out.ext hE
   go_wp2_with fail
   exact ⟨rfl, Ext.refl _, ⟨v2, v5, rfl, g2, g5⟩, fun _ _ _ _ => trivial⟩
 ·intro vs w' hx hP hD
  have hE : Ext W5 w' := Ext.trans (Ext.drew _) hx
  obtain ⟨u, u', e6, hu, hu'⟩ := hP 6 (by omega)
  clear hP hD
  have HB4 := Lib.hid ((HB5.out.ext hE).2.2)
  have hE4 : Ext w w' := Ext.trans hE5 hE
  obtain ⟨A3, c3, rfl, hc3, hc3'⟩ := hu.form
  obtain ⟨A4, c4, rfl, hc4, hc4'⟩ := hu'.form
  have HU := Lib.hid (And.intro hu hu')
  clear hu hu'
  generalize (limbs (a / g)).length = l3 at *
  generalize (limbs (d / g)).length = l4 at *
  simp only [fill, dstOf, List.getElem?_toArray, List.getElem?_cons_zero, List.getElem?_cons_succ, Option.bind_some, Act.put, List.setIfInBounds_toArray, List.set_cons_zero, List.set_cons_succ]
  rw [e6]
  show wpList _ _ _ (List.cons _ List.nil) _ _
  clear e6 hx
  obtain ⟨y0, y1, y2, y3, f0, f1, f2, f3, -, hNW⟩ := HB4.out
  have HNW := Lib.hid hNW
  clear hNW
  go_wp2_with fail
  refine bodyPost_ret (v := .agg #[.bool false, .slice A3 l3 c3, .bool false, .slice A4 l4 c4]) ?_ rfl ⟨_, rfl, ⟨_, _, _, _, _, _, rfl, ?_, ?_⟩, ?_⟩
  ·simp [results, Tryz.results197, go_sem, y0, y1, y2, y3]
  ·exact (((HU.out.1.box HNW.out _ _).box (HNW.out.set_ _ (by simp)) _ _).box ((HNW.out.set_ _ (by simp)).set_ _ (by simp)) _ _).box (((HNW.out.set_ _ (by simp)).set_ _ (by simp)).set_ _ (by simp)) _ _
  ·exact (((HU.out.2.box HNW.out _ _).box (HNW.out.set_ _ (by simp)) _ _).box ((HNW.out.set_ _ (by simp)).set_ _ (by simp)) _ _).box (((HNW.out.set_ _ (by simp)).set_ _ (by simp)).set_ _ (by simp)) _ _
  ·exact (((hE4.pset (by simp <;> omega) _).pset (by simp <;> omega) _).pset (by simp <;> omega) _).pset (by simp <;> omega) _
end Go.Proofs.YtonleohlplkglaaGreatDoor
namespace Go.Proofs.YtonleohlplkglaaGreatDoor
open Go Go.RowKit
set_option maxRecDepth 100000 in
set_option maxHeartbeats 3200000 in
theorem rat_Mul {A A' B B' : Option Addr} {n m c c' k k' e e' a b d : Nat} {w : World} (h1 : Words w (.slice A n c) (limbs a)) (h2 : Words w (.slice A' m c') (limbs d)) (h3 : Words w (.slice B k e) (limbs b)) (h4 : Words w (.slice B' k' e') (limbs 1)) (hd : 1 < d) (hl : n + k < 35184372088832) (hl' : m + k' < 35184372088832) :
  Calls Tryz.prog 184 #[.agg #[.bool false, .slice A n c, .bool false, .slice A' m c'], .agg #[.bool false, .slice B k e, .bool false, .slice B' k' e']] w (Ret w fun r w' => ∃ A1 k1 c1 A2 k2 c2, r = .agg #[.bool false, .slice A1 k1 c1, .bool false, .slice A2 k2 c2] ∧ Words w' (.slice A1 k1 c1) (limbs (a * b / Nat.gcd (a * b) d)) ∧ Words w' (.slice A2 k2 c2) (limbs (d / Nat.gcd (a * b) d))) := by
 have n1 := h1.len
 have n2 := h2.len
 have n3 := h3.len
 have n4 := h4.len
 have hM2 := fun w1 (hx : Ext w w1) => int_Mul (h2.ext hx) (h4.ext hx) (by omega)
 simp only [Nat.mul_one] at hM2
 have HM1 := Lib.hid (fun w1 (hx : Ext w w1) => int_Mul (h1.ext hx) (h3.ext hx) (by omega))
 have HM2 := Lib.hid hM2
 have hO := fun w1 (hx : Ext w w1) => rat_isOne (s := false) (h2.ext hx)
 have e1 : decide (limbs d = [1]) = false := decide_eq_false (fun e => by have := limbs_is_one.1 e; omega)
 rw [e1] at hO
 have HO := Lib.hid hO
 have HL : Hid (0 < d ∧ (limbs (a * b)).length < 35184372088832 ∧ (limbs d).length < 35184372088832) := by
  refine ⟨by omega, ?_, by omega⟩
  have h1' := val_lt (limb_limbs a)
  have h3' := val_lt (limb_limbs b)
  rw [val_limbs] at h1' h3'
  have : (limbs (a * b)).length ≤ (limbs a).length + (limbs b).length := by
   apply limbs_length_le
   rw [Nat.pow_add]
   exact Nat.mul_lt_mul'' h1' h3'
  omega
 have s1 : n ≤ c := n1.2.1
 have s2 : m ≤ c' := n2.2.1
 have s3 : k ≤ e := n3.2.1
 have s4 : k' ≤ e' := n4.2.1
 clear h1 h2 h3 h4 hd n1 n2 n3 n4 hM2 hO e1
 obtain ⟨W3, hW3⟩ : ∃ W3, (((w.alloc (.cells #[.bool false, .slice A n c, .bool false, .slice A' m c'] 38)).alloc (.cells #[.bool false, .slice B k e, .bool false, .slice B' k' e'] 38)).alloc (.cells #[.bool false, .slice none 0 0, .bool false, .slice none 0 0] 38)) = W3 := ⟨_, rfl⟩
 have HB0 : Hid (Boxes3Q W3 w.heap.size (.slice A n c) (.slice A' m c') (.slice B k e) (.slice B' k' e')) := by rw [← hW3]; exact boxes3q w A A' B B' n m c c' k k' e e'
 have hE3 : Ext w W3 := by rw [← hW3]; exact (by repeat first|exact xA _|assumption|refine xB ?_ _|refine xC ?_|refine xD ?_ _|refine xE ?_ (by simp <;> omega) _|refine xF ?_ (by assumption))
 have HW3 := Lib.hid hW3
 clear hW3
 go_enter Tryz.func184, Tryz.ntmps184
 go_upto_region 1 with fail
 rw [HW3.out]
 obtain ⟨⟨p0, p1, p2, p3, -⟩, ⟨q0, q1, q2, q3, -⟩, -⟩ := HB0.out
 go_wp2_with fail
 refine (HO.out _ hE3).mono ?_
 rintro er W5 ⟨rfl, hx5⟩
 have HB5 := Lib.hid (HB0.out.ext hx5)
 have hE5 : Ext w W5 := Ext.trans hE3 hx5
 clear hx5 hE3 HB0 p0 p1 p2 p3 q0 q1 q2 q3
 go_wp2_with fail
 have mixed : Tryz.prog.follows .mixedOrders = true := by kernel_rfl
 refine wp_region_ext 11 31 (fun op v w' => match op with
  | 0 => v = .pointer (some ⟨w.heap.size, 0, none⟩)
  | 1 => v = .agg #[.bool false, .slice A n c]
  | 2 => v = .pointer (some ⟨w.heap.size + 1, 0, none⟩)
  | 3 => v = .agg #[.bool false, .slice B k e]
  | 4 => ∃ u, v = .agg #[.bool false, u] ∧ Words w' u (limbs (a * b))
  | 5 => v = .pointer (some ⟨w.heap.size, 2, none⟩)
  | 6 => v = .agg #[.bool false, .slice A' m c']
  | 7 => v = .pointer (some ⟨w.heap.size + 1, 2, none⟩)
  | 8 => v = .agg #[.bool false, .slice B' k' e']
  | 9 => ∃ u, v = .agg #[.bool false, u] ∧ Words w' u (limbs (d))
  | 10 => ∃ A1 k1 c1 A2 k2 c2, v = .agg #[.bool false, .slice A1 k1 c1, .bool false, .slice A2 k2 c2] ∧ Words w' (.slice A1 k1 c1) (limbs (a * b / Nat.gcd (a * b) d)) ∧ Words w' (.slice A2 k2 c2) (limbs (d / Nat.gcd (a * b) d))
  | _ => False)
  ((fun _ _ _ _ => True)) mixed (by kernel_rfl) rfl ?_ (AllLt.all ?_) ?_
 ·intro i v wa wb hx
  match i with
  | 4 => exact fun ⟨u, h, h'⟩ => ⟨u, h, h'.ext hx⟩
  | 9 => exact fun ⟨u, h, h'⟩ => ⟨u, h, h'.ext hx⟩
  | 10 => exact fun ⟨A1, k1, c1, A2, k2, c2, h, h', h''⟩ => ⟨A1, k1, c1, A2, k2, c2, h, h'.ext hx, h''.ext hx⟩
  | 0 | 1 | 2 | 3 | 5 | 6 | 7 | 8 => exact id
  | _ + 11 => exact id
 ·refine ⟨⟨⟨⟨⟨⟨⟨⟨⟨⟨⟨trivial, ?_⟩, ?_⟩, ?_⟩, ?_⟩, ?_⟩, ?_⟩, ?_⟩, ?_⟩, ?_⟩, ?_⟩, ?_⟩
  ·refine PreOp.of _ _ rfl rfl rfl ?_
   intro vs w' hx hnd
   have hE : Ext W5 w' := Ext.trans (Ext.drew _) hx
   clear hnd
   simp only [fill]
   obtain ⟨⟨p0, p1, p2, p3, -⟩, ⟨q0, q1, q2, q3, -⟩, -⟩ := HB5.out.ext hE
   go_wp2_with fail
   exact ⟨rfl, Ext.refl _, rfl, fun _ _ _ _ => trivial⟩
  ·refine PreOp.of _ _ rfl rfl rfl ?_
   intro vs w' hx hnd
   have hE : Ext W5 w' := Ext.trans (Ext.drew _) hx
   have e0 : vs 0 = .pointer (some ⟨w.heap.size, 0, none⟩) := hnd 0 (by kernel_rfl) (by omega)
   clear hnd
   simp only [fill, dstOf, List.getElem?_toArray, List.getElem?_cons_zero, Option.bind_some, Act.put, List.setIfInBounds_toArray, List.set_cons_zero, List.set_cons_succ]
   rw [e0]
   obtain ⟨⟨p0, p1, p2, p3, -⟩, ⟨q0, q1, q2, q3, -⟩, -⟩ := HB5.out.ext hE
   go_wp2_with fail
   exact ⟨rfl, Ext.refl _, rfl, fun _ _ _ _ => trivial⟩
  ·refine PreOp.of _ _ rfl rfl rfl ?_
   intro vs w' hx hnd
   have hE : Ext W5 w' := Ext.trans (Ext.drew _) hx
   clear hnd
   simp only [fill, dstOf, List.getElem?_toArray, List.getElem?_cons_zero, List.getElem?_cons_succ, Option.bind_some, Act.put, List.setIfInBounds_toArray, List.set_cons_zero, List.set_cons_succ]
   obtain ⟨⟨p0, p1, p2, p3, -⟩, ⟨q0, q1, q2, q3, -⟩, -⟩ := HB5.out.ext hE
   go_wp2_with fail
   exact ⟨rfl, Ext.refl _, rfl, fun _ _ _ _ => trivial⟩
  ·refine PreOp.of _ _ rfl rfl rfl ?_
   intro vs w' hx hnd
   have hE : Ext W5 w' := Ext.trans (Ext.drew _) hx
   have e2 : vs 2 = .pointer (some ⟨w.heap.size + 1, 0, none⟩) := hnd 2 (by kernel_rfl) (by omega)
   clear hnd
   simp only [fill, dstOf, List.getElem?_toArray, List.getElem?_cons_zero, List.getElem?_cons_succ, Option.bind_some, Act.put, List.setIfInBounds_toArray, List.set_cons_zero, List.set_cons_succ]
   rw [e2]
   obtain ⟨⟨p0, p1, p2, p3, -⟩, ⟨q0, q1, q2, q3, -⟩, -⟩ := HB5.out.ext hE
   go_wp2_with fail
   exact ⟨rfl, Ext.refl _, rfl, fun _ _ _ _ => trivial⟩
  ·refine PreOp.of _ _ rfl rfl rfl ?_
   intro vs w' hx hnd
   have hE : Ext W5 w' := Ext.trans (Ext.drew _) hx
   have e1 : vs 1 = .agg #[.bool false, .slice A n c] := hnd 1 (by kernel_rfl) (by omega)
   have e3 : vs 3 = .agg #[.bool false, .slice B k e] := hnd 3 (by kernel_rfl) (by omega)
   clear hnd
   simp only [fill, dstOf, List.getElem?_toArray, List.getElem?_cons_zero, List.getElem?_cons_succ, Option.bind_some, Act.put, List.setIfInBounds_toArray, List.set_cons_zero, List.set_cons_succ]
   rw [e1, e3]
   obtain ⟨⟨p0, p1, p2, p3, -⟩, ⟨q0, q1, q2, q3, -⟩, -⟩ := HB5.out.ext hE
   go_wp2_with fail
   refine (HM1.out _ (Ext.trans hE5 hE)).mono ?_
   rintro e w4 ⟨v, rfl, ⟨u, rfl, hu⟩, hx4⟩
   go_wp2_with fail
   exact ⟨rfl, hx4, ⟨u, rfl, hu⟩, fun _ _ _ _ => trivial⟩
  ·refine PreOp.of _ _ rfl rfl rfl ?_
   intro vs w' hx hnd
   have hE : Ext W5 w' := Ext.trans (Ext.drew _) hx
   clear hnd
   simp only [fill, dstOf, List.getElem?_toArray, List.getElem?_cons_zero, List.getElem?_cons_succ, Option.bind_some, Act.put, List.setIfInBounds_toArray, List.set_cons_zero, List.set_cons_succ]
   obtain ⟨⟨p0, p1, p2, p3, -⟩, ⟨q0, q1, q2, q3, -⟩, -⟩ := HB5.out.ext hE
   go_wp2_with fail
   exact ⟨rfl, Ext.refl _, rfl, fun _ _ _ _ => trivial⟩
  ·refine PreOp.of _ _ rfl rfl rfl ?_
   intro vs w' hx hnd
   have hE : Ext W5 w' := Ext.trans (Ext.drew _) hx
   have e5 : vs 5 = .pointer (some ⟨w.heap.size, 2, none⟩) := hnd 5 (by kernel_rfl) (by omega)
   clear hnd
   simp only [fill, dstOf, List.getElem?_toArray, List.getElem?_cons_zero, List.getElem?_cons_succ, Option.bind_some, Act.put, List.setIfInBounds_toArray, List.set_cons_zero, List.set_cons_succ]
   rw [e5]
   obtain ⟨⟨p0, p1, p2, p3, -⟩, ⟨q0, q1, q2, q3, -⟩, -⟩ := HB5.out.ext hE
   go_wp2_with fail
   exact ⟨rfl, Ext.refl _, rfl, fun _ _ _ _ => trivial⟩
  ·refine PreOp.of _ _ rfl rfl rfl ?_
   intro vs w' hx hnd
   have hE : Ext W5 w' := Ext.trans (Ext.drew _) hx
   clear hnd
   simp only [fill, dstOf, List.getElem?_toArray, List.getElem?_cons_zero, List.getElem?_cons_succ, Option.bind_some, Act.put, List.setIfInBounds_toArray, List.set_cons_zero, List.set_cons_succ]
   obtain ⟨⟨p0, p1, p2, p3, -⟩, ⟨q0, q1, q2, q3, -⟩, -⟩ := HB5.out.ext hE
   go_wp2_with fail
   exact ⟨rfl, Ext.refl _, rfl, fun _ _ _ _ => trivial⟩
  ·refine PreOp.of _ _ rfl rfl rfl ?_
   intro vs w' hx hnd
   have hE : Ext W5 w' := Ext.trans (Ext.drew _) hx
   have e7 : vs 7 = .pointer (some ⟨w.heap.size + 1, 2, none⟩) := hnd 7 (by kernel_rfl) (by omega)
   clear hnd
   simp only [fill, dstOf, List.getElem?_toArray, List.getElem?_cons_zero, List.getElem?_cons_succ, Option.bind_some, Act.put, List.setIfInBounds_toArray, List.set_cons_zero, List.set_cons_succ]
   rw [e7]
   obtain ⟨⟨p0, p1, p2, p3, -⟩, ⟨q0, q1, q2, q3, -⟩, -⟩ := HB5.out.ext hE
   go_wp2_with fail
   exact ⟨rfl, Ext.refl _, rfl, fun _ _ _ _ => trivial⟩
  ·refine PreOp.of _ _ rfl rfl rfl ?_
   intro vs w' hx hnd
   have hE : Ext W5 w' := Ext.trans (Ext.drew _) hx
   have e6 : vs 6 = .agg #[.bool false, .slice A' m c'] := hnd 6 (by kernel_rfl) (by omega)
   have e8 : vs 8 = .agg #[.bool false, .slice B' k' e'] := hnd 8 (by kernel_rfl) (by omega)
   clear hnd
   simp only [fill, dstOf, List.getElem?_toArray, List.getElem?_cons_zero, List.getElem?_cons_succ, Option.bind_some, Act.put, List.setIfInBounds_toArray, List.set_cons_zero, List.set_cons_succ]
   rw [e6, e8]
   obtain ⟨⟨p0, p1, p2, p3, -⟩, ⟨q0, q1, q2, q3, -⟩, -⟩ := HB5.out.ext hE
   go_wp2_with fail
   refine (HM2.out _ (Ext.trans hE5 hE)).mono ?_
   rintro e w4 ⟨v, rfl, ⟨u, rfl, hu⟩, hx4⟩
   go_wp2_with fail
   exact ⟨rfl, hx4, ⟨u, rfl, hu⟩, fun _ _ _ _ => trivial⟩
  ·refine PreOp.of _ _ rfl rfl rfl ?_
   intro vs w' hx hnd
   have hE : Ext W5 w' := Ext.trans (Ext.drew _) hx
   obtain ⟨v4, e4, g4⟩ := hnd 4 (by kernel_rfl) (by omega)
   obtain ⟨v9, e9, g9⟩ := hnd 9 (by kernel_rfl) (by omega)
   clear hnd
   simp only [fill, dstOf, List.getElem?_toArray, List.getElem?_cons_zero, List.getElem?_cons_succ, Option.bind_some, Act.put, List.setIfInBounds_toArray, List.set_cons_zero, List.set_cons_succ]
   rw [e4, e9]
   obtain ⟨⟨p0, p1, p2, p3, -⟩, ⟨q0, q1, q2, q3, -⟩, -⟩ := HB5.out.ext hE
   go_wp2_with fail
   obtain ⟨A4, c4, rfl, hc4, hc4'⟩ := g4.form
   obtain ⟨A9, c9, rfl, hc9, hc9'⟩ := g9.form
   refine (rat_lowest g4 g9 HL.out.1 HL.out.2.1 HL.out.2.2).mono ?_
   rintro e w4 ⟨v, rfl, ⟨A1, k1, c1, A2, k2, c2, rfl, hu, hu'⟩, hx4⟩
   go_wp2_with fail
   exact ⟨rfl, hx4, ⟨A1, k1, c1, A2, k2, c2, rfl, hu, hu'⟩, fun _ _ _ _ => trivial⟩
 ·intro vs w' hx hP hD
  have hE : Ext W5 w' := Ext.trans (Ext.drew _) hx
  obtain ⟨A3, l3, c3, A4, l4, c4, e10, hu, hu'⟩ := hP 10 (by omega)
  clear hP hD
  have HB4 := Lib.hid ((HB5.out.ext hE).2.2)
  have hE4 : Ext w w' := Ext.trans hE5 hE
  have HU := Lib.hid (And.intro hu hu')
  clear hu hu'
  simp only [fill, dstOf, List.getElem?_toArray, List.getElem?_cons_zero, List.getElem?_cons_succ, Option.bind_some, Act.put, List.setIfInBounds_toArray, List.set_cons_zero, List.set_cons_succ]
  rw [e10]
  show wpList _ _ _ (List.cons _ List.nil) _ _
  clear e10 hx
  obtain ⟨y0, y1, y2, y3, f0, f1, f2, f3, -, hNW⟩ := HB4.out
  have HNW := Lib.hid hNW
  clear hNW
  go_wp2_with fail
  refine bodyPost_ret (v := .agg #[.bool false, .slice A3 l3 c3, .bool false, .slice A4 l4 c4]) ?_ rfl ⟨_, rfl, ⟨_, _, _, _, _, _, rfl, ?_, ?_⟩, ?_⟩
  ·simp [results, Tryz.results184, go_sem, y0, y1, y2, y3]
  ·exact (((HU.out.1.box HNW.out _ _).box (HNW.out.set_ _ (by simp)) _ _).box ((HNW.out.set_ _ (by simp)).set_ _ (by simp)) _ _).box (((HNW.out.set_ _ (by simp)).set_ _ (by simp)).set_ _ (by simp)) _ _
  ·exact (((HU.out.2.box HNW.out _ _).box (HNW.out.set_ _ (by simp)) _ _).box ((HNW.out.set_ _ (by simp)).set_ _ (by simp)) _ _).box (((HNW.out.set_ _ (by simp)).set_ _ (by simp)).set_ _ (by simp)) _ _
  ·exact (((hE4.pset (by simp <;> omega) _).pset (by simp <;> omega) _).pset (by simp <;> omega) _).pset (by simp <;> omega) _
end Go.Proofs.YtonleohlplkglaaGreatDoor
namespace Go.Proofs.YtonleohlplkglaaGreatDoor
open Go Go.RowKit
def cmpN (a b : Nat) : Int := if a < b then -1 else if b < a then 1 else 0
theorem cmpN_range (a b : Nat) : -1 ≤ cmpN a b ∧ cmpN a b ≤ 1 := by unfold cmpN; split <;> (try split) <;> omega
theorem sign_pos {A : Option Addr} {n c a : Nat} {w : World} (h : Words w (.slice A n c) (limbs a)) (ha : 0 < a) :
  Calls Tryz.prog 81 #[.agg #[.bool false, .slice A n c]] w fun e w' => e = .returned (.int .i64 1) ∧ Ext w w' := by
 have h1 := int_Sign false h
 have e1 : sgnW false (trimL (limbs a)).length = 1 := by
  rw [trimL_limbs, sgnW, limbs_pos (by omega)]; simp
 rwa [e1] at h1
set_option maxRecDepth 100000 in
set_option maxHeartbeats 3200000 in
theorem int_Cmp {A A' : Option Addr} {n m c c' a b : Nat} {w : World} (h : Words w (.slice A n c) (limbs a)) (h' : Words w (.slice A' m c') (limbs b)) (ha : 0 < a) (hb : 0 < b) :
  Calls Tryz.prog 183 #[.agg #[.bool false, .slice A n c], .agg #[.bool false, .slice A' m c']] w fun e w' => e = .returned (.int .i64 (cmpN a b)) ∧ Ext w w' := by
 have n1 := h.len
 have n2 := h'.len
 have hT1 := fun w1 (hx : Ext w w1) => int_trim (h.ext hx)
 have hT2 := fun w1 (hx : Ext w w1) => int_trim (h'.ext hx)
 rw [trimL_limbs, ← n1.1] at hT1
 rw [trimL_limbs, ← n2.1] at hT2
 have hC := fun w1 (hx : Ext w w1) => int_compare (h.ext hx) (h'.ext hx)
 rw [cmpW_limbs] at hC
 have HS1 := Lib.hid (fun w1 (hx : Ext w w1) => sign_pos (h.ext hx) ha)
 have HS2 := Lib.hid (fun w1 (hx : Ext w w1) => sign_pos (h'.ext hx) hb)
 have HT1 := Lib.hid hT1
 have HT2 := Lib.hid hT2
 have HC : Hid (∀ w1, Ext w w1 → Calls Tryz.prog 154 #[.slice A n c, .slice A' m c'] w1 fun e w' => e = .returned (.int .i64 (cmpN a b)) ∧ Ext w1 w') := hC
 obtain ⟨r1, r2⟩ := cmpN_range a b
 have s1 : n ≤ c := n1.2.1
 have s2 : m ≤ c' := n2.2.1
 clear h h' ha hb n1 n2 hT1 hT2 hC
 generalize cmpN a b = r at *
 obtain ⟨W2, hW2⟩ : ∃ W2, ((w.alloc (.cells #[.bool false, .slice A n c] 36)).alloc (.cells #[.bool false, .slice A' m c'] 36)) = W2 := ⟨_, rfl⟩
 have HB0 : Hid (BoxI W2 w.heap.size false (.slice A n c) ∧ BoxI W2 (w.heap.size + 1) false (.slice A' m c')) := by
  rw [← hW2]
  refine ⟨(BoxI.new w false _ _ (by simp)).ext (Ext.alloc _ _), ?_⟩
  have := BoxI.new (w.alloc (.cells #[.bool false, .slice A n c] 36)) false (.slice A' m c') 36 (by simp)
  simpa using this
 have hE2 : Ext w W2 := by rw [← hW2]; exact (by repeat first|exact xA _|assumption|refine xB ?_ _|refine xC ?_|refine xD ?_ _|refine xE ?_ (by simp <;> omega) _|refine xF ?_ (by assumption))
 have HW2 := Lib.hid hW2
 clear hW2
 go_enter Tryz.func183, Tryz.ntmps183
 go_upto_region 1 with fail
 rw [HW2.out]
 obtain ⟨⟨p0, p1, -, -, -, -⟩, ⟨q0, q1, -, -, -, -⟩⟩ := HB0.out
 go_cut [5, 6] (fun x y wx => x = .int .i64 1 ∧ y = .int .i64 1 ∧ Hid (Ext W2 wx))
 case first =>
  go_region_with (first
   | (go_at_call 81; refine (HS1.out _ (Ext.trans hE2 (Ext.drew _))).mono ?_; clear HS1; rintro e w3 ⟨rfl, hx3⟩; have hE3 := Ext.trans (Ext.drew W2) hx3; obtain ⟨⟨a0, a1, -, -, -, -⟩, ⟨b0, b1, -, -, -, -⟩⟩ := And.intro (HB0.out.1.ext hE3) (HB0.out.2.ext hE3))
   | (go_at_call 81; refine (HS2.out _ (Ext.trans hE2 hE3)).mono ?_; rintro e w4 ⟨rfl, hx4⟩))
  all_goals
   go_wp2_with fail
   go_meet
   exact ⟨rfl, rfl, Ext.trans hE3 hx4⟩
 case rest =>
  obtain ⟨rfl, rfl, HX⟩ := hcut
  clear p0 p1 q0 q1
  obtain ⟨⟨p0, p1, -, -, -, -⟩, ⟨q0, q1, -, -, -, -⟩⟩ := And.intro (HB0.out.1.ext HX.out) (HB0.out.2.ext HX.out)
  have hEc : Ext w wc := Ext.trans hE2 HX.out
  go_wp2_with fail
  go_region_with (first
   | (go_at_call_of 131 (Value.slice A n c); refine (HT1.out _ (Ext.trans hEc (Ext.drew _))).mono ?_; rintro e w3 ⟨rfl, rfl⟩)
   | (go_at_call_of 131 (Value.slice A' m c'); refine (HT2.out _ (Ext.trans hEc (Ext.drew _))).mono ?_; rintro e w3 ⟨rfl, rfl⟩)
   | (go_at_call 154; refine (HC.out _ (Ext.trans hEc (Ext.drew _))).mono ?_; rintro e w4 ⟨rfl, hx4⟩))
  all_goals
   have ew : IntKind.i64.wrap r = r := by rcases (by omega : r = -1 ∨ r = 0 ∨ r = 1) with h | h | h <;> (rw [h]; rfl)
   go_wp2_with fail
   go_ret
   exact ⟨by simp [Act.put, ew], Ext.trans (Ext.trans hEc (Ext.drew _)) hx4⟩
end Go.Proofs.YtonleohlplkglaaGreatDoor
