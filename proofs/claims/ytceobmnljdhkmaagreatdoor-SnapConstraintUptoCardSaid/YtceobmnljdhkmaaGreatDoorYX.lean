/- Contract of the program's layer 1: GCD, of any numbers. -/
import Derived.Test.YtceobmnljdhkmaaGreatDoorYW
import Derived.Test.YtceobmnljdhkmaaGreatDoorYT
import Derived.Test.YtceobmnljdhkmaaGreatDoorYU
import Derived.Test.YtceobmnljdhkmaaGreatDoorYV
namespace Go.Proofs.YtceobmnljdhkmaaGreatDoor
open Go Go.RowKit
set_option maxRecDepth 100000 in
set_option maxHeartbeats 3200000 in
theorem int_GCD {s t : Bool} {v v' : Value} {xs ys : List Nat} {w : World} (h : Words w v xs) (h' : Words w v' ys) (hx : xs.length < 35184372088832) (hy : ys.length < 35184372088832) :
  Calls Tryz.prog 184 #[.agg #[.bool s, v], .agg #[.bool t, v']] w (Ret w fun r w' => ∃ u, r = .agg #[.bool false, u] ∧ Words w' u (limbs (Nat.gcd (val xs) (val ys)))) := by
 obtain ⟨A, c, rfl, hl, hm⟩ := h.form
 obtain ⟨A', c', rfl, hl', hm'⟩ := h'.form
 have hL := h.limb
 have hL' := h'.limb
 obtain ⟨M, hM1, hM2, hM3⟩ : ∃ M, val xs ≤ M ∧ val ys ≤ M ∧ (limbs M).length < 35184372088832 := by
  rcases Nat.le_total (val xs) (val ys) with h1 | h1
  ·refine ⟨val ys, h1, Nat.le_refl _, ?_⟩
   rw [← trimL_eq_limbs hL']; have := trimL_length_le ys; omega
  ·refine ⟨val xs, Nat.le_refl _, h1, ?_⟩
   rw [← trimL_eq_limbs hL]; have := trimL_length_le xs; omega
 have hT := fun w1 (hx : Ext w w1) => int_trim (h.ext hx)
 have hT' := fun w1 (hx : Ext w w1) => int_trim (h'.ext hx)
 have hW := h.trim
 have hW' := h'.trim
 rw [trimL_eq_limbs hL] at hT hW
 rw [trimL_eq_limbs hL'] at hT' hW'
 have HT := Lib.hid hT
 have HT' := Lib.hid hT'
 have HW := Lib.hid hW
 have HW' := Lib.hid hW'
 have HM := Lib.hid (And.intro hM1 (And.intro hM2 hM3))
 have HF := Lib.hid (fun (p : Nat) (hp : p < 18446744073709551616) w1 => int_fromUint p hp w1)
 have HSG := Lib.hid (fun (A : Option Addr) (n c : Nat) (xs : List Nat) (w1 : World) (hh : Words w1 (.slice A n c) xs) => int_signed false hh)
 clear h h' hT hT' hW hW' hM1 hM2 hM3 hx hy hL hL'
 generalize val xs = vx at *
 generalize val ys = vy at *
 generalize xs.length = n at *
 generalize ys.length = m at *
 go_enter Tryz.func184, Tryz.ntmps184
 go_wp2_with fail
 go_quiet ((first | (go_at_call_of 105 (Value.slice A n c); exact quiet_left (HT.out _ (by repeat first|exact xA _|assumption|refine xB ?_ _|refine xC ?_|refine xD ?_ _|refine xE ?_ (by simp <;> omega) _|refine xF ?_ (by assumption)))) | (go_at_call_of 105 (Value.slice A' m c'); exact quiet_left (HT'.out _ (by repeat first|exact xA _|assumption|refine xB ?_ _|refine xC ?_|refine xD ?_ _|refine xE ?_ (by simp <;> omega) _|refine xF ?_ (by assumption))))))
 clear HT HT'
 go_wp2_with fail
 generalize hwn : (((w.alloc (Obj.cells #[Value.bool s, Value.slice A n c] 55)).alloc (Obj.cells #[Value.bool t, Value.slice A' m c'] 55)).alloc (Obj.cells #[Value.bool false, Value.slice none 0 0] 55)).drewN nq = wn at *
 have hEn : Ext w wn := by rw [← hwn]; exact (by repeat first|exact xA _|assumption|refine xB ?_ _|refine xC ?_|refine xD ?_ _|refine xE ?_ (by simp <;> omega) _|refine xF ?_ (by assumption))
 have hc0 : wn.cell? ⟨w.heap.size + 1 + 1, 0, none⟩ = some (.bool false) := by rw [← hwn]; simp [go_sem]
 have hc1 : wn.cell? ⟨w.heap.size + 1 + 1, 1, none⟩ = some (.slice none 0 0) := by rw [← hwn]; simp [go_sem]
 have hf0 : wn.frozen? ⟨w.heap.size + 1 + 1, 0, none⟩ = false := by rw [← hwn]; simp [go_sem]
 have hf1 : wn.frozen? ⟨w.heap.size + 1 + 1, 1, none⟩ = false := by rw [← hwn]; simp [go_sem]
 have hsz : wn.heap.size = w.heap.size + 1 + 1 + 1 := by rw [← hwn]; simp
 have HSZ := Lib.hid hsz
 have HNW : Hid (NoWord wn (w.heap.size + 1 + 1)) := by
  rw [← hwn]
  have h1 := NoWord.new ((w.alloc (Obj.cells #[Value.bool s, Value.slice A n c] 55)).alloc (Obj.cells #[Value.bool t, Value.slice A' m c'] 55)) #[Value.bool false, Value.slice none 0 0] 55 (by simp)
  simp only [World.size_alloc] at h1
  exact h1
 have HC := Lib.hid (And.intro hc0 (And.intro hc1 (And.intro hf0 hf1)))
 have HEN := Lib.hid hEn
 clear hwn hc0 hc1 hf0 hf1 hsz hEn
 go_loopg [5, 6] vy (fun q x y wr => ∃ p : Nat, Hid (Words wr x (limbs p)) ∧ Hid (Words wr y (limbs q)) ∧ Hid (Nat.gcd p q = Nat.gcd vx vy) ∧ Hid (p ≤ M ∧ q ≤ M) ∧ Hid (Ext wn wr))
 case atStart => exact ⟨vx, HW.out.ext HEN.out, HW'.out.ext HEN.out, rfl, ⟨HM.out.1, HM.out.2.1⟩, Ext.refl _⟩
 case round =>
  obtain ⟨p, HP, HQ, HG, HPM, HE⟩ := hrel
  obtain ⟨A1, c1, rfl, hl1, hm1⟩ := HP.out.form
  obtain ⟨A2, c2, rfl, hl2, hm2⟩ := HQ.out.form
  have HLP := Lib.hid (rfl : (limbs p).length = (limbs p).length)
  have hlp : (limbs p).length < 35184372088832 := by have := limbs_length_mono HPM.out.1; have := HM.out.2.2; omega
  by_cases hq0 : 0 < gk
  ·have hlen : 0 < (limbs gk).length := by rw [limbs_pos (by omega)]; simp
   have HG2 : Hid (Nat.gcd gk (p % gk) = Nat.gcd vx vy) := (gcd_step p gk).trans HG.out
   have hlt := Nat.mod_lt p hq0
   have HPM2 : Hid (gk ≤ M ∧ p % gk ≤ M) := ⟨HPM.out.2, by have := HPM.out.2; omega⟩
   by_cases hbig : 2 < (limbs gk).length ∨ ((limbs gk).length ≤ 2 ∧ 2 < (limbs p).length)
   ·have HD := Lib.hid (int_divide lz32 HP.out HQ.out hq0 hlp)
    have HQ3 := Lib.hid (fun w1 (hx : Ext wr w1) => HQ.out.ext hx)
    clear hlp
    rcases hbig with hb | ⟨hb1, hb⟩
    all_goals
     generalize (limbs gk).length = lk at *
     generalize (limbs p).length = lp at *
     go_wp2_with fail
     refine HD.out.mono ?_
     rintro e w1 ⟨v, rfl, ⟨v1, v2, rfl, hv1, hv2⟩, hx1⟩
     have HV2 := Lib.hid hv2
     have HV1 := Lib.hid (HQ3.out _ hx1)
     have HE1 := Lib.hid (Ext.trans HE.out hx1)
     clear hv1 hv2 HD
     go_wp2_with fail
     go_roundg (p % gk)
     case measure => exact hlt
     case rel => exact ⟨gk, HV1, HV2, HG2, HPM2, HE1⟩
   ·have hs1 : (limbs gk).length ≤ 2 := by omega
    have hs2 : (limbs p).length ≤ 2 := by omega
    have HU := Lib.hid (fun w1 (hx : Ext wr w1) => int_toUint (HP.out.ext hx) hs2)
    have HU' := Lib.hid (fun w1 (hx : Ext wr w1) => int_toUint (HQ.out.ext hx) hs1)
    simp only [val_limbs] at HU HU'
    have HB : Hid (p < 18446744073709551616 ∧ gk < 18446744073709551616) := ⟨words_two hs2, words_two hs1⟩
    have e3 : (((limbs gk).length : Int) == 0) = false := by rw [beq_eq_false_iff_ne]; omega
    obtain ⟨wo, hwo⟩ : ∃ wo : World, wo = wr := ⟨_, rfl⟩
    subst hwo
    have HEo := Lib.hid HE.out
    clear hbig hlt hlp HG2 HPM2 HPM HP HQ HLP HE
    generalize (limbs gk).length = lk at *
    generalize (limbs p).length = lp at *
    obtain ⟨q0, rfl⟩ : ∃ q0 : Nat, q0 = gk := ⟨_, rfl⟩
    obtain ⟨p0, rfl⟩ : ∃ p0 : Nat, p0 = p := ⟨_, rfl⟩
    have HG0 := Lib.hid HG.out
    clear HG
    go_wp2_with fail
    refine (HU.out _ (Ext.refl _)).mono ?_
    rintro e w1 ⟨rfl, hx1⟩
    go_wp2_with fail
    refine (HU'.out _ hx1).mono ?_
    rintro e w2 ⟨rfl, hx2⟩
    have HX2 := Lib.hid (Ext.trans hx1 hx2)
    clear hx1 hx2
    go_wp2_with fail
    go_loopg [9, 10] q0 (fun q x y w3 => ∃ p : Nat, x = .int .u64 (p : Int) ∧ y = .int .u64 (q : Int) ∧ Hid (Nat.gcd p q = Nat.gcd vx vy) ∧ Hid (p < 18446744073709551616 ∧ q < 18446744073709551616) ∧ Hid (Ext wn w3))
    case atStart => exact ⟨p0, rfl, rfl, HG0.out, HB.out, Ext.trans HEo.out HX2.out⟩
    case round =>
     obtain ⟨p, rfl, rfl, HG, HPQ, HE⟩ := hrel
     by_cases h0 : 0 < gk
     ·have hb0 : ¬ ((gk : Int) = 0) := by omega
      have hb1 : ((gk : Int) == 0) = false := by rw [beq_eq_false_iff_ne]; omega
      have hb2 : ((gk : Int) != 0) = true := by rw [bne_iff_ne]; omega
      have HG2 : Hid (Nat.gcd gk (p % gk) = Nat.gcd vx vy) := (by
       show _ = _
       rw [← HG.out, Nat.gcd_comm p gk, Nat.gcd_rec gk p, Nat.gcd_comm])
      have hlt := Nat.mod_lt p h0
      have HP2 : Hid (gk < 18446744073709551616 ∧ p % gk < 18446744073709551616) := ⟨HPQ.out.2, by have := HPQ.out.2; omega⟩
      go_wp2_with fail
      go_quiet (fail)
      go_wp2_with fail
      go_roundg (p % gk)
      case measure => exact hlt
      case rel => exact ⟨gk, rfl, by first | rfl | simp | (rw [Int.natCast_emod]), HG2, HP2, HE.out.pdrewN _⟩
     ·obtain rfl : gk = 0 := by omega
      have hg : p = Nat.gcd vx vy := by have := HG.out; rwa [Nat.gcd_zero_right] at this
      have HGG := Lib.hid hg
      clear hg
      have HF1 := Lib.hid (fun w1 => HF.out p HPQ.out.1 w1)
      clear HF HPQ
      go_wp2_with fail
      refine (HF1.out _).mono ?_
      rintro e w4 ⟨v4, rfl, hv4, hx4⟩
      obtain ⟨A4, c4, rfl, hl4, hm4⟩ := hv4.form
      have hS := HSG.out _ _ _ _ _ hv4
      rw [trimL_limbs] at hS
      have HS := Lib.hid hS
      have HE4 := Lib.hid (Ext.trans HE.out hx4)
      clear hS hv4 hx4 HSG HF1
      generalize (limbs p).length = kp at *
      go_wp2_with fail
      refine HS.out.mono ?_
      rintro e w5 ⟨r5, rfl, ⟨u5, rfl, hu5⟩, hx5⟩
      have hx := Ext.trans HE4.out hx5
      obtain ⟨A5, c5, rfl, hl5, hm5⟩ := hu5.form
      obtain ⟨r0, r1, r2, r3⟩ := HC.out
      have hlt2 : w.heap.size + 1 + 1 < wn.heap.size := by rw [HSZ.out]; omega
      have s0 := (hx.cell (p := ⟨w.heap.size + 1 + 1, 0, none⟩) hlt2).trans r0
      have s1 := (hx.cell (p := ⟨w.heap.size + 1 + 1, 1, none⟩) hlt2).trans r1
      have s2 := (Below.frozen hx (p := ⟨w.heap.size + 1 + 1, 0, none⟩) hlt2).trans r2
      have s3 := (Below.frozen hx (p := ⟨w.heap.size + 1 + 1, 1, none⟩) hlt2).trans r3
      have HX := Lib.hid (HEN.out.trans hx)
      have HXX := Lib.hid hx
      have HPP := Lib.hid hu5
      clear r0 r1 r2 r3 hx hx5 HC hu5 HE HE4
      generalize hkq : (limbs p).length = kq at *
      have HKQ := Lib.hid hkq
      clear hkq
      go_wp2_with fail
      refine bodyPost_ret (v := .agg #[.bool false, .slice A5 kq c5]) ?_ rfl ⟨_, rfl, ⟨_, rfl, ?_⟩, ?_⟩
      ·simp [results, Tryz.results184, go_sem, s0, s1]
      ·rw [← HGG.out]
       have hb := HNW.out.ext hlt2 HXX.out
       exact (HPP.out.box hb _ _).box (hb.set_ _ (by simp)) _ _
      ·exact (HX.out.pset (by simp <;> omega) _).pset (by simp <;> omega) _
  ·obtain rfl : gk = 0 := by omega
   have hlen : (limbs 0).length = 0 := by rw [limbs_zero]; rfl
   rw [hlen] at *
   have hg : p = Nat.gcd vx vy := by have := HG.out; rwa [Nat.gcd_zero_right] at this
   have HGG := Lib.hid hg
   have HCL := Lib.hid (int_clone HP.out)
   have HEo := Lib.hid HE.out
   clear hg hlen HQ HP HE HG HPM
   generalize (limbs p).length = lp at *
   by_cases hlp2 : 2 < lp
   all_goals
    go_wp2_with fail
    refine HCL.out.mono ?_
    rintro e w4 ⟨v4, rfl, hv4, hx4⟩
    obtain ⟨A4, c4, rfl, hl4, hm4⟩ := hv4.form
    have hS := HSG.out _ _ _ _ _ hv4
    rw [trimL_limbs] at hS
    have HS := Lib.hid hS
    have HE4 := Lib.hid (Ext.trans HEo.out hx4)
    clear hS hv4 hx4 HSG
    generalize (limbs p).length = kp at *
    go_wp2_with fail
    refine HS.out.mono ?_
    rintro e w5 ⟨r5, rfl, ⟨u5, rfl, hu5⟩, hx5⟩
    have hx := Ext.trans HE4.out hx5
    obtain ⟨A5, c5, rfl, hl5, hm5⟩ := hu5.form
    obtain ⟨r0, r1, r2, r3⟩ := HC.out
    have hlt2 : w.heap.size + 1 + 1 < wn.heap.size := by rw [HSZ.out]; omega
    have s0 := (hx.cell (p := ⟨w.heap.size + 1 + 1, 0, none⟩) hlt2).trans r0
    have s1 := (hx.cell (p := ⟨w.heap.size + 1 + 1, 1, none⟩) hlt2).trans r1
    have s2 := (Below.frozen hx (p := ⟨w.heap.size + 1 + 1, 0, none⟩) hlt2).trans r2
    have s3 := (Below.frozen hx (p := ⟨w.heap.size + 1 + 1, 1, none⟩) hlt2).trans r3
    have HX := Lib.hid (HEN.out.trans hx)
    have HXX := Lib.hid hx
    have HPP := Lib.hid hu5
    clear r0 r1 r2 r3 hx hx5 HC hu5 HEo HE4
    generalize hkq : (limbs p).length = kq at *
    have HKQ := Lib.hid hkq
    clear hkq
    go_wp2_with fail
    refine bodyPost_ret (v := .agg #[.bool false, .slice A5 kq c5]) ?_ rfl ⟨_, rfl, ⟨_, rfl, ?_⟩, ?_⟩
    ·simp [results, Tryz.results184, go_sem, s0, s1]
    ·rw [← HGG.out]
     have hb := HNW.out.ext hlt2 HXX.out
     exact (HPP.out.box hb _ _).box (hb.set_ _ (by simp)) _ _
    ·exact (HX.out.pset (by simp <;> omega) _).pset (by simp <;> omega) _
end Go.Proofs.YtceobmnljdhkmaaGreatDoor
namespace Go.Proofs.YtceobmnljdhkmaaGreatDoor
open Go Go.RowKit
set_option maxHeartbeats 1600000 in
theorem rat_Valid {q : QI} {v v' : Value} {w : World} (h : Words w v q.num.mag) (h' : Words w v' q.den.mag) (hx : q.num.mag.length < 35184372088832) (hy : q.den.mag.length < 35184372088832) :
  Calls Tryz.prog 198 #[.agg #[.bool q.num.neg, v, .bool q.den.neg, v']] w fun e w' => e = .returned (.bool q.ok) ∧ Ext w w' := by
 obtain ⟨⟨s, xs⟩, ⟨t, ys⟩⟩ := q
 simp only at h h' hx hy ⊢
 obtain ⟨A, c, rfl, hl, hm⟩ := h.form
 obtain ⟨A', c', rfl, hl', hm'⟩ := h'.form
 have HV1 := Lib.hid (fun w1 (hx : Ext w w1) => int_Valid s (h.ext hx))
 have HV2 := Lib.hid (fun w1 (hx : Ext w w1) => int_Valid t (h'.ext hx))
 have HS2 := Lib.hid (fun w1 (hx : Ext w w1) => int_Sign t (h'.ext hx))
 have HG := Lib.hid (fun w1 (hx1 : Ext w w1) => int_GCD (s := s) (t := t) (h.ext hx1) (h'.ext hx1) hx hy)
 have HOK : Hid (QI.ok ⟨⟨s, xs⟩, ⟨t, ys⟩⟩ = ((decide ((trimL xs).length = xs.length) && (!s || decide (0 < xs.length))) && (decide ((trimL ys).length = ys.length) && (!t || decide (0 < ys.length))) && decide (0 < sgnW t (trimL ys).length) && decide (limbs (Nat.gcd (val xs) (val ys)) = [1]))) := by
  show _ = _
  rw [decide_eq_decide.2 (limbs_eq_one (g := Nat.gcd (val xs) (val ys)))]
  rfl
 clear h h' hx hy
 generalize (decide ((trimL xs).length = xs.length) && (!s || decide (0 < xs.length))) = b1 at *
 generalize (decide ((trimL ys).length = ys.length) && (!t || decide (0 < ys.length))) = b2 at *
 generalize sgnW t (trimL ys).length = sg at *
 generalize limbs (Nat.gcd (val xs) (val ys)) = gl at *
 generalize xs.length = n at *
 generalize ys.length = m at *
 go_enter Tryz.func198, Tryz.ntmps198
 go_wp2_with fail
 refine (HV1.out _ (Ext.alloc _ _)).mono ?_
 rintro e w1 ⟨rfl, hx1⟩
 cases b1
 ·go_wp2_with fail
  go_ret
  exact ⟨by rw [HOK.out]; rfl, (by repeat first|exact xA _|assumption|refine xB ?_ _|refine xC ?_|refine xD ?_ _|refine xE ?_ (by simp <;> omega) _|refine xF ?_ (by assumption))⟩
 obtain ⟨hc, hf⟩ := bcell hx1
 go_wp2_with fail
 refine (HV2.out _ (by repeat first|exact xA _|assumption|refine xB ?_ _|refine xC ?_|refine xD ?_ _|refine xE ?_ (by simp <;> omega) _|refine xF ?_ (by assumption))).mono ?_
 rintro e w2 ⟨rfl, hx2⟩
 have hx2 := Ext.trans hx1 hx2
 clear hx1 hc hf
 cases b2
 ·go_wp2_with fail
  go_ret
  exact ⟨by rw [HOK.out]; rfl, (by repeat first|exact xA _|assumption|refine xB ?_ _|refine xC ?_|refine xD ?_ _|refine xE ?_ (by simp <;> omega) _|refine xF ?_ (by assumption))⟩
 obtain ⟨hc, hf⟩ := bcell hx2
 go_wp2_with fail
 refine (HS2.out _ (by repeat first|exact xA _|assumption|refine xB ?_ _|refine xC ?_|refine xD ?_ _|refine xE ?_ (by simp <;> omega) _|refine xF ?_ (by assumption))).mono ?_
 rintro e w3 ⟨rfl, hx3⟩
 have hx3 := Ext.trans hx2 hx3
 clear hx2 hc hf
 by_cases hsg : 0 < sg
 ·have HOK2 : Hid (QI.ok ⟨⟨s, xs⟩, ⟨t, ys⟩⟩ = decide (gl = [1])) := by show _ = _; rw [HOK.out]; simp [hsg]
  clear HOK
  obtain ⟨hc, hf⟩ := bcell hx3
  go_wp2_with fail
  refine (HG.out _ (by repeat first|exact xA _|assumption|refine xB ?_ _|refine xC ?_|refine xD ?_ _|refine xE ?_ (by simp <;> omega) _|refine xF ?_ (by assumption))).mono ?_
  rintro e w4 ⟨r, rfl, ⟨u, rfl, hu⟩, hx4⟩
  have HU := Lib.hid hu
  clear hu hc hf
  go_wp2_with fail
  refine (rat_isOne HU.out).mono ?_
  rintro e w5 ⟨rfl, hx5⟩
  go_wp2_with fail
  go_ret
  exact ⟨by rw [HOK2.out]; simp, (by repeat first|exact xA _|assumption|refine xB ?_ _|refine xC ?_|refine xD ?_ _|refine xE ?_ (by simp <;> omega) _|refine xF ?_ (by assumption))⟩
 ·have hsd : decide (0 < sg) = false := by simpa using hsg
  have HOK2 : Hid (QI.ok ⟨⟨s, xs⟩, ⟨t, ys⟩⟩ = false) := by show _ = _; rw [HOK.out, hsd]; simp
  go_wp2_with fail
  go_ret
  exact ⟨by rw [HOK2.out]; rfl, (by repeat first|exact xA _|assumption|refine xB ?_ _|refine xC ?_|refine xD ?_ _|refine xE ?_ (by simp <;> omega) _|refine xF ?_ (by assumption))⟩
end Go.Proofs.YtceobmnljdhkmaaGreatDoor
namespace Go.Proofs.YtceobmnljdhkmaaGreatDoor
open Go Go.RowKit Go.Proofs.YtceobmnljdhkmaaGreatDoor.Ev
theorem validB_ok (s : Bool) (xs : List Nat) : validB s xs = (⟨s, xs⟩ : ZI).ok := by
 unfold validB ZI.ok
 rw [tlen_trim, lenN_eq]
 have e1 : decide ((trimL xs).length = xs.length) = Nat.beq (trimL xs).length xs.length := by
  rw [Bool.eq_iff_iff, decide_eq_true_iff]
  exact ⟨fun h => by rw [h]; exact Nat.beq_refl _, Nat.eq_of_beq_eq_true⟩
 have e2 : decide (0 < xs.length) = bnot (Nat.beq xs.length 0) := by cases xs.length <;> rfl
 simp only
 rw [e1, e2]
 cases Nat.beq (trimL xs).length xs.length <;> cases s <;> simp
/-- Is it a rational number? -/
noncomputable def okQE (n : Bool) (xs : List Nat) (d : Bool) (ys : List Nat) : Bool := Bool.rec false (Bool.rec false (Bool.rec (Bool.rec (Nat.beq (Nat.gcd (valN xs) (valN ys)) 1) false (Nat.beq (lenN ys) 0)) false d) (validB d ys)) (validB n xs)
theorem okQE_ok (n : Bool) (xs : List Nat) (d : Bool) (ys : List Nat) : okQE n xs d ys = (⟨⟨n, xs⟩, ⟨d, ys⟩⟩ : QI).ok := by
 unfold okQE QI.ok
 rw [validB_ok, validB_ok, valN_val, valN_val, lenN_eq]
 simp only
 have eg : decide (Nat.gcd (val xs) (val ys) = 1) = Nat.beq (Nat.gcd (val xs) (val ys)) 1 := by
  rw [Bool.eq_iff_iff, decide_eq_true_iff]
  exact ⟨fun h => by rw [h]; rfl, Nat.eq_of_beq_eq_true⟩
 rw [eg]
 generalize Nat.beq (Nat.gcd (val xs) (val ys)) 1 = g
 generalize (⟨n, xs⟩ : ZI).ok = a
 cases hb : (⟨d, ys⟩ : ZI).ok with
 | false => cases a <;> simp
 | true =>
  have hl : (trimL ys).length = ys.length := by
   unfold ZI.ok at hb
   rw [Bool.and_eq_true] at hb
   simpa using hb.1
  have hs : decide (0 < (⟨d, ys⟩ : ZI).sgn) = (!d && bnot (Nat.beq ys.length 0)) := by
   unfold ZI.sgn sgnW
   simp only
   rw [hl]
   cases d <;> cases ys.length <;> simp <;> first | rfl | omega | decide
  rw [hs]
  cases a <;> cases d <;> cases Nat.beq ys.length 0 <;> cases g <;> rfl
theorem ev_ratValid {w : World} {n d : Bool} {v v' : Value} {xs ys : List Nat} (h : SlW w v xs) (h' : SlW w v' ys) (hm : xs.length ≤ 1100000) (hm' : ys.length ≤ 1100000) :
  Calls Tryz.prog 198 #[.agg #[.bool n, v, .bool d, v']] w fun e w' => e = .returned (.bool (okQE n xs d ys)) ∧ Below w.heap.size w w' := by
 rw [okQE_ok]
 exact rat_Valid (q := ⟨⟨n, xs⟩, ⟨d, ys⟩⟩) (slWords h hm) (slWords h' hm') (by simp only; omega) (by simp only; omega)
theorem has_body {f : FuncId} (h : ((Tryz.prog.funcs[f]?).any fun fn => fn.body.isSome) = true) : ∃ fn, Tryz.prog.funcs[f]? = some fn ∧ fn.body ≠ none := by
 cases hf : Tryz.prog.funcs[f]? with
 | none => rw [hf] at h; cases h
 | some fn =>
  rw [hf] at h
  exact ⟨fn, rfl, fun e => by simp [e] at h⟩
noncomputable def pickP (l : List (Nat × (List AV → St → KS → OR))) (f : Nat) : Option (List AV → St → KS → OR) := List.rec none (fun p _ ih => Bool.rec ih (some p.2) (Nat.beq f p.1)) l
theorem pickP_ok {l : List (Nat × (List AV → St → KS → OR))} (h : ∀ q ∈ l, (∃ fn, Tryz.prog.funcs[q.1]? = some fn ∧ fn.body ≠ none) ∧ CallOK Tryz.prog q.1 q.2) : PrimsOK Tryz.prog (pickP l) := by
 intro f p hp
 induction l with
 | nil => cases hp
 | cons q l ih =>
  have hp : Bool.rec (motive := fun _ => Option (List AV → St → KS → OR)) (pickP l f) (some q.2) (Nat.beq f q.1) = some p := hp
  cases hb : Nat.beq f q.1 with
  | false => rw [hb] at hp; exact ih (fun x hx => h x (List.mem_cons_of_mem _ hx)) hp
  | true =>
   rw [hb] at hp
   obtain rfl := Nat.eq_of_beq_eq_true hb
   injection hp with hp
   subst hp
   exact h q (List.mem_cons_self ..)
noncomputable def prsL : List (Nat × (List AV → St → KS → OR)) := [(105, trimK 1100000), (232, toUintK), (135, signedK 1100000), (253, ofIntK 1100000 fun s xs => .b (validB s xs)), (198, ratK okQE 1100000), (69, ofIntK 1100000 signA), (136, fromUintK), (184, gcdK), (84, fromPosK), (137, ofIntK 1100000 fun s xs => .b (oneB s xs)), (90, trimK 1100000), (63, signedRK 1100000), (254, cmpK 1100000), (146, cmpK 1100000), (47, ofIntK 1100000 signA), (33, ofNumK 1100000 signA), (139, oneK)]
noncomputable def prs : Prims := pickP prsL
theorem prs_ok : PrimsOK Tryz.prog prs := pickP_ok fun q hq => by
 simp only [prsL, List.mem_cons, List.not_mem_nil, or_false] at hq
 rcases hq with rfl | rfl | rfl | rfl | rfl | rfl | rfl | rfl | rfl | rfl | rfl | rfl | rfl | rfl | rfl | rfl | rfl
 ·exact ⟨has_body (by kernel_rfl), trimK_ok fun w A c xs h hm => ev_trim h hm⟩
 ·exact ⟨has_body (by kernel_rfl), toUintK_ok fun w v xs h hm => ev_toUint h hm⟩
 ·exact ⟨has_body (by kernel_rfl), signedK_ok fun w s A c xs h hm => ev_signed h hm⟩
 ·exact ⟨has_body (by kernel_rfl), ofIntK_ok (fun s xs => .bool (validB s xs)) (fun s xs Γ => .b _) fun w s v xs h hm => ev_Valid h hm⟩
 ·exact ⟨has_body (by kernel_rfl), ratK_ok fun w n d v v' xs ys h h' hm hm' => ev_ratValid h h' hm hm'⟩
 ·exact ⟨has_body (by kernel_rfl), ofIntK_ok (fun s xs => .int .i64 (signZ s (tlenK xs))) (fun s xs Γ => signA_ok s xs Γ) fun w s v xs h hm => ev_Sign h hm⟩
 ·exact ⟨has_body (by kernel_rfl), fromUintK_ok fun w n hn => ev_fromUint w n hn⟩
 ·exact ⟨has_body (by kernel_rfl), gcdK_ok fun w s t v v' xs ys h h' hm hm' hp => ev_GCD h h' hm hm' hp⟩
 ·exact ⟨has_body (by kernel_rfl), fromPosK_ok⟩
 ·exact ⟨has_body (by kernel_rfl), ofIntK_ok (fun s xs => .bool (oneB s xs)) (fun s xs Γ => .b _) fun w s v xs h hm => ev_isOne h hm⟩
 ·exact ⟨has_body (by kernel_rfl), trimK_ok fun w A c xs h hm => ev_trimR h hm⟩
 ·exact ⟨has_body (by kernel_rfl), signedRK_ok⟩
 ·exact ⟨has_body (by kernel_rfl), cmpK_ok fun w v v' xs ys h h' hm hm' => ev_compare h h' hm hm'⟩
 ·exact ⟨has_body (by kernel_rfl), cmpK_ok fun w v v' xs ys h h' hm hm' => ev_compareR h h' hm hm'⟩
 ·exact ⟨has_body (by kernel_rfl), ofIntK_ok (fun s xs => .int .i64 (signZ s (tlenK xs))) (fun s xs Γ => signA_ok s xs Γ) fun w s v xs h hm => ev_SignR h hm⟩
 ·exact ⟨has_body (by kernel_rfl), ofNumK_ok (fun s xs => .int .i64 (signZ s (tlenK xs))) (fun s xs Γ => signA_ok s xs Γ) fun w n d v v' xs h hm => ev_ratSign h hm⟩
 ·exact ⟨has_body (by kernel_rfl), oneK_ok⟩
theorem funs : FunsOK Tryz.prog := funsOK_of (by kernel_rfl)
theorem mixedO : Tryz.prog.follows .mixedOrders = true := by kernel_rfl
end Go.Proofs.YtceobmnljdhkmaaGreatDoor
