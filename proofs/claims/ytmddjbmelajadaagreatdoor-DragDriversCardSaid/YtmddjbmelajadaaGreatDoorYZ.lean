/- Contract of the program's layer 22: decimal. -/
import Derived.Test.YtmddjbmelajadaaGreatDoorYW
import Derived.Test.YtmddjbmelajadaaGreatDoorYY
import Derived.Test.YtmddjbmelajadaaGreatDoorYX
import Derived.Test.YtmddjbmelajadaaGreatDoorYR
import Derived.Test.YtmddjbmelajadaaGreatDoorYV
import Derived.Test.YtmddjbmelajadaaGreatDoorYE
namespace Go.Proofs.YtmddjbmelajadaaGreatDoor
open Go Go.RowKit
theorem dec_gcd {m e : Nat} (hg : Nat.gcd m e = 1) : Nat.gcd (m * 10) e = Nat.gcd 10 e := Nat.Coprime.gcd_mul_left_cancel 10 hg
theorem dec_cop {m e : Nat} (hg : Nat.gcd m e = 1) : Nat.gcd (m * (10 / Nat.gcd 10 e)) (e / Nat.gcd 10 e) = 1 := by
 have h1 : Nat.Coprime m (e / Nat.gcd 10 e) := Nat.Coprime.coprime_dvd_right (Nat.div_dvd_of_dvd (Nat.gcd_dvd_right 10 e)) hg
 have h2 : Nat.Coprime (10 / Nat.gcd 10 e) (e / Nat.gcd 10 e) := Nat.coprime_div_gcd_div_gcd (Nat.gcd_pos_of_pos_left e (by omega))
 exact Nat.Coprime.mul_left h1 h2
theorem rat_mul_ten {A A' B B' : Option Addr} {n m c c' k k' e e' a d : Nat} {w : World} (h1 : Words w (.slice A n c) (limbs a)) (h2 : Words w (.slice A' m c') (limbs d)) (h3 : Words w (.slice B k e) (limbs 10)) (h4 : Words w (.slice B' k' e') (limbs 1)) (hd : 1 < d) (hg : Nat.gcd a d = 1) (hl : n + k < 35184372088832) (hl' : m + k' < 35184372088832) :
  Calls Tryz.prog 203 #[.agg #[.bool false, .slice A n c, .bool false, .slice A' m c'], .agg #[.bool false, .slice B k e, .bool false, .slice B' k' e']] w (Ret w fun r w' => ∃ A1 k1 c1 A2 k2 c2, r = .agg #[.bool false, .slice A1 k1 c1, .bool false, .slice A2 k2 c2] ∧ Words w' (.slice A1 k1 c1) (limbs (a * (10 / Nat.gcd 10 d))) ∧ Words w' (.slice A2 k2 c2) (limbs (d / Nat.gcd 10 d))) := by
 have := rat_Mul h1 h2 h3 h4 hd hl hl'
 rw [dec_gcd hg, Nat.mul_div_assoc _ (Nat.gcd_dvd_left 10 d)] at this
 exact this
theorem cmp_one {A A' : Option Addr} {n m c c' e : Nat} {w : World} (h : Words w (.slice A n c) (limbs e)) (h' : Words w (.slice A' m c') (limbs 1)) (he : 0 < e) :
  Calls Tryz.prog 276 #[.agg #[.bool false, .slice A n c], .agg #[.bool false, .slice A' m c']] w fun x w' => x = .returned (.int .i64 (if e = 1 then 0 else 1)) ∧ Ext w w' := by
 have := int_Cmp h h' he (by omega)
 rwa [show cmpN e 1 = if e = 1 then 0 else 1 by unfold cmpN; split <;> (try split) <;> (try split) <;> omega] at this
set_option maxRecDepth 100000 in
set_option maxHeartbeats 6400000 in
theorem decimal_prog {v v' : Value} {n d : Nat} {w : World} (h : Words w v (limbs n)) (h' : Words w v' (limbs d)) (hg : Nat.gcd n d = 1) (hd : 0 < d) (hl : (limbs n).length ≤ 1000) (hl' : (limbs d).length ≤ 1000) (hp : GLp w) :
  Calls Tryz.prog 233 #[.agg #[.bool false, v, .bool false, v']] w (DecRes (decFrom 41 0 n d) w) := by
 obtain ⟨A, c, rfl, hc, hc'⟩ := h.form
 obtain ⟨B, k, rfl, hk, hk'⟩ := h'.form
 have hV := fun w1 (hx : Ext w w1) => rat_Valid (q := ⟨⟨false, limbs n⟩, ⟨false, limbs d⟩⟩) (h.ext hx) (h'.ext hx) (by simp only; omega) (by simp only; omega)
 rw [dec_ok hg hd] at hV
 have HV := Lib.hid hV
 have HS := Lib.hid (fun w1 (hx : Ext w w1) => rat_Sign (q := ⟨⟨false, limbs n⟩, ⟨false, limbs d⟩⟩) (v' := .slice B (limbs d).length k) (h.ext hx))
 have hZ := dec_sgn n
 have HBX := Lib.hid (BoxQ.new w false false (.slice A (limbs n).length c) (.slice B (limbs d).length k) 64 (by simp) (by simp))
 have HH := Lib.hid (And.intro h h')
 have HG := Lib.hid hg
 have HP := Lib.hid hp
 have HL := Lib.hid (And.intro hl hl')
 clear h h' hV hg hl hl' hp
 generalize (limbs n).length = ln at *
 generalize (limbs d).length = ld at *
 generalize (⟨false, limbs n⟩ : ZI).sgn = z at *
 obtain ⟨y0, y1, y2, y3, -⟩ := HBX.out
 go_enter Tryz.func233, Tryz.ntmps233
 go_wp2_with fail
 refine (HV.out _ (by repeat first|exact xA _|assumption|refine xB ?_ _|refine xC ?_|refine xD ?_ _|refine xE ?_ (by simp <;> omega) _|refine xF ?_ (by assumption))).mono ?_
 rintro e w1 ⟨rfl, hx1⟩
 have HBX1 := Lib.hid (HBX.out.ext hx1)
 have hE1 : Ext w w1 := (by repeat first|exact xA _|assumption|refine xB ?_ _|refine xC ?_|refine xD ?_ _|refine xE ?_ (by simp <;> omega) _|refine xF ?_ (by assumption))
 clear HBX HV y0 y1 y2 y3
 obtain ⟨y0, y1, y2, y3, -⟩ := HBX1.out
 go_wp2_with fail
 refine (HS.out _ (by repeat first|exact xA _|assumption|refine xB ?_ _|refine xC ?_|refine xD ?_ _|refine xE ?_ (by simp <;> omega) _|refine xF ?_ (by assumption))).mono ?_
 rintro e w2 ⟨rfl, hx2⟩
 have HBX2 := Lib.hid (HBX1.out.ext hx2)
 have hE2 : Ext w w2 := hE1.trans hx2
 clear HBX1 HS y0 y1 y2 y3 hx1
 go_wp2_with fail
 refine (rat_FromInt 10 (by omega) _).mono ?_
 rintro e w3 ⟨x, rfl, ⟨u1, u2, rfl, hu1, hu2⟩, hx3⟩
 obtain ⟨A1, c1, rfl, hl1, hm1⟩ := hu1.form
 obtain ⟨A2, c2, rfl, hl2, hm2⟩ := hu2.form
 have HU := Lib.hid (And.intro hu1 hu2)
 have hx3' : Ext w2 w3 := hx3
 have hE3 : Ext w w3 := hE2.trans hx3'
 have HBX3 := Lib.hid (HBX2.out.ext hx3')
 clear hu1 hu2 hx3 hx3' hx2 hE1 hE2 HBX2
 generalize (limbs 10).length = la at *
 generalize (limbs 1).length = lb at *
 go_wp2_with fail
 have HB4 := Lib.hid (BoxQ.new w3 false false (.slice A1 la c1) (.slice A2 lb c2) 64 (by simp) (by simp))
 have hE34 := Ext.alloc w3 (.cells #[.bool false, .slice A1 la c1, .bool false, .slice A2 lb c2] 64)
 have HW4 := Lib.hid (And.intro (HU.out.1.ext hE34) (HU.out.2.ext hE34))
 have hs4 : (w3.alloc (.cells #[.bool false, .slice A1 la c1, .bool false, .slice A2 lb c2] 64)).heap.size = w3.heap.size + 1 := by simp
 generalize w3.alloc (.cells #[.bool false, .slice A1 la c1, .bool false, .slice A2 lb c2] 64) = w4 at *
 clear HU
 refine (int_FromInt 1 (by omega) _).mono ?_
 rintro e w5 ⟨x, rfl, ⟨u5, rfl, hu5⟩, hx5⟩
 obtain ⟨A5, c5, rfl, hl5, hm5⟩ := hu5.form
 have HU5 := Lib.hid hu5
 have hx5' : Ext w4 w5 := hx5
 have hE5 : Ext w w5 := (hE3.trans hE34).trans hx5'
 have HBX5 := Lib.hid (HBX3.out.ext (hE34.trans hx5'))
 have HB5 := Lib.hid (HB4.out.ext hx5')
 have HW5 := Lib.hid (And.intro (HW4.out.1.ext hx5') (HW4.out.2.ext hx5'))
 have hb0 : w.heap.size < w3.heap.size := HBX3.out.2.2.2.2.2.2.2.2.1
 have hb5 : w3.heap.size < w5.heap.size := by have := hx5'.size; omega
 clear hu5 hx5 hx5' HBX3 HB4 HW4 hE34 hs4 hE3
 generalize w3.heap.size = b4 at *
 generalize (limbs 1).length = lc at *
 have hE56 := Ext.alloc w5 (.cells #[.bool false, .slice A5 lc c5] 62)
 have hE7 := hE5.trans hE56
 have HB7 := Lib.hid (HB5.out.ext hE56)
 have HI7 := Lib.hid (BoxI.new w5 false (.slice A5 lc c5) 62 (by simp))
 have HX7 := Lib.hid (HBX5.out.ext hE56)
 have HW7 := Lib.hid (And.intro (HW5.out.1.ext hE56) (And.intro (HW5.out.2.ext hE56) (And.intro (HU5.out.ext hE56) (And.intro (HH.out.1.ext hE7) (HH.out.2.ext hE7)))))
 go_wp2_with fail
 clear hE56 HB5 HU5 HW5 HBX5 hE5 HH
 generalize w5.alloc (.cells #[.bool false, .slice A5 lc c5] 62) = w7 at *
 generalize w5.heap.size = b5 at *
 have HMD : Hid (Nat.gcd n d = 1) := HG.out
 go_loopg [6] 40 (fun gk x wr => ∃ (p m e : Nat) (u v : Value), x = .int .i64 (p : Int) ∧ p + gk = 40 ∧ Hid (BoxQ wr w.heap.size false u false v) ∧ Hid (Words wr u (limbs m)) ∧ Hid (Words wr v (limbs e)) ∧
  Hid (BoxQ wr b4 false (.slice A1 la c1) false (.slice A2 lb c2)) ∧ Hid (BoxI wr b5 false (.slice A5 lc c5)) ∧ Hid (Words wr (.slice A1 la c1) (limbs 10)) ∧ Hid (Words wr (.slice A2 lb c2) (limbs 1)) ∧ Hid (Words wr (.slice A5 lc c5) (limbs 1)) ∧
  0 < e ∧ Hid (Nat.gcd m e = 1) ∧ Hid ((limbs m).length ≤ 1000 + p) ∧ Hid ((limbs e).length ≤ 1000) ∧ Hid (decFrom (gk + 1) p m e = decFrom 41 0 n d) ∧ Ext w wr)
 case atStart => exact ⟨0, n, d, _, _, rfl, by omega, HX7, HW7.out.2.2.2.1, HW7.out.2.2.2.2, HB7, HI7, HW7.out.1, HW7.out.2.1, HW7.out.2.2.1, hd, HMD, (by show _ ≤ _; have := HW7.out.2.2.2.1.len.1; have := HL.out.1; omega), (by show _ ≤ _; have := HW7.out.2.2.2.2.len.1; have := HL.out.2; omega), rfl, hE7⟩
 case round =>
  obtain ⟨p, m, e, u, v, rfl, hp, HQ, HU, HVV, HT, HO, HT1, HT2, HO1, he, HM, HLM, HLE, HDF, hE⟩ := hrel
  obtain ⟨A6, c6, rfl, hl6, hm6⟩ := HU.out.form
  obtain ⟨A7, c7, rfl, hl7, hm7⟩ := HVV.out.form
  generalize (limbs m).length = lm at *
  generalize (limbs e).length = le at *
  match gk, hp, HDF with
  | 0, hp, HDF =>
   have hp : p = 40 := by omega
   subst hp
   have HD0 : Hid (false = decFrom 41 0 n d) := by
    show _ = _
    rw [← HDF.out]
    simp only [decFrom]
    split
    ·rw [eq_comm, decide_eq_false_iff_not, decLen]
     simp only [if_neg (show ¬ (40 = 0) by omega)]
     omega
    ·rfl
   go_wp2_with fail
   refine bodyPost_ret (v := .tuple #[.string ⟨#[]⟩, .bool false]) ?_ rfl ⟨_, by rw [← HD0.out], hE⟩
   simp [results, Tryz.results233, go_sem]
  | g + 1, hp, HDF =>
   have hp1 : p ≤ 39 := by omega
   obtain ⟨y0, y1, y2, y3, f0, f1, f2, f3, -⟩ := HQ.out
   obtain ⟨z0, z1, -⟩ := HO.out
   obtain ⟨x0, x1, x2, x3, -⟩ := HT.out
   have HCM := Lib.hid (cmp_one HVV.out HO1.out he)
   by_cases he1 : e = 1
   ·rw [if_pos he1] at HCM
    go_wp2_with fail
    refine HCM.out.mono ?_
    rintro e' wa ⟨rfl, hxa⟩
    have hEa := hE.trans hxa
    have HF := Lib.hid (int_Format (HU.out.ext hxa) (by have := HU.out.len.1; have := HLM.out; omega) (HP.out.ext hEa))
    have HQa := Lib.hid (HQ.out.ext hxa)
    have HNM : Hid (ndig m ≤ 100000) := by show _ ≤ _; have := ndig_limbs m; have := HU.out.len.1; have := HLM.out; omega
    clear y0 y1 y2 y3 f0 f1 f2 f3 z0 z1 x0 x1 x2 x3 HCM HO HT HT1 HT2 HO1 HQ
    obtain ⟨y0, y1, y2, y3, f0, f1, f2, f3, -⟩ := HQa.out
    go_wp2_with fail
    refine HF.out.mono ?_
    rintro e' wb ⟨⟨s, rfl, hs⟩, hxb⟩
    have hEb := hEa.trans hxb
    have HSS := Lib.hid hs
    have hdf : decide (decLen m p ≤ 40) = decFrom 41 0 n d := by have := HDF.out; rw [decFrom, if_pos he1] at this; exact this
    have HDD := Lib.hid hdf
    have hsz : s.size ≤ 100000 := by have := HNM.out; omega
    clear hs hdf HDF HF HQa hxa hxb hEa hE y0 y1 y2 y3 f0 f1 f2 f3
    rcases Nat.eq_zero_or_pos p with hp0 | hp0
    ·have HP0 := Lib.hid hp0
     have hpn : ¬ (0 < p) := by omega
     clear hp0
     go_wp2_with fail
     refine bodyPost_ret (v := .tuple #[.string s, .bool (decide ((s.size : Int) ≤ 40))]) ?_ rfl ⟨s, ?_, hEb⟩
     ·simp [results, Tryz.results233, go_sem]
     ·rw [← HDD.out]
      have e1 : decLen m p = s.size := by rw [HSS.out, decLen, if_pos HP0.out, HP0.out]; omega
      have e2 : decide ((s.size : Int) ≤ 40) = decide (decLen m p ≤ 40) := by rw [e1]; apply decide_eq_decide.2; omega
      rw [e2]
    by_cases hsp : s.size < p + 1
    ·have HR := Lib.hid (fun w2 => zeros_Repeat (p + 1 - s.size) (by omega) w2)
     rw [show (((p + 1 - s.size : Nat)) : Int) = (p : Int) + 1 - (s.size : Int) by omega] at HR
     go_wp2_with fail
     refine (HR.out _).mono ?_
     rintro e' wc ⟨⟨s2, rfl, hs2⟩, hxc⟩
     have hEc := hEb.trans hxc
     have HTS0 : Hid ((s2 ++ s).size = max (max 1 (ndig m)) (p + 1)) := by show _ = _; rw [ByteArray.size_append, ← HSS.out]; omega
     have hts0 : (s2 ++ s).size ≤ 200000 := by rw [ByteArray.size_append]; omega
     have htp0 : p + 1 ≤ (s2 ++ s).size := by rw [ByteArray.size_append]; omega
     have hcat : s2.size + s.size ≤ 200000 := by omega
     clear HR hs2 hxc hEb HSS
     go_upto_region 1 with fail
     generalize s2 ++ s = t at *
     have HTS := HTS0
     have HP0 := Lib.hid hp0
     have hsub1 : ¬ ((t.size : Int) - (p : Int) < 0) := by omega
     have hsub2 : (t.size : Int) - (p : Int) ≤ t.size := by omega
     have HS2 : Hid ((t.extract 0 (t.size - p) ++ ⟨#[46]⟩ ++ t.extract (t.size - p) t.size).size = t.size + 1) := by
      show _ = _
      rw [ByteArray.size_append, ByteArray.size_append, ByteArray.size_extract, ByteArray.size_extract]
      have : (ByteArray.mk #[46]).size = 1 := rfl
      omega
     go_region
     generalize t.extract 0 (t.size - p) ++ ⟨#[46]⟩ ++ t.extract (t.size - p) t.size = t2 at *
     have hs2 : t2.size ≤ 300000 := by have := HS2.out; omega
     go_wp2_with fail
     refine bodyPost_ret (v := .tuple #[.string t2, .bool (decide ((t2.size : Int) ≤ 40))]) ?_ rfl ⟨t2, ?_, hEc.trans (Ext.drew _)⟩
     ·simp [results, Tryz.results233, go_sem]
     ·rw [← HDD.out]
      have e1 : decLen m p = t2.size := by have := HP0.out; rw [HS2.out, HTS.out, decLen, if_neg (by omega)]
      have e2 : decide ((t2.size : Int) ≤ 40) = decide (decLen m p ≤ 40) := by rw [e1]; apply decide_eq_decide.2; omega
      rw [e2]
    ·have HTS : Hid (s.size = max (max 1 (ndig m)) (p + 1)) := by show _ = _; rw [← HSS.out]; omega
     have hnr : ¬ (0 < (p : Int) + 1 - (s.size : Int)) := by omega
     clear HSS
     have HP0 := Lib.hid hp0
     have hsub1 : ¬ ((s.size : Int) - (p : Int) < 0) := by omega
     have hsub2 : (s.size : Int) - (p : Int) ≤ s.size := by omega
     have HS2 : Hid ((s.extract 0 (s.size - p) ++ ⟨#[46]⟩ ++ s.extract (s.size - p) s.size).size = s.size + 1) := by
      show _ = _
      rw [ByteArray.size_append, ByteArray.size_append, ByteArray.size_extract, ByteArray.size_extract]
      have : (ByteArray.mk #[46]).size = 1 := rfl
      omega
     go_wp2_with fail
     go_region
     generalize s.extract 0 (s.size - p) ++ ⟨#[46]⟩ ++ s.extract (s.size - p) s.size = t2 at *
     have hs2 : t2.size ≤ 300000 := by have := HS2.out; omega
     go_wp2_with fail
     refine bodyPost_ret (v := .tuple #[.string t2, .bool (decide ((t2.size : Int) ≤ 40))]) ?_ rfl ⟨t2, ?_, hEb.trans (Ext.drew _)⟩
     ·simp [results, Tryz.results233, go_sem]
     ·rw [← HDD.out]
      have e1 : decLen m p = t2.size := by have := HP0.out; rw [HS2.out, HTS.out, decLen, if_neg (by omega)]
      have e2 : decide ((t2.size : Int) ≤ 40) = decide (decLen m p ≤ 40) := by rw [e1]; apply decide_eq_decide.2; omega
      rw [e2]
   ·rw [if_neg he1] at HCM
    go_wp2_with fail
    refine HCM.out.mono ?_
    rintro e' wa ⟨rfl, hxa⟩
    have hEa := hE.trans hxa
    have e10 := HT1.out.len.1
    have e11 := HT2.out.len.1
    have f10 := limbs_length_le (n := 10) (k := 1) (by omega)
    have f11 := limbs_length_le (n := 1) (k := 1) (by omega)
    have HK := Lib.hid (rat_mul_ten (HU.out.ext hxa) (HVV.out.ext hxa) (HT1.out.ext hxa) (HT2.out.ext hxa) (by omega) HM.out (by have := HU.out.len.1; have := HLM.out; omega) (by have := HVV.out.len.1; have := HLE.out; omega))
    have HALL := Lib.hid (And.intro (HQ.out.ext hxa) (And.intro (HT.out.ext hxa) (And.intro (HO.out.ext hxa) (And.intro (HT1.out.ext hxa) (And.intro (HT2.out.ext hxa) (HO1.out.ext hxa))))))
    clear y0 y1 y2 y3 f0 f1 f2 f3 z0 z1 x0 x1 x2 x3 HCM HO HT HT1 HT2 HO1 HQ e10 e11 f10 f11
    obtain ⟨⟨y0, y1, y2, y3, f0, f1, f2, f3, -⟩, ⟨x0, x1, x2, x3, -⟩, -⟩ := HALL.out
    go_wp2_with fail
    refine HK.out.mono ?_
    rintro e' wb ⟨x, rfl, ⟨A8, l8, c8, A9, l9, c9, rfl, hua, hva⟩, hxb⟩
    have HUV := Lib.hid (And.intro hua hva)
    have hxb' : Ext wa wb := hxb
    have hEb := hEa.trans hxb'
    have HALb := Lib.hid (And.intro (HALL.out.1.ext hxb') (And.intro (HALL.out.2.1.ext hxb') (And.intro (HALL.out.2.2.1.ext hxb') (And.intro (HALL.out.2.2.2.1.ext hxb') (And.intro (HALL.out.2.2.2.2.1.ext hxb') (HALL.out.2.2.2.2.2.ext hxb'))))))
    have hl8 := hua.len.2
    have hl9 := hva.len.2
    clear hua hva hxb hxb' HALL HK y0 y1 y2 y3 f0 f1 f2 f3 x0 x1 x2 x3 hxa hEa hE
    obtain ⟨⟨y0, y1, y2, y3, f0, f1, f2, f3, -⟩, -⟩ := HALb.out
    go_wp2_with fail
    go_roundg g
    case measure => omega
    case rel =>
     obtain ⟨b1, b2, b3, b4', b5', b6⟩ := HALb.out
     obtain ⟨t1, t2⟩ := ten_div e
     obtain ⟨d1, d2⟩ := den_div he
     refine ⟨p + 1, m * (10 / Nat.gcd 10 e), e / Nat.gcd 10 e, .slice A8 l8 c8, .slice A9 l9 c9, by simp, by omega, b1.put false false (by simp) (by simp), HUV.out.1.putQ b1 false false _ _ (by simp), HUV.out.2.putQ b1 false false _ _ (by simp),
      b2.farQ (by omega) _ _ _ _, b3.farQ (by omega) _ _ _ _, b4'.putQ b1 false false _ _ (by simp), b5'.putQ b1 false false _ _ (by simp), b6.putQ b1 false false _ _ (by simp), d1, dec_cop HM.out, ?_, ?_, ?_, hEb.putQ (Nat.le_refl _) _ _ _ _⟩
     ·show _ ≤ _
      have h1 := limbs_mul_small m (10 / Nat.gcd 10 e) (by omega)
      have h2 := HU.out.len.1
      have h3 := HLM.out
      omega
     ·show _ ≤ _
      have h1 := limbs_length_mono d2
      have h2 := HVV.out.len.1
      have h3 := HLE.out
      omega
     ·have := HDF.out; rw [decFrom, if_neg he1] at this; exact this
set_option maxRecDepth 100000 in
set_option maxHeartbeats 1600000 in
theorem decC : DecC := by
 intro q v v' w hp h h' hx hy
 obtain ⟨⟨s, xs⟩, ⟨t, ys⟩⟩ := q
 simp only at h h' hx hy ⊢
 cases hok : QI.ok ⟨⟨s, xs⟩, ⟨t, ys⟩⟩ with
 | false =>
  have HD : Hid (false = QI.dec ⟨⟨s, xs⟩, ⟨t, ys⟩⟩) := by show _ = _; rw [QI.dec, hok]; rfl
  have hV := fun w1 (hx' : Ext w w1) => rat_Valid (q := ⟨⟨s, xs⟩, ⟨t, ys⟩⟩) (h.ext hx') (h'.ext hx') (by simp only; omega) (by simp only; omega)
  rw [hok] at hV
  have HV := Lib.hid hV
  obtain ⟨A, c, rfl, hc, hc'⟩ := h.form
  obtain ⟨B, k, rfl, hk, hk'⟩ := h'.form
  have HBX := Lib.hid (BoxQ.new w s t (.slice A xs.length c) (.slice B ys.length k) 64 (by simp) (by simp))
  clear h h' hV hok hp
  generalize xs.length = n at *
  generalize ys.length = m at *
  obtain ⟨y0, y1, y2, y3, -⟩ := HBX.out
  go_enter Tryz.func233, Tryz.ntmps233
  go_wp2_with fail
  refine (HV.out _ (by repeat first|exact xA _|assumption|refine xB ?_ _|refine xC ?_|refine xD ?_ _|refine xE ?_ (by simp <;> omega) _|refine xF ?_ (by assumption))).mono ?_
  rintro e w1 ⟨rfl, hx1⟩
  go_wp2_with fail
  refine bodyPost_ret (v := .tuple #[.string ⟨#[]⟩, .bool false]) ?_ rfl ⟨_, by rw [← HD.out], (by repeat first|exact xA _|assumption|refine xB ?_ _|refine xC ?_|refine xD ?_ _|refine xE ?_ (by simp <;> omega) _|refine xF ?_ (by assumption))⟩
  simp [results, Tryz.results233, go_sem]
 | true =>
  obtain ⟨e1, e2, rfl, hd, hg, hs⟩ := dec_parts hok h.limb h'.limb
  rcases hs with hs | rfl
  ·have HD : Hid (false = QI.dec ⟨⟨s, xs⟩, ⟨false, ys⟩⟩) := by
    show _ = _
    have : decide (0 ≤ (⟨s, xs⟩ : ZI).sgn) = false := decide_eq_false (by omega)
    rw [QI.dec, hok]; simp only [this]; rfl
   have hV := fun w1 (hx' : Ext w w1) => rat_Valid (q := ⟨⟨s, xs⟩, ⟨false, ys⟩⟩) (h.ext hx') (h'.ext hx') (by simp only; omega) (by simp only; omega)
   rw [hok] at hV
   have HV := Lib.hid hV
   have HS := Lib.hid (fun w1 (hx : Ext w w1) => rat_Sign (q := ⟨⟨s, xs⟩, ⟨false, ys⟩⟩) (v' := v') (h.ext hx))
   obtain ⟨A, c, rfl, hc, hc'⟩ := h.form
   obtain ⟨B, k, rfl, hk, hk'⟩ := h'.form
   have HBX := Lib.hid (BoxQ.new w s false (.slice A xs.length c) (.slice B ys.length k) 64 (by simp) (by simp))
   clear h h' hV hok e1 e2 hg hp
   generalize xs.length = n at *
   generalize ys.length = m at *
   generalize (⟨s, xs⟩ : ZI).sgn = z at *
   obtain ⟨y0, y1, y2, y3, -⟩ := HBX.out
   go_enter Tryz.func233, Tryz.ntmps233
   go_wp2_with fail
   refine (HV.out _ (by repeat first|exact xA _|assumption|refine xB ?_ _|refine xC ?_|refine xD ?_ _|refine xE ?_ (by simp <;> omega) _|refine xF ?_ (by assumption))).mono ?_
   rintro e w1 ⟨rfl, hx1⟩
   clear y0 y1 y2 y3
   obtain ⟨y0, y1, y2, y3, -⟩ := HBX.out.ext hx1
   have hE1 : Ext w w1 := (by repeat first|exact xA _|assumption|refine xB ?_ _|refine xC ?_|refine xD ?_ _|refine xE ?_ (by simp <;> omega) _|refine xF ?_ (by assumption))
   go_wp2_with fail
   refine (HS.out _ (by repeat first|exact xA _|assumption|refine xB ?_ _|refine xC ?_|refine xD ?_ _|refine xE ?_ (by simp <;> omega) _|refine xF ?_ (by assumption))).mono ?_
   rintro e w2 ⟨rfl, hx2⟩
   go_wp2_with fail
   refine bodyPost_ret (v := .tuple #[.string ⟨#[]⟩, .bool false]) ?_ rfl ⟨_, by rw [← HD.out], hE1.trans hx2⟩
   simp [results, Tryz.results233, go_sem]
  ·have hdec : QI.dec ⟨⟨false, xs⟩, ⟨false, ys⟩⟩ = decFrom 41 0 (val xs) (val ys) := by
    have := dec_sgn (val xs)
    rw [e1] at this
    have : decide (0 ≤ (⟨false, xs⟩ : ZI).sgn) = true := decide_eq_true (by omega)
    rw [QI.dec, hok]; simp only [this]; rfl
   rw [hdec]
   have h1 := h
   have h1' := h'
   rw [← e1] at h1
   rw [← e2] at h1'
   exact decimal_prog h1 h1' hg hd (by rw [e1]; exact hx) (by rw [e2]; exact hy) hp
end Go.Proofs.YtmddjbmelajadaaGreatDoor
