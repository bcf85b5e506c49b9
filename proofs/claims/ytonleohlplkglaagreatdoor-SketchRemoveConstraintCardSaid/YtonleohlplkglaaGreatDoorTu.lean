/- Contract: Decimal of the reference's layer 22, the walk. -/
import Derived.Test.YtonleohlplkglaaGreatDoorTt
namespace Go.Proofs.YtonleohlplkglaaGreatDoor
open Go Go.RowKit

/-- A store of a rational number into a box. -/
def putQ (w : World) (g : Nat) (s : Bool) (u : Value) (t : Bool) (v : Value) : World := (((w.setCell ⟨g, 0, none⟩ (.bool s)).setCell ⟨g, 1, none⟩ u).setCell ⟨g, 2, none⟩ (.bool t)).setCell ⟨g, 3, none⟩ v
theorem cell_putQ {w : World} {g b o : Nat} (s : Bool) (u : Value) (t : Bool) (v : Value) (h : b ≠ g) : (putQ w g s u t v).cell? ⟨b, o, none⟩ = w.cell? ⟨b, o, none⟩ := by
  have e : ∀ (w : World) i x, (w.setCell ⟨g, i, none⟩ x).cell? ⟨b, o, none⟩ = w.cell? ⟨b, o, none⟩ := fun w i x => World.cell?_setCell_other _ _ _ _ (by intro e; injection e with e1 _ _; exact h e1.symm)
  unfold putQ
  rw [e, e, e, e]
theorem BoxQ.put {w : World} {g : Nat} {s t : Bool} {u v : Value} (h : BoxQ w g s u t v) (s' t' : Bool) {u' v' : Value} (hu : ∀ n, u' ≠ .int .u32 n) (hv : ∀ n, v' ≠ .int .u32 n) : BoxQ (putQ w g s' u' t' v') g s' u' t' v' := by
  obtain ⟨h0, h1, h2, h3, f0, f1, f2, f3, h4, h5⟩ := h
  unfold putQ
  refine ⟨?_, ?_, ?_, ?_, ?_, ?_, ?_, ?_, ?_, ?_⟩
  · rw [World.cell?_setCell_other _ _ _ _ (by simp), World.cell?_setCell_other _ _ _ _ (by simp), World.cell?_setCell_other _ _ _ _ (by simp)]
    exact World.cell?_setCell_same _ _ _ h0
  · rw [World.cell?_setCell_other _ _ _ _ (by simp), World.cell?_setCell_other _ _ _ _ (by simp)]
    exact World.cell?_setCell_same _ _ _ ((World.cell?_setCell_other _ _ _ _ (by simp)).trans h1)
  · rw [World.cell?_setCell_other _ _ _ _ (by simp)]
    exact World.cell?_setCell_same _ _ _ ((World.cell?_setCell_other _ _ _ _ (by simp)).trans ((World.cell?_setCell_other _ _ _ _ (by simp)).trans h2))
  · exact World.cell?_setCell_same _ _ _ ((World.cell?_setCell_other _ _ _ _ (by simp)).trans ((World.cell?_setCell_other _ _ _ _ (by simp)).trans ((World.cell?_setCell_other _ _ _ _ (by simp)).trans h3)))
  · simpa [go_sem] using f0
  · simpa [go_sem] using f1
  · simpa [go_sem] using f2
  · simpa [go_sem] using f3
  · simpa [World.setCell] using h4
  · exact (((h5.set_ 0 (by simp)).set_ 1 hu).set_ 2 (by simp)).set_ 3 hv
theorem BoxQ.farQ {w : World} {g h : Nat} {s t : Bool} {u v : Value} (hb : BoxQ w g s u t v) (hne : g ≠ h) (s' t' : Bool) (x y : Value) : BoxQ (putQ w h s' x t' y) g s u t v := by
  obtain ⟨h0, h1, h2, h3, f0, f1, f2, f3, h4, h5⟩ := hb
  refine ⟨(cell_putQ _ _ _ _ hne).trans h0, (cell_putQ _ _ _ _ hne).trans h1, (cell_putQ _ _ _ _ hne).trans h2, (cell_putQ _ _ _ _ hne).trans h3, ?_, ?_, ?_, ?_, ?_, fun j n => by rw [cell_putQ _ _ _ _ hne]; exact h5 j n⟩
  · simpa [putQ, go_sem] using f0
  · simpa [putQ, go_sem] using f1
  · simpa [putQ, go_sem] using f2
  · simpa [putQ, go_sem] using f3
  · simpa [putQ, World.setCell] using h4
theorem BoxI.farQ {w : World} {g h : Nat} {s : Bool} {u : Value} (hb : BoxI w g s u) (hne : g ≠ h) (s' t' : Bool) (x y : Value) : BoxI (putQ w h s' x t' y) g s u := by
  obtain ⟨h0, h1, f0, f1, h4, h5⟩ := hb
  refine ⟨(cell_putQ _ _ _ _ hne).trans h0, (cell_putQ _ _ _ _ hne).trans h1, ?_, ?_, ?_, fun j n => by rw [cell_putQ _ _ _ _ hne]; exact h5 j n⟩
  · simpa [putQ, go_sem] using f0
  · simpa [putQ, go_sem] using f1
  · simpa [putQ, World.setCell] using h4
theorem Words.putQ {w : World} {g : Nat} {s t : Bool} {u v x : Value} {xs : List Nat} (h : Words w x xs) (hb : BoxQ w g s u t v) (s' t' : Bool) (u' v' : Value) (hu : ∀ n, u' ≠ .int .u32 n) : Words (putQ w g s' u' t' v') x xs := by
  obtain ⟨_, _, _, _, _, _, _, _, _, hn⟩ := hb
  exact (((h.box hn _ _).box (hn.set_ _ (by simp)) _ _).box ((hn.set_ _ (by simp)).set_ _ hu) _ _).box (((hn.set_ _ (by simp)).set_ _ hu).set_ _ (by simp)) _ _
theorem Ext.putQ {w w' : World} (h : Ext w w') {g : Nat} (hg : w.heap.size ≤ g) (s t : Bool) (u v : Value) : Ext w (putQ w' g s u t v) :=
  (((h.pset (by simpa using hg) _).pset (by simpa using hg) _).pset (by simpa using hg) _).pset (by simpa using hg) _

theorem dec_ok {n d : Nat} (hg : Nat.gcd n d = 1) (hd : 0 < d) : QI.ok ⟨⟨false, limbs n⟩, ⟨false, limbs d⟩⟩ = true := by
  have h1 : 0 < (limbs d).length := by rw [limbs_pos (by omega)]; simp
  have h2 : limbs d ≠ [] := by intro e; rw [e] at h1; simp at h1
  simp [QI.ok, ZI.ok, ZI.sgn, trimL_limbs, val_limbs, hg, sgnW, h2]
theorem dec_sgn (n : Nat) : ¬ ((⟨false, limbs n⟩ : ZI).sgn < 0) := by
  simp only [ZI.sgn, sgnW]
  split
  · omega
  · split
    · rename_i h; cases h
    · omega

set_option maxRecDepth 100000 in
set_option maxHeartbeats 3200000 in
theorem decimal_main {v v' : Value} {n d : Nat} {w : World} (h : Words w v (limbs n)) (h' : Words w v' (limbs d)) (hg : Nat.gcd n d = 1) (hd : 0 < d) (hl : (limbs n).length ≤ 1000) (hl' : (limbs d).length ≤ 1000) :
    Calls Tryz.prog 191 #[.agg #[.bool false, v, .bool false, v']] w fun e w' => (∃ s, e = .returned (.tuple #[.string s, .bool (decFrom 41 0 n d)])) ∧ Ext w w' := by
  obtain ⟨A, c, rfl, hc, hc'⟩ := h.form
  obtain ⟨B, k, rfl, hk, hk'⟩ := h'.form
  have hV := fun w1 (hx : Ext w w1) => ref02_Valid (q := ⟨⟨false, limbs n⟩, ⟨false, limbs d⟩⟩) (h.ext hx) (h'.ext hx) (by simp only; omega) (by simp only; omega)
  rw [dec_ok hg hd] at hV
  have HV := Lib.hid hV
  have HS := Lib.hid (fun w1 (hx : Ext w w1) => ref02_Sign (q := ⟨⟨false, limbs n⟩, ⟨false, limbs d⟩⟩) (v' := .slice B (limbs d).length k) (h.ext hx))
  have hZ := dec_sgn n
  have HBX := Lib.hid (BoxQ.new w false false (.slice A (limbs n).length c) (.slice B (limbs d).length k) 38 (by simp) (by simp))
  have HH := Lib.hid (And.intro h h')
  have HG := Lib.hid hg
  have HL := Lib.hid (And.intro hl hl')
  clear h h' hV hg hl hl'
  generalize (limbs n).length = ln at *
  generalize (limbs d).length = ld at *
  generalize (⟨false, limbs n⟩ : ZI).sgn = z at *
  go_enter Tryz.func191, Tryz.ntmps191
  go_wp2_with fail
  refine (HV.out _ (by repeat (first | exact Ext.refl _ | assumption | refine Ext.pdrewN ?_ _ | refine Ext.pdrew ?_ | refine Ext.palloc ?_ _ | refine Ext.pset ?_ (by simp <;> omega) _ | refine Ext.trans ?_ (by assumption)))).mono ?_
  rintro e w1 ⟨rfl, hx1⟩
  have HBX1 := Lib.hid (HBX.out.ext hx1)
  have hE1 : Ext w w1 := (by repeat (first | exact Ext.refl _ | assumption | refine Ext.pdrewN ?_ _ | refine Ext.pdrew ?_ | refine Ext.palloc ?_ _ | refine Ext.pset ?_ (by simp <;> omega) _ | refine Ext.trans ?_ (by assumption)))
  clear HBX HV
  obtain ⟨y0, y1, y2, y3, -⟩ := HBX1.out
  go_wp2_with fail
  refine (HS.out _ (by repeat (first | exact Ext.refl _ | assumption | refine Ext.pdrewN ?_ _ | refine Ext.pdrew ?_ | refine Ext.palloc ?_ _ | refine Ext.pset ?_ (by simp <;> omega) _ | refine Ext.trans ?_ (by assumption)))).mono ?_
  rintro e w2 ⟨rfl, hx2⟩
  have HBX2 := Lib.hid (HBX1.out.ext hx2)
  have hE2 : Ext w w2 := hE1.trans hx2
  clear HBX1 HS y0 y1 y2 y3
  go_wp2_with fail
  refine (ref02_FromInt 10 (by omega) _).mono ?_
  rintro e w3 ⟨x, rfl, ⟨u1, u2, rfl, hu1, hu2⟩, hx3⟩
  obtain ⟨A1, c1, rfl, hl1, hm1⟩ := hu1.form
  obtain ⟨A2, c2, rfl, hl2, hm2⟩ := hu2.form
  have HU := Lib.hid (And.intro hu1 hu2)
  have hx3' : Ext w2 w3 := hx3
  have hE3 : Ext w w3 := hE2.trans hx3'
  have HBX3 := Lib.hid (HBX2.out.ext hx3')
  clear hu1 hu2 hx3 hx3' hx1 hx2 hE1 hE2 HBX2
  generalize (limbs 10).length = la at *
  generalize (limbs 1).length = lb at *
  go_wp2_with fail
  have HB4 := Lib.hid (BoxQ.new w3 false false (.slice A1 la c1) (.slice A2 lb c2) 38 (by simp) (by simp))
  have hE34 := Ext.alloc w3 (.cells #[.bool false, .slice A1 la c1, .bool false, .slice A2 lb c2] 38)
  have HW4 := Lib.hid (And.intro (HU.out.1.ext hE34) (HU.out.2.ext hE34))
  have hs4 : (w3.alloc (.cells #[.bool false, .slice A1 la c1, .bool false, .slice A2 lb c2] 38)).heap.size = w3.heap.size + 1 := by simp
  generalize w3.alloc (.cells #[.bool false, .slice A1 la c1, .bool false, .slice A2 lb c2] 38) = w4 at *
  clear HU
  refine (ref01_FromInt 1 (by omega) _).mono ?_
  rintro e w5 ⟨x, rfl, ⟨u5, rfl, hu5⟩, hx5⟩
  obtain ⟨A5, c5, rfl, hl5, hm5⟩ := hu5.form
  have HU5 := Lib.hid hu5
  have hx5' : Ext w4 w5 := hx5
  have hE5 : Ext w w5 := (hE3.trans hE34).trans hx5'
  have HBX5 := Lib.hid (HBX3.out.ext (hE34.trans hx5'))
  have HB5 := Lib.hid (HB4.out.ext hx5')
  have HW5 := Lib.hid (And.intro (HW4.out.1.ext hx5') (HW4.out.2.ext hx5'))
  have hb4 : w.heap.size ≤ w3.heap.size := hE3.size
  have hb5 : w3.heap.size < w5.heap.size := by have := hx5'.size; omega
  clear hu5 hx5 hx5' HBX3 HB4 HW4 hE34 hs4 hE3
  generalize w3.heap.size = b4 at *
  generalize (limbs 1).length = lc at *
  have hE56 := Ext.alloc w5 (.cells #[.bool false, .slice A5 lc c5] 36)
  have hE67 := Ext.alloc (w5.alloc (.cells #[.bool false, .slice A5 lc c5] 36)) (.cells #[.bool false, .slice A ln c, .bool false, .slice B ld k] 38)
  obtain ⟨y0, y1, y2, y3, -⟩ := HBX5.out.ext hE56
  have hE57 := hE56.trans hE67
  have hE7 := hE5.trans hE57
  have HB7 := Lib.hid (HB5.out.ext hE57)
  have HI7 := Lib.hid ((BoxI.new w5 false (.slice A5 lc c5) 36 (by simp)).ext hE67)
  have HX7 := Lib.hid (BoxQ.new (w5.alloc (.cells #[.bool false, .slice A5 lc c5] 36)) false false (.slice A ln c) (.slice B ld k) 38 (by simp) (by simp))
  have HW7 := Lib.hid (And.intro (HW5.out.1.ext hE57) (And.intro (HW5.out.2.ext hE57) (And.intro (HU5.out.ext hE57) (And.intro (HH.out.1.ext hE7) (HH.out.2.ext hE7)))))
  rw [World.size_alloc] at HX7
  go_wp2_with fail
  clear hE56 hE67 y0 y1 y2 y3 HB5 HU5 HW5 HBX5 hE5 hE57 HH
  generalize (w5.alloc (.cells #[.bool false, .slice A5 lc c5] 36)).alloc (.cells #[.bool false, .slice A ln c, .bool false, .slice B ld k] 38) = w7 at *
  generalize w5.heap.size = b5 at *
  have HMD : Hid (n = 0 → d = 1) := fun h => by have := HG.out; rw [h, Nat.gcd_zero_left] at this; exact this
  go_loopg [7] 41 (fun gk x wr => ∃ (p m e : Nat) (u v : Value), x = .int .i64 (p : Int) ∧ p + gk = 41 ∧ Hid (BoxQ wr (b5 + 1) false u false v) ∧ Hid (Words wr u (limbs m)) ∧ Hid (Words wr v (limbs e)) ∧
    Hid (BoxQ wr b4 false (.slice A1 la c1) false (.slice A2 lb c2)) ∧ Hid (BoxI wr b5 false (.slice A5 lc c5)) ∧ Hid (Words wr (.slice A1 la c1) (limbs 10)) ∧ Hid (Words wr (.slice A2 lb c2) (limbs 1)) ∧ Hid (Words wr (.slice A5 lc c5) (limbs 1)) ∧
    0 < e ∧ Hid (m = 0 → e = 1) ∧ Hid ((limbs m).length ≤ 1000 + p) ∧ Hid ((limbs e).length ≤ 1000) ∧ Hid (decFrom gk p m e = decFrom 41 0 n d) ∧ Ext w wr)
  case atStart => exact ⟨0, n, d, _, _, rfl, by omega, HX7, HW7.out.2.2.2.1, HW7.out.2.2.2.2, HB7, HI7, HW7.out.1, HW7.out.2.1, HW7.out.2.2.1, hd, HMD, (by show _ ≤ _; have := HW7.out.2.2.2.1.len.1; have := HL.out.1; omega), (by show _ ≤ _; have := HW7.out.2.2.2.2.len.1; have := HL.out.2; omega), rfl, hE7⟩
  case round =>
    obtain ⟨p, m, e, u, v, rfl, hp, HQ, HU, HVV, HT, HO, HT1, HT2, HO1, he, HM, HLM, HLE, HDF, hE⟩ := hrel
    obtain ⟨A6, c6, rfl, hl6, hm6⟩ := HU.out.form
    obtain ⟨A7, c7, rfl, hl7, hm7⟩ := HVV.out.form
    generalize (limbs m).length = lm at *
    generalize (limbs e).length = le at *
    match gk, hp, HDF with
    | 0, hp, HDF =>
      have hp : p = 41 := by omega
      subst hp
      go_wp2_with fail
      have hdf : false = decFrom 41 0 n d := HDF.out
      refine bodyPost_ret (v := .tuple #[.string ⟨#[]⟩, .bool false]) ?_ rfl ⟨⟨_, by rw [← hdf]⟩, hE⟩
      simp [results, Tryz.results191, go_sem]
    | g + 1, hp, HDF =>
      have hp1 : p ≤ 40 := by omega
      obtain ⟨y0, y1, y2, y3, f0, f1, f2, f3, -⟩ := HQ.out
      obtain ⟨z0, z1, -⟩ := HO.out
      obtain ⟨x0, x1, x2, x3, -⟩ := HT.out
      by_cases he1 : e = 1
      · have hS := ref01_Same HVV.out HO1.out
        rw [decide_eq_true he1] at hS
        have HS := Lib.hid hS
        clear hS
        go_wp2_with fail
        refine HS.out.mono ?_
        rintro e' wa ⟨rfl, hxa⟩
        have hEa := hE.trans hxa
        have HF := Lib.hid (ref01_Format (HU.out.ext hxa) (by have := ndig_limbs m; have := HU.out.len.1; have := HLM.out; omega))
        have HQa := Lib.hid (HQ.out.ext hxa)
        have HNM : Hid (ndig m ≤ 100000) := by show _ ≤ _; have := ndig_limbs m; have := HU.out.len.1; have := HLM.out; omega
        clear y0 y1 y2 y3 f0 f1 f2 f3 z0 z1 x0 x1 x2 x3 HS HO HT HT1 HT2 HO1 HQ
        obtain ⟨y0, y1, y2, y3, f0, f1, f2, f3, -⟩ := HQa.out
        go_wp2_with fail
        refine HF.out.mono ?_
        rintro e' wb ⟨⟨s, rfl, hs⟩, hxb⟩
        have hEb := hEa.trans hxb
        have HSS := Lib.hid hs
        have hdf : decide (decLen m p ≤ 40) = decFrom 41 0 n d := by have := HDF.out; rw [decFrom, if_pos he1] at this; exact this
        have HDD := Lib.hid hdf
        clear hs hdf HDF HF HQa hxa hxb hEa hE y0 y1 y2 y3 f0 f1 f2 f3
        go_wp2_with fail
        go_loopg [8] (p + 1 - s.size) (fun g2 x wr2 => ∃ t : ByteArray, x = .string t ∧ Hid (g2 = p + 1 - t.size) ∧ Hid (max t.size (p + 1) = max s.size (p + 1)) ∧ wr2 = wb)
        case atStart => exact ⟨s, rfl, rfl, rfl, rfl⟩
        case round =>
          obtain ⟨t, rfl, HG2, HMX, rfl⟩ := hrel
          have hts : t.size ≤ 200000 := by have := HMX.out; have := HSS.out; have := HNM.out; omega
          by_cases htp : t.size ≤ p
          · have hz1 : (ByteArray.mk #[48]).size = 1 := rfl
            go_wp2_with fail
            go_roundg (p - t.size)
            case measure => have := HG2.out; omega
            case rel =>
              refine ⟨_, rfl, ?_, ?_, rfl⟩
              · show p - t.size = p + 1 - (_ ++ t : ByteArray).size
                rw [ByteArray.size_append, hz1]; omega
              · show max (_ ++ t : ByteArray).size (p + 1) = _
                rw [← HMX.out, ByteArray.size_append, hz1]; omega
          · have HTS : Hid (t.size = max (max 1 (ndig m)) (p + 1)) := by show _ = _; have := HMX.out; have := HSS.out; omega
            rcases Nat.eq_zero_or_pos p with hp0 | hp0
            · have HP0 := Lib.hid hp0
              have hpn : ¬ (0 < p) := by omega
              clear hp0
              go_wp2_with fail
              refine bodyPost_ret (v := .tuple #[.string t, .bool (decide ((t.size : Int) ≤ 40))]) ?_ rfl ⟨⟨t, ?_⟩, hEb⟩
              · simp [results, Tryz.results191, go_sem]
              · rw [← HDD.out]
                have e1 : decLen m p = t.size := by rw [HTS.out, decLen, if_pos HP0.out, Nat.add_zero]
                have e2 : decide ((t.size : Int) ≤ 40) = decide (decLen m p ≤ 40) := by rw [e1]; apply decide_eq_decide.2; omega
                rw [e2]
            · have HP0 := Lib.hid hp0
              have hsub1 : ¬ ((t.size : Int) - (p : Int) < 0) := by omega
              have hsub2 : (t.size : Int) - (p : Int) ≤ t.size := by omega
              have HS2 : Hid ((t.extract 0 (t.size - p) ++ ⟨#[46]⟩ ++ t.extract (t.size - p) t.size).size = t.size + 1) := by
                show _ = _
                rw [ByteArray.size_append, ByteArray.size_append, ByteArray.size_extract, ByteArray.size_extract]
                have : (ByteArray.mk #[46]).size = 1 := rfl
                omega
              go_wp2_with fail
              go_region
              generalize t.extract 0 (t.size - p) ++ ⟨#[46]⟩ ++ t.extract (t.size - p) t.size = t2 at *
              have hs2 : t2.size ≤ 300000 := by have := HS2.out; omega
              go_wp2_with fail
              refine bodyPost_ret (v := .tuple #[.string t2, .bool (decide ((t2.size : Int) ≤ 40))]) ?_ rfl ⟨⟨t2, ?_⟩, hEb.trans (Ext.drew _)⟩
              · simp [results, Tryz.results191, go_sem]
              · rw [← HDD.out]
                have e1 : decLen m p = t2.size := by have := HP0.out; rw [HS2.out, HTS.out, decLen, if_neg (by omega)]
                have e2 : decide ((t2.size : Int) ≤ 40) = decide (decLen m p ≤ 40) := by rw [e1]; apply decide_eq_decide.2; omega
                rw [e2]
      · have hS := ref01_Same HVV.out HO1.out
        rw [decide_eq_false he1] at hS
        have HS := Lib.hid hS
        clear hS
        have hm0 : 0 < m := by
          rcases Nat.eq_zero_or_pos m with h0 | h0
          · exact absurd (HM.out h0) he1
          · exact h0
        go_wp2_with fail
        refine HS.out.mono ?_
        rintro e' wa ⟨rfl, hxa⟩
        have hEa := hE.trans hxa
        have HK := Lib.hid (mul_ten (HU.out.ext hxa) (HVV.out.ext hxa) (HT1.out.ext hxa) (HT2.out.ext hxa) (by omega) hm0 (by have := HU.out.len.1; have := HLM.out; omega) (by have := HVV.out.len.1; have := HLE.out; omega))
        have HALL := Lib.hid (And.intro (HQ.out.ext hxa) (And.intro (HT.out.ext hxa) (And.intro (HO.out.ext hxa) (And.intro (HT1.out.ext hxa) (And.intro (HT2.out.ext hxa) (HO1.out.ext hxa))))))
        clear y0 y1 y2 y3 f0 f1 f2 f3 z0 z1 x0 x1 x2 x3 HS HO HT HT1 HT2 HO1 HQ
        obtain ⟨⟨y0, y1, y2, y3, f0, f1, f2, f3, -⟩, ⟨x0, x1, x2, x3, -⟩, -⟩ := HALL.out
        go_wp2_with fail
        refine HK.out.mono ?_
        rintro e' wb ⟨x, rfl, ⟨ua, va, rfl, hua, hva⟩, hxb⟩
        obtain ⟨A8, c8, rfl, hl8, hm8⟩ := hua.form
        obtain ⟨A9, c9, rfl, hl9, hm9⟩ := hva.form
        have HUV := Lib.hid (And.intro hua hva)
        have hxb' : Ext wa wb := hxb
        have hEb := hEa.trans hxb'
        have HALb := Lib.hid (And.intro (HALL.out.1.ext hxb') (And.intro (HALL.out.2.1.ext hxb') (And.intro (HALL.out.2.2.1.ext hxb') (And.intro (HALL.out.2.2.2.1.ext hxb') (And.intro (HALL.out.2.2.2.2.1.ext hxb') (HALL.out.2.2.2.2.2.ext hxb'))))))
        clear hua hva hxb hxb' HALL HK y0 y1 y2 y3 f0 f1 f2 f3 x0 x1 x2 x3 hxa hEa hE
        generalize hg8 : (limbs (m * (10 / Nat.gcd 10 e))).length = l8 at *
        generalize hg9 : (limbs (e / Nat.gcd 10 e)).length = l9 at *
        have HG8 := Lib.hid hg8
        have HG9 := Lib.hid hg9
        clear hg8 hg9
        obtain ⟨⟨y0, y1, y2, y3, f0, f1, f2, f3, -⟩, -⟩ := HALb.out
        go_wp2_with fail
        go_roundg g
        case measure => omega
        case rel =>
          obtain ⟨b1, b2, b3, b4', b5', b6⟩ := HALb.out
          obtain ⟨t1, t2⟩ := ten_div e
          obtain ⟨d1, d2⟩ := den_div he
          refine ⟨p + 1, m * (10 / Nat.gcd 10 e), e / Nat.gcd 10 e, .slice A8 l8 c8, .slice A9 l9 c9, by simp, by omega, b1.put false false (by simp) (by simp), HUV.out.1.putQ b1 false false _ _ (by simp), HUV.out.2.putQ b1 false false _ _ (by simp),
            b2.farQ (by omega) _ _ _ _, b3.farQ (by omega) _ _ _ _, b4'.putQ b1 false false _ _ (by simp), b5'.putQ b1 false false _ _ (by simp), b6.putQ b1 false false _ _ (by simp), d1, ?_, ?_, ?_, ?_, hEb.putQ (by omega) _ _ _ _⟩
          · intro h0
            have : 0 < m * (10 / Nat.gcd 10 e) := Nat.mul_pos hm0 t1
            omega
          · show _ ≤ _
            have h1 := limbs_mul_small m (10 / Nat.gcd 10 e) (by omega)
            have h2 := HU.out.len.1
            have h3 := HLM.out
            omega
          · show _ ≤ _
            have h1 := limbs_length_mono d2
            have h2 := HVV.out.len.1
            have h3 := HLE.out
            omega
          · have := HDF.out; rw [decFrom, if_neg he1] at this; exact this
end Go.Proofs.YtonleohlplkglaaGreatDoor
