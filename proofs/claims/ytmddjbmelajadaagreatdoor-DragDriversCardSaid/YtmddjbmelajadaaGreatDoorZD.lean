/- The statement DragDrivers: its walk. -/
import Derived.Test.YtmddjbmelajadaaGreatDoorYG
import Derived.Test.YtmddjbmelajadaaGreatDoorYJ
import Derived.Test.YtmddjbmelajadaaGreatDoorZC
import Derived.Test.YtmddjbmelajadaaGreatDoorYT
namespace Go.Proofs.YtmddjbmelajadaaGreatDoor
open Go Go.RowKit
set_option maxRecDepth 100000 in
set_option maxHeartbeats 3200000 in
theorem law_DragDrivers {l : List StI} {v0 v1 : Value} {w : World} (h : ArrAt 4 StR w v0 l) (ht : AwT w) :
  Calls Tryz.prog 3 #[.agg #[v0, v1]] w fun e w' => e = .returned (.bool true) ∧ Ext w w' := by
 obtain ⟨A0, c0, rfl, hl0, hm0⟩ := h.form
 have HBX := Lib.hid (CellsAt.new w [.slice A0 l.length c0, v1] 25)
 have HA := Lib.hid (fun w1 (hx : Ext w w1) => law_awake45 (ht.ext hx))
 have HD1 := Lib.hid (fun (hl : l.length ≤ 40) w1 (hx : Ext w w1) => drag_Drivers (v1 := v1) (h.ext StR.stable hx) hl)
 have HD2 := Lib.hid (fun (hl : l.length ≤ 40) w1 (hx : Ext w w1) => ref45_Drivers (v1 := v1) (h.ext StR.stable hx) hl)
 have HLE : Hid (l.length ≤ 40 → (sortC (dlOf l)).length ≤ 40) := fun hl => by have := sortC_len (dlOf l); have := dlOf_len l; omega
 rw [← drivers_eq] at HD2
 clear h ht
 generalize sortC (dlOf l) = L at *
 generalize l.length = m at *
 obtain ⟨y0, y1⟩ := HBX.out.twoI
 go_enter Tryz.func3, Tryz.ntmps3
 go_upto_region 1 with fail
 by_cases hm : m ≤ 40
 ·have hmd : decide ((40 : Int) < (m : Int)) = false := by simp; omega
  have HL := Lib.hid (HLE.out hm)
  have HE1 := Lib.hid (HD1.out hm)
  have HE2 := Lib.hid (HD2.out hm)
  go_wp2_with fail
  refine (HA.out _ (by repeat first|exact xA _|assumption|refine xB ?_ _|refine xC ?_|refine xD ?_ _|refine xE ?_ (by simp <;> omega) _|refine xF ?_ (by assumption))).mono ?_
  rintro e w1 ⟨rfl, hx1⟩
  have hE1 : Ext w w1 := Ext.trans (Ext.alloc _ _) hx1
  clear y0 y1
  obtain ⟨y0, y1⟩ := (HBX.out.ext hx1).twoI
  have hlt := (HBX.out.ext hx1).1
  go_upto_region 3 with fail
  go_cut [3, 4] (fun x y wx => ∃ A1 c1 A2 c2, x = .slice A1 L.length c1 ∧ y = .slice A2 L.length c2 ∧ Hid (Ints wx (.slice A1 L.length c1) L) ∧ Hid (Ints wx (.slice A2 L.length c2) L) ∧ Hid (Ext w1 wx))
  case first =>
   go_region_with (first
    | (go_at_call 5; refine (HE1.out _ (by repeat first|exact xA _|assumption|refine xB ?_ _|refine xC ?_|refine xD ?_ _|refine xE ?_ (by simp <;> omega) _|refine xF ?_ (by assumption))).mono ?_; rintro e w3 ⟨r, rfl, ⟨A1, c1, rfl, hL1⟩, hx3⟩; have HL1 := Lib.hid hL1; clear hL1; obtain ⟨x0, x1⟩ := (HBX.out.ext (w' := w3) (by repeat first|exact xA _|assumption|refine xB ?_ _|refine xC ?_|refine xD ?_ _|refine xE ?_ (by simp <;> omega) _|refine xF ?_ (by assumption))).twoI)
    | (go_at_call 6; refine (HE2.out _ (by repeat first|exact xA _|assumption|refine xB ?_ _|refine xC ?_|refine xD ?_ _|refine xE ?_ (by simp <;> omega) _|refine xF ?_ (by assumption))).mono ?_; rintro e w4 ⟨r, rfl, ⟨A2, c2, rfl, hL2⟩, hx4⟩; have HL2 := Lib.hid hL2; clear hL2; obtain ⟨x0, x1⟩ := (HBX.out.ext (w' := w4) (by repeat first|exact xA _|assumption|refine xB ?_ _|refine xC ?_|refine xD ?_ _|refine xE ?_ (by simp <;> omega) _|refine xF ?_ (by assumption))).twoI))
   all_goals
    go_wp2_with fail
    go_meet
    exact ⟨_, _, _, _, rfl, rfl, HL1.out.ext IntR.stable (by repeat first|exact xA _|assumption|refine xB ?_ _|refine xC ?_|refine xD ?_ _|refine xE ?_ (by simp <;> omega) _|refine xF ?_ (by assumption)), HL2.out.ext IntR.stable (by repeat first|exact xA _|assumption|refine xB ?_ _|refine xC ?_|refine xD ?_ _|refine xE ?_ (by simp <;> omega) _|refine xF ?_ (by assumption)), (by repeat first|exact xA _|assumption|refine xB ?_ _|refine xC ?_|refine xD ?_ _|refine xE ?_ (by simp <;> omega) _|refine xF ?_ (by assumption))⟩
  case rest =>
   obtain ⟨A1, c1, A2, c2, rfl, rfl, HL1, HL2, HX⟩ := hcut
   clear y0 y1
   obtain ⟨w3, hw3⟩ : ∃ x, x = wc := ⟨_, rfl⟩
   subst hw3
   have hE3 : Ext w w3 := Ext.trans hE1 HX.out
   have hLm := HL.out
   have hne : ((L.length : Int) != (L.length : Int)) = false := by simp
   have HC1 := Lib.hid (fun k (hk : k < L.length) => ints_cells HL1.out hk)
   have HC2 := Lib.hid (fun k (hk : k < L.length) => ints_cells HL2.out hk)
   go_wp2_with fail
   go_loopg [26] L.length (fun gk x wr => ∃ i : Nat, x = .int .i64 (i : Int) ∧ i + gk = L.length ∧ Hid (Ext w3 wr))
   case atStart => exact ⟨0, rfl, by omega, Ext.refl _⟩
   case round =>
    obtain ⟨k, rfl, hk, HEW⟩ := hrel
    have hEW := HEW.out
    by_cases hlk : k < L.length
    ·obtain ⟨b, off, rfl, hb, hcell⟩ := HC1.out _ hlk
     obtain ⟨b', off', rfl, hb', hcell'⟩ := HC2.out _ hlk
     have q1 := (hEW.cell (p := ⟨b, off + k, none⟩) hb).trans (hcell k hlk)
     have q2 := (hEW.cell (p := ⟨b', off' + k, none⟩) hb').trans (hcell' k hlk)
     have i1 : (k : Int) < (L.length : Int) := by omega
     have i0 : (0 : Int) ≤ (k : Int) := by omega
     clear hcell hcell'
     generalize L[k] = y at *
     have hyy : (y != y) = false := by simp
     go_wp2_with fail
     go_quiet (fail)
     go_wp2_with fail
     go_roundg (L.length - (k + 1))
     case measure => omega
     case rel => exact ⟨k + 1, by simp, by omega, hEW.pdrewN _⟩
    ·obtain rfl : k = L.length := by omega
     go_wp2_with fail
     go_ret
     exact ⟨rfl, Ext.trans hE3 hEW⟩
 ·have hmd : decide ((40 : Int) < (m : Int)) = true := by simp; omega
  go_wp2_with fail
  refine (HA.out _ (by repeat first|exact xA _|assumption|refine xB ?_ _|refine xC ?_|refine xD ?_ _|refine xE ?_ (by simp <;> omega) _|refine xF ?_ (by assumption))).mono ?_
  rintro e w1 ⟨rfl, hx1⟩
  have hE1 : Ext w w1 := Ext.trans (Ext.alloc _ _) hx1
  clear y0 y1
  obtain ⟨y0, y1⟩ := (HBX.out.ext hx1).twoI
  have hlt := (HBX.out.ext hx1).1
  go_wp2_with fail
  refine (HA.out _ hE1).mono ?_
  rintro e w2 ⟨rfl, hx2⟩
  go_wp2_with fail
  go_ret
  exact ⟨rfl, Ext.trans hE1 hx2⟩
end Go.Proofs.YtmddjbmelajadaaGreatDoor
namespace Go.Proofs.YtmddjbmelajadaaGreatDoor
open Go Go.RowKit Go.ChangeShapes Go.WideShapes Go.Deep
theorem cSt : Tryz.prog.cellsOf 53 = 4 := by kernel_rfl
theorem cSts : Tryz.prog.cellsOf 22 = 1 := by kernel_rfl
theorem cPl : Tryz.prog.cellsOf 25 = 2 := by kernel_rfl
instance : Inhabited StI := ⟨⟨0, 0⟩⟩
section
variable {H : Type} {enc : TypeId × Value → H} {w : World}
theorem st_read {n : Nat} {cs : List Value} {x : DataW H × List MemPlace} (h : TR enc w n 53 cs = some x) (hw : Fits (x.1.weights Tryz.prog 53)) : ∃ p, StR w cs p := by
 obtain ⟨xs, m, rfl, rfl, hl, hxl, hf⟩ := DataW.trod_struct Tryz.underlying53 h
 rw [cSt] at hl
 obtain ⟨a0, a1, a2, a3, rfl⟩ := four_of hl
 obtain ⟨x0, x1, x2, x3, rfl⟩ := four_of hxl
 have h0 : TR enc w m 3 ((([a0, a1, a2, a3] : List Value).drop 0).take (Tryz.prog.cellsOf 3)) = some x0 := by have h := hf 0 _ rfl; exact h
 rw [cInt] at h0
 change TR enc w m 3 [a0] = some x0 at h0
 have h1 : TR enc w m 3 ((([a0, a1, a2, a3] : List Value).drop 1).take (Tryz.prog.cellsOf 3)) = some x1 := by have h := hf 1 _ rfl; exact h
 rw [cInt] at h1
 change TR enc w m 3 [a1] = some x1 at h1
 have h2 : TR enc w m 23 ((([a0, a1, a2, a3] : List Value).drop 2).take (Tryz.prog.cellsOf 23)) = some x2 := by have h := hf 2 _ rfl; exact h
 rw [cInts] at h2
 change TR enc w m 23 [a2] = some x2 at h2
 have h3 : TR enc w m 3 ((([a0, a1, a2, a3] : List Value).drop 3).take (Tryz.prog.cellsOf 3)) = some x3 := by have h := hf 3 _ rfl; exact h
 rw [cInt] at h3
 change TR enc w m 3 [a3] = some x3 at h3
 simp only [DataW.weights, Tryz.underlying53, List.map_cons, List.map_nil, DataW.weightsEach] at hw
 obtain ⟨k0, e0⟩ := int_read h0
 obtain ⟨k1, e1⟩ := int_read h1
 obtain ⟨v2, l2, e2, i2⟩ := ints_read h2 hw.right.right.left
 obtain ⟨k3, e3⟩ := int_read h3
 obtain ⟨A, c, rfl, -, -⟩ := i2.form
 simp only [List.cons.injEq, and_true] at e0 e1 e2 e3
 subst e0 e1 e2 e3
 exact ⟨⟨k0, k1⟩, _, _, _, _, rfl⟩
theorem pl_read {n : Nat} {cs : List Value} {x : DataW H × List MemPlace} (h : TR enc w n 25 cs = some x) (hw : Fits (x.1.weights Tryz.prog 25)) : ∃ v0 v1 s, cs = [v0, v1] ∧ ArrAt 4 StR w v0 s ∧ ∃ A n c, v1 = .slice A n c := by
 obtain ⟨xs, m, rfl, rfl, hl, hxl, hf⟩ := DataW.trod_struct Tryz.underlying25 h
 rw [cPl] at hl
 obtain ⟨a0, a1, rfl⟩ := two_of hl
 obtain ⟨x0, x1, rfl⟩ := two_of hxl
 have h0 : TR enc w m 22 ((([a0, a1] : List Value).drop 0).take (Tryz.prog.cellsOf 22)) = some x0 := by have h := hf 0 _ rfl; exact h
 rw [cSts] at h0
 change TR enc w m 22 [a0] = some x0 at h0
 have h1 : TR enc w m 23 ((([a0, a1] : List Value).drop 1).take (Tryz.prog.cellsOf 23)) = some x1 := by have h := hf 1 _ rfl; exact h
 rw [cInts] at h1
 change TR enc w m 23 [a1] = some x1 at h1
 simp only [DataW.weights, Tryz.underlying25, List.map_cons, List.map_nil, DataW.weightsEach] at hw
 obtain ⟨v0, l0, e0, i0, -⟩ := arr_read (R := StR) (sz := 4) (bytes := 48) Tryz.underlying22 cSt (by omega) (by kernel_rfl) (by omega) h0 hw.left (fun m' ds y hm' _ hy hwy => st_read hy hwy)
 obtain ⟨v1, l1, e1, i1⟩ := ints_read h1 hw.right.left
 obtain ⟨A, c, rfl, -, -⟩ := i1.form
 simp only [List.cons.injEq, and_true] at e0 e1
 subst e0 e1
 exact ⟨_, _, l0, rfl, i0, _, _, _, rfl⟩
end
end Go.Proofs.YtmddjbmelajadaaGreatDoor
