/- The statements' own functions awake and valid. -/
import Derived.Test.YtonleohlplkglaaGreatDoorQW
import Derived.Test.YtonleohlplkglaaGreatDoorQR
import Derived.Test.YtonleohlplkglaaGreatDoorQU
import Derived.Test.YtonleohlplkglaaGreatDoorQT
import Derived.Test.YtonleohlplkglaaGreatDoorQS
namespace Go.Proofs.YtonleohlplkglaaGreatDoor
open Go Go.RowKit

/-- A small and valid sketch. -/
def vld (K : Nat) (s : SkI) : Bool := smallB K s && decide (errS 61 s = 0)
structure GoodS (s : SkI) : Prop where
  few : headS s = true
  small : SmallS 61 s
  ok : okS 61 s = true
theorem vld_good {K : Nat} {s : SkI} (h : vld K s = true) : GoodS s := by
  unfold vld at h
  rw [Bool.and_eq_true] at h
  obtain ⟨h1, h2⟩ := h
  have h2 := of_decide_eq_true h2
  refine ⟨?_, SmallS.of_B h1, ?_⟩
  · unfold smallB at h1
    simp only [Bool.and_eq_true] at h1
    exact h1.1.1.1.1
  · unfold errS at h2
    split at h2
    · cases h2
    · split at h2
      · assumption
      · cases h2

set_option maxHeartbeats 1600000 in
theorem law_valid {K : Nat} {s : SkI} {v0 v1 v2 v3 v4 v5 : Value} {w : World} (h : SkAt K w v0 v1 v2 v3 v4 v5 s) :
    Calls Tryz.prog 14 #[.agg #[v0, v1, v2, v3, v4, v5]] w fun e w' => e = .returned (.bool (vld K s)) ∧ Ext w w' := by
  have HBX := Lib.hid (CellsAt.new w [v0, v1, v2, v3, v4, v5] 29)
  have HS := Lib.hid (fun w1 (hx : Ext w w1) => ref26_Small (h.ext hx))
  have HV := Lib.hid (fun (hs : smallB K s = true) w1 (hx : Ext w w1) => ref26_Valid (K := 61) (by omega) ((h.ext hx).lower (SmallS.of_B hs)) (SmallS.of_B hs))
  have HE : Hid (vld K s = (smallB K s && decide (errS 61 s = 0))) := rfl
  clear h
  generalize smallB K s = sm at *
  generalize vld K s = r at *
  generalize errS 61 s = er at *
  obtain ⟨y0, y1, y2, y3, y4, y5⟩ := HBX.out.six
  go_enter Tryz.func14, Tryz.ntmps14
  go_wp2_with fail
  refine (HS.out _ (Ext.alloc _ _)).mono ?_
  rintro e w1 ⟨rfl, hx1⟩
  cases sm with
  | false =>
    go_wp2_with fail
    go_ret
    exact ⟨by rw [HE.out]; rfl, (by repeat (first | exact Ext.refl _ | assumption | refine Ext.pdrewN ?_ _ | refine Ext.pdrew ?_ | refine Ext.palloc ?_ _ | refine Ext.pset ?_ (by simp <;> omega) _ | refine Ext.trans ?_ (by assumption)))⟩
  | true =>
    clear y0 y1 y2 y3 y4 y5
    obtain ⟨y0, y1, y2, y3, y4, y5⟩ := (HBX.out.ext hx1).six
    have hlt1 := (HBX.out.ext hx1).1
    go_wp2_with fail
    refine (HV.out trivial _ (by repeat (first | exact Ext.refl _ | assumption | refine Ext.pdrewN ?_ _ | refine Ext.pdrew ?_ | refine Ext.palloc ?_ _ | refine Ext.pset ?_ (by simp <;> omega) _ | refine Ext.trans ?_ (by assumption)))).mono ?_
    rintro e w2 ⟨rfl, hx2⟩
    go_wp2_with fail
    go_ret
    refine ⟨?_, (by repeat (first | exact Ext.refl _ | assumption | refine Ext.pdrewN ?_ _ | refine Ext.pdrew ?_ | refine Ext.palloc ?_ _ | refine Ext.pset ?_ (by simp <;> omega) _ | refine Ext.trans ?_ (by assumption)))⟩
    rw [HE.out]
    by_cases h0 : er = 0 <;> simp [h0]

theorem limbs_small {n : Nat} (h0 : n ≠ 0) (h : n < 4294967296) : limbs n = [n] := by
  rw [limbs_pos h0, Nat.div_eq_of_lt h, Nat.mod_eq_of_lt h, limbs_zero]
theorem limbs_len_small : ∀ n, n < 5 → (limbs n).length ≤ 2 := by
  intro n hn
  by_cases h0 : n = 0
  · subst h0; rw [limbs_zero]; decide
  · rw [limbs_small h0 (by omega)]; simp
def exT : SkI := { points := [⟨⟨⟨false, []⟩, ⟨false, [1]⟩⟩, ⟨⟨false, []⟩, ⟨false, [1]⟩⟩⟩, ⟨⟨⟨false, [2]⟩, ⟨false, [1]⟩⟩, ⟨⟨false, []⟩, ⟨false, [1]⟩⟩⟩, ⟨⟨⟨false, [3]⟩, ⟨false, [1]⟩⟩, ⟨⟨false, [4]⟩, ⟨false, [1]⟩⟩⟩], circles := [⟨0, ⟨⟨false, [2]⟩, ⟨false, [1]⟩⟩⟩, ⟨2, ⟨⟨false, [1]⟩, ⟨false, [1]⟩⟩⟩], segs := [], arcs := [⟨0, 1, 1, false⟩], chains := [], cons := [] }
theorem exS_eq : exS = exT := by
  unfold exS exT qOf
  rw [limbs_zero, limbs_small (n := 1) (by omega) (by omega), limbs_small (n := 2) (by omega) (by omega), limbs_small (n := 3) (by omega) (by omega), limbs_small (n := 4) (by omega) (by omega)]

theorem exS_impl : (impP exS).length = 1 := by decide
theorem exS_err : errS 1 exS = 0 := by rw [exS_eq]; decide

theorem ratV_small {q : QI} (w : World) (hx : q.num.mag.length ≤ 2) (hy : q.den.mag.length ≤ 2) : RatV w q := fun _ _ _ _ h h' => rat_Valid_small h h' hx hy

theorem exS_V {w : World} {v0 v1 v2 v3 v4 v5 : Value} : SkV 1 w v0 v1 v2 v3 v4 v5 exS where
  pts := by
    intro p hp
    simp only [exS, List.mem_cons, List.not_mem_nil, or_false] at hp
    rcases hp with rfl | rfl | rfl
    · exact ⟨ratV_small w (limbs_len_small 0 (by omega)) (limbs_len_small 1 (by omega)), ratV_small w (limbs_len_small 0 (by omega)) (limbs_len_small 1 (by omega))⟩
    · exact ⟨ratV_small w (limbs_len_small 2 (by omega)) (limbs_len_small 1 (by omega)), ratV_small w (limbs_len_small 0 (by omega)) (limbs_len_small 1 (by omega))⟩
    · exact ⟨ratV_small w (limbs_len_small 3 (by omega)) (limbs_len_small 1 (by omega)), ratV_small w (limbs_len_small 4 (by omega)) (limbs_len_small 1 (by omega))⟩
  rds := by
    intro c hc
    simp only [exS, List.mem_cons, List.not_mem_nil, or_false] at hc
    rcases hc with rfl | rfl
    · exact ratV_small w (limbs_len_small 2 (by omega)) (limbs_len_small 1 (by omega))
    · exact ratV_small w (limbs_len_small 1 (by omega)) (limbs_len_small 1 (by omega))
  sgn := fun W c v v' h => rat_Sign h
  chs := fun W v c hc => by simp [exS] at hc
  cns := fun W pv cv vv c hc => by simp [exS] at hc

set_option maxRecDepth 100000 in
set_option maxHeartbeats 1600000 in
theorem law_awake (w : World) : Calls Tryz.prog 10 #[] w fun e w' => e = .returned (.bool true) ∧ Ext w w' := by
  have HX := Lib.hid (law_example w)
  go_enter Tryz.func10, Tryz.ntmps10
  go_wp2_with fail
  refine HX.out.mono ?_
  rintro e w1 ⟨r, rfl, ⟨v0, v1, v2, v3, v4, v5, rfl, hsk⟩, hx1⟩
  obtain ⟨B0, c0, rfl, -, -⟩ := hsk.points.form
  obtain ⟨B1, c1, rfl, -, -⟩ := hsk.circles.form
  obtain ⟨B2, c2, rfl, -, -⟩ := hsk.segs.form
  obtain ⟨B3, c3, rfl, -, -⟩ := hsk.arcs.form
  obtain ⟨B4, c4, rfl, -, -⟩ := hsk.chains.form
  obtain ⟨B5, c5, rfl, -, -⟩ := hsk.cons.form
  have HBX := Lib.hid (CellsAt.new w1 [.slice B0 exS.points.length c0, .slice B1 exS.circles.length c1, .slice B2 exS.segs.length c2, .slice B3 exS.arcs.length c3, .slice B4 exS.chains.length c4, .slice B5 exS.cons.length c5] 29)
  have HS := Lib.hid hsk
  have HV := Lib.hid (fun w2 (hx : Ext w1 w2) => sketch_Valid (hsk.ext hx) exS_V)
  have HI := Lib.hid (fun w2 (hx : Ext w1 w2) => sketch_Implied (hsk.ext hx) (by decide))
  have HN := Lib.hid (fun w2 (hx : Ext w1 w2) => sketch_Vars (hsk.ext hx) (by decide) (by decide))
  have HD := Lib.hid (fun w2 (hx : Ext w1 w2) => sketch_Drawn (hsk.ext hx) (by decide) (by decide))
  rw [exS_err] at HV
  have HI1 := Lib.hid exS_impl
  clear hsk
  obtain ⟨y0, y1, y2, y3, y4, y5⟩ := HBX.out.six
  go_wp2_with fail
  refine (HV.out _ (Ext.alloc _ _)).mono ?_
  rintro e w2 ⟨rfl, hx2⟩
  have hE2 : Ext w1 w2 := Ext.trans (Ext.alloc _ _) hx2
  clear y0 y1 y2 y3 y4 y5
  obtain ⟨y0, y1, y2, y3, y4, y5⟩ := (HBX.out.ext hx2).six
  have hlt := (HBX.out.ext hx2).1
  go_wp2_with fail
  refine (HN.out _ hE2).mono ?_
  rintro e w3 ⟨rfl, hx3⟩
  have hB3 := Ext.trans hx2 hx3
  have hE3 := Ext.trans hE2 hx3
  clear y0 y1 y2 y3 y4 y5 hlt
  obtain ⟨y0, y1, y2, y3, y4, y5⟩ := (HBX.out.ext hB3).six
  have hlt := (HBX.out.ext hB3).1
  have hnn : ((2 * exS.points.length + exS.circles.length : Nat) : Int) = 8 := by decide
  rw [hnn]
  go_wp2_with fail
  refine (HI.out _ hE3).mono ?_
  rintro e w4 ⟨r, rfl, ⟨ho, hl⟩, hx4⟩
  obtain ⟨A, c, rfl⟩ := ho.form
  rw [HI1.out]
  have hB4 := Ext.trans hB3 hx4
  have hE4 := Ext.trans hE3 hx4
  clear y0 y1 y2 y3 y4 y5 hlt ho hl
  obtain ⟨y0, y1, y2, y3, y4, y5⟩ := (HBX.out.ext hB4).six
  have hlt := (HBX.out.ext hB4).1
  go_wp2_with fail
  refine (HD.out _ hE4).mono ?_
  rintro e w5 ⟨r, rfl, ⟨A', c', rfl⟩, hx5⟩
  have hnd : 2 * exS.points.length + exS.circles.length = 8 := by decide
  rw [hnd]
  go_wp2_with fail
  go_ret
  exact ⟨rfl, Ext.trans hx1 (Ext.trans hE4 hx5)⟩
end Go.Proofs.YtonleohlplkglaaGreatDoor
