/- The statements' own functions awake and valid. -/
import Derived.Test.YtjigihlhjhbkpaaGreatDoorYN
import Derived.Test.YtjigihlhjhbkpaaGreatDoorYM
import Derived.Test.YtjigihlhjhbkpaaGreatDoorYB
import Derived.Test.YtjigihlhjhbkpaaGreatDoorYQ
import Derived.Test.YtjigihlhjhbkpaaGreatDoorYR
import Derived.Test.YtjigihlhjhbkpaaGreatDoorYS
import Derived.Test.YtjigihlhjhbkpaaGreatDoorYG
namespace Go.Proofs.YtjigihlhjhbkpaaGreatDoor
open Go Go.RowKit
/-- A small and valid sketch. -/
def vld (K : Nat) (s : SkI) : Bool := smallB K s && decide (errS 61 s = 0)
structure GoodS (s : SkI) : Prop where
 few : headS s = true
 small : SmallS 61 s
 ok : okS 61 s = true
theorem vld_good {K : Nat} {s : SkI} (h : vld K s = true) : GoodS s := by
 unfold vld at h
 rw [Bool.and_eq_true] at h
 obtain ⟨h1, h2⟩ := h
 have h2 := of_decide_eq_true h2
 refine ⟨?_, SmallS.of_B h1, ?_⟩
 ·unfold smallB at h1
  simp only [Bool.and_eq_true] at h1
  exact h1.1.1.1.1
 ·unfold errS at h2
  split at h2
  ·cases h2
  ·split at h2
   ·assumption
   ·cases h2
set_option maxHeartbeats 1600000 in
theorem law_valid {K : Nat} {s : SkI} {v0 v1 v2 v3 v4 v5 : Value} {w : World} (h : SkAt K w v0 v1 v2 v3 v4 v5 s) :
  Calls Tryz.prog 5 #[.agg #[v0, v1, v2, v3, v4, v5]] w fun e w' => e = .returned (.bool (vld K s)) ∧ Ext w w' := by
 have HBX := Lib.hid (CellsAt.new w [v0, v1, v2, v3, v4, v5] 29)
 have HS := Lib.hid (fun w1 (hx : Ext w w1) => ref26_Small (h.ext hx))
 have HV := Lib.hid (fun (hs : smallB K s = true) w1 (hx : Ext w w1) => ref26_Valid (K := 61) (by omega) ((h.ext hx).lower (SmallS.of_B hs)) (SmallS.of_B hs))
 have HE : Hid (vld K s = (smallB K s && decide (errS 61 s = 0))) := rfl
 clear h
 generalize smallB K s = sm at *
 generalize vld K s = r at *
 generalize errS 61 s = er at *
 obtain ⟨y0, y1, y2, y3, y4, y5⟩ := HBX.out.six
 go_enter Tryz.func5, Tryz.ntmps5
 go_wp2_with fail
 refine (HS.out _ (Ext.alloc _ _)).mono ?_
 rintro e w1 ⟨rfl, hx1⟩
 cases sm with
 | false =>
  go_wp2_with fail
  go_ret
  exact ⟨by rw [HE.out]; rfl, (by repeat first|exact xA _|assumption|refine xB ?_ _|refine xC ?_|refine xD ?_ _|refine xE ?_ (by simp <;> omega) _|refine xF ?_ (by assumption))⟩
 | true =>
  clear y0 y1 y2 y3 y4 y5
  obtain ⟨y0, y1, y2, y3, y4, y5⟩ := (HBX.out.ext hx1).six
  have hlt1 := (HBX.out.ext hx1).1
  go_wp2_with fail
  refine (HV.out trivial _ (by repeat first|exact xA _|assumption|refine xB ?_ _|refine xC ?_|refine xD ?_ _|refine xE ?_ (by simp <;> omega) _|refine xF ?_ (by assumption))).mono ?_
  rintro e w2 ⟨rfl, hx2⟩
  go_wp2_with fail
  go_ret
  refine ⟨?_, (by repeat first|exact xA _|assumption|refine xB ?_ _|refine xC ?_|refine xD ?_ _|refine xE ?_ (by simp <;> omega) _|refine xF ?_ (by assumption))⟩
  rw [HE.out]
  by_cases h0 : er = 0 <;> simp [h0]
theorem limbs_small {n : Nat} (h0 : n ≠ 0) (h : n < 4294967296) : limbs n = [n] := by
 rw [limbs_pos h0, Nat.div_eq_of_lt h, Nat.mod_eq_of_lt h, limbs_zero]
theorem limbs_len_small : ∀ n, n < 5 → (limbs n).length ≤ 2 := by
 intro n hn
 by_cases h0 : n = 0
 ·subst h0; rw [limbs_zero]; decide
 ·rw [limbs_small h0 (by omega)]; simp
def exT : SkI := { points := [⟨⟨⟨false, []⟩, ⟨false, [1]⟩⟩, ⟨⟨false, []⟩, ⟨false, [1]⟩⟩⟩, ⟨⟨⟨false, [2]⟩, ⟨false, [1]⟩⟩, ⟨⟨false, []⟩, ⟨false, [1]⟩⟩⟩, ⟨⟨⟨false, [3]⟩, ⟨false, [1]⟩⟩, ⟨⟨false, [4]⟩, ⟨false, [1]⟩⟩⟩], circles := [⟨0, ⟨⟨false, [2]⟩, ⟨false, [1]⟩⟩⟩, ⟨2, ⟨⟨false, [1]⟩, ⟨false, [1]⟩⟩⟩], segs := [], arcs := [⟨0, 1, 1, false⟩], chains := [], cons := [] }
theorem exS_eq : exS = exT := by
 unfold exS exT qOf
 rw [limbs_zero, limbs_small (n := 1) (by omega) (by omega), limbs_small (n := 2) (by omega) (by omega), limbs_small (n := 3) (by omega) (by omega), limbs_small (n := 4) (by omega) (by omega)]
theorem exS_impl : (impP exS).length = 1 := by decide
theorem exS_err : errS 1 exS = 0 := by rw [exS_eq]; decide
theorem ratV_small {q : QI} (w : World) (hx : q.num.mag.length ≤ 2) (hy : q.den.mag.length ≤ 2) : RatV w q := fun _ _ _ _ h h' => rat_Valid_small h h' hx hy
theorem exS_V {w : World} {v0 v1 v2 v3 v4 v5 : Value} : SkV 1 w v0 v1 v2 v3 v4 v5 exS where
 pts := by
  intro p hp
  simp only [exS, List.mem_cons, List.not_mem_nil, or_false] at hp
  rcases hp with rfl | rfl | rfl
  ·exact ⟨ratV_small w (limbs_len_small 0 (by omega)) (limbs_len_small 1 (by omega)), ratV_small w (limbs_len_small 0 (by omega)) (limbs_len_small 1 (by omega))⟩
  ·exact ⟨ratV_small w (limbs_len_small 2 (by omega)) (limbs_len_small 1 (by omega)), ratV_small w (limbs_len_small 0 (by omega)) (limbs_len_small 1 (by omega))⟩
  ·exact ⟨ratV_small w (limbs_len_small 3 (by omega)) (limbs_len_small 1 (by omega)), ratV_small w (limbs_len_small 4 (by omega)) (limbs_len_small 1 (by omega))⟩
 rds := by
  intro c hc
  simp only [exS, List.mem_cons, List.not_mem_nil, or_false] at hc
  rcases hc with rfl | rfl
  ·exact ratV_small w (limbs_len_small 2 (by omega)) (limbs_len_small 1 (by omega))
  ·exact ratV_small w (limbs_len_small 1 (by omega)) (limbs_len_small 1 (by omega))
 sgn := fun W c v v' h => rat_Sign h
 chs := fun W v c hc => by simp [exS] at hc
 cns := fun W pv cv vv c hc => by simp [exS] at hc
set_option maxRecDepth 100000 in
set_option maxHeartbeats 1600000 in
theorem law_awake (w : World) : Calls Tryz.prog 4 #[] w fun e w' => e = .returned (.bool true) ∧ Ext w w' := by
 have HX := Lib.hid (law_example w)
 go_enter Tryz.func4, Tryz.ntmps4
 go_wp2_with fail
 refine HX.out.mono ?_
 rintro e w1 ⟨r, rfl, ⟨v0, v1, v2, v3, v4, v5, rfl, hsk⟩, hx1⟩
 obtain ⟨B0, c0, rfl, -, -⟩ := hsk.points.form
 obtain ⟨B1, c1, rfl, -, -⟩ := hsk.circles.form
 obtain ⟨B2, c2, rfl, -, -⟩ := hsk.segs.form
 obtain ⟨B3, c3, rfl, -, -⟩ := hsk.arcs.form
 obtain ⟨B4, c4, rfl, -, -⟩ := hsk.chains.form
 obtain ⟨B5, c5, rfl, -, -⟩ := hsk.cons.form
 have HBX := Lib.hid (CellsAt.new w1 [.slice B0 exS.points.length c0, .slice B1 exS.circles.length c1, .slice B2 exS.segs.length c2, .slice B3 exS.arcs.length c3, .slice B4 exS.chains.length c4, .slice B5 exS.cons.length c5] 29)
 have HS := Lib.hid hsk
 have HV := Lib.hid (fun w2 (hx : Ext w1 w2) => sketch_Valid (hsk.ext hx) exS_V)
 have HI := Lib.hid (fun w2 (hx : Ext w1 w2) => sketch_Implied (hsk.ext hx) (by decide))
 have HN := Lib.hid (fun w2 (hx : Ext w1 w2) => sketch_Vars (hsk.ext hx) (by decide) (by decide))
 have HD := Lib.hid (fun w2 (hx : Ext w1 w2) => sketch_Drawn (hsk.ext hx) (by decide) (by decide))
 rw [exS_err] at HV
 have HI1 := Lib.hid exS_impl
 clear hsk
 obtain ⟨y0, y1, y2, y3, y4, y5⟩ := HBX.out.six
 go_wp2_with fail
 refine (HV.out _ (Ext.alloc _ _)).mono ?_
 rintro e w2 ⟨rfl, hx2⟩
 have hE2 : Ext w1 w2 := Ext.trans (Ext.alloc _ _) hx2
 clear y0 y1 y2 y3 y4 y5
 obtain ⟨y0, y1, y2, y3, y4, y5⟩ := (HBX.out.ext hx2).six
 have hlt := (HBX.out.ext hx2).1
 go_wp2_with fail
 refine (HN.out _ hE2).mono ?_
 rintro e w3 ⟨rfl, hx3⟩
 have hB3 := Ext.trans hx2 hx3
 have hE3 := Ext.trans hE2 hx3
 clear y0 y1 y2 y3 y4 y5 hlt
 obtain ⟨y0, y1, y2, y3, y4, y5⟩ := (HBX.out.ext hB3).six
 have hlt := (HBX.out.ext hB3).1
 have hnn : ((2 * exS.points.length + exS.circles.length : Nat) : Int) = 8 := by decide
 rw [hnn]
 go_wp2_with fail
 refine (HI.out _ hE3).mono ?_
 rintro e w4 ⟨r, rfl, ⟨ho, hl⟩, hx4⟩
 obtain ⟨A, c, rfl⟩ := ho.form
 rw [HI1.out]
 have hB4 := Ext.trans hB3 hx4
 have hE4 := Ext.trans hE3 hx4
 clear y0 y1 y2 y3 y4 y5 hlt ho hl
 obtain ⟨y0, y1, y2, y3, y4, y5⟩ := (HBX.out.ext hB4).six
 have hlt := (HBX.out.ext hB4).1
 go_wp2_with fail
 refine (HD.out _ hE4).mono ?_
 rintro e w5 ⟨r, rfl, ⟨A', c', rfl⟩, hx5⟩
 have hnd : 2 * exS.points.length + exS.circles.length = 8 := by decide
 rw [hnd]
 go_wp2_with fail
 go_ret
 exact ⟨rfl, Ext.trans hx1 (Ext.trans hE4 hx5)⟩
end Go.Proofs.YtjigihlhjhbkpaaGreatDoor
namespace Go.Proofs.YtjigihlhjhbkpaaGreatDoor
open Go Go.RowKit
theorem q_parts {q : QI} (hok : q.ok = true) (hL : Limb q.num.mag) (hL' : Limb q.den.mag) : limbs (val q.num.mag) = q.num.mag ∧ limbs (val q.den.mag) = q.den.mag ∧ q.den.neg = false ∧ 0 < val q.den.mag ∧ (q.num.neg = true → 0 < val q.num.mag) := by
 obtain ⟨⟨s, xs⟩, ⟨t, ys⟩⟩ := q
 obtain ⟨h1, h2, h3, h4, -, -⟩ := dec_parts hok hL hL'
 refine ⟨h1, h2, h3, h4, fun hs => ?_⟩
 rcases Nat.eq_zero_or_pos (val xs) with h0 | h0
 ·exfalso
  simp only [QI.ok, ZI.ok, Bool.and_eq_true, Bool.or_eq_true, Bool.not_eq_true', decide_eq_true_eq] at hok
  rw [h0, limbs_zero] at h1
  have hs : s = true := hs
  rcases hok.1.1.1.2 with h | h
  ·rw [hs] at h; cases h
  ·rw [← h1] at h; simp at h
 ·exact h0
theorem good_drawn {s : SkI} (h : GoodS s) : ∀ q ∈ drawnL s, q.ok = true ∧ q.num.mag.length ≤ 1000 ∧ q.den.mag.length ≤ 1000 := by
 have hok := h.ok
 unfold okS at hok
 simp only [Bool.and_eq_true] at hok
 have hp := List.all_eq_true.1 hok.1.1.1.1.1
 have hc := List.all_eq_true.1 hok.1.1.1.1.2
 intro q hq
 unfold drawnL at hq
 rcases List.mem_append.1 hq with hq | hq
 ·unfold coordsL at hq
  obtain ⟨p, hpm, hq⟩ := List.mem_flatMap.1 hq
  have h1 := hp p hpm
  unfold okPt at h1
  rw [Bool.and_eq_true] at h1
  have h2 := h.small.points p hpm
  simp only [List.mem_cons, List.not_mem_nil, or_false] at hq
  rcases hq with rfl | rfl
  ·exact ⟨h1.1, h2.1, h2.2.1⟩
  ·exact ⟨h1.2, h2.2.2.1, h2.2.2.2⟩
 ·obtain ⟨c, hcm, rfl⟩ := List.mem_map.1 hq
  have h1 := hc c hcm
  unfold okRd at h1
  simp only [Bool.and_eq_true] at h1
  exact ⟨h1.1.2, h.small.circles c hcm⟩
theorem GoodS.lens {s : SkI} (h : GoodS s) : s.points.length ≤ 1000 ∧ s.circles.length ≤ 1000 := by
 have := h.few
 unfold headS at this
 simp only [Bool.and_eq_true, decide_eq_true_eq] at this
 omega
theorem NumR.parts {w : World} {cs : List Value} {q : QI} (h : NumR w cs q) : ∃ b off c U n k V m l, cs = [.slice none 0 0, .slice (some ⟨b, off, none⟩) 1 c] ∧ Q4 w b off q.num.neg (.slice U n k) q.den.neg (.slice V m l) ∧ Words w (.slice U n k) q.num.mag ∧ Words w (.slice V m l) q.den.mag := by
 obtain ⟨A, c, rfl, hA⟩ := h
 obtain ⟨b, off, ds, rfl, hb, -, hc, u, v, rfl, hu, hv⟩ := arr_head1 hA
 obtain ⟨U, k, rfl, -, -⟩ := hu.form
 obtain ⟨V, l, rfl, -, -⟩ := hv.form
 exact ⟨b, off, c, U, _, k, V, _, l, rfl, ⟨hb, hc 0 _ rfl, hc 1 _ rfl, hc 2 _ rfl, hc 3 _ rfl⟩, hu, hv⟩
theorem num_Valid {w : World} {C : Value} {q : QI} (h : NumR w [.slice none 0 0, C] q) (hok : q.ok = true ∧ q.num.mag.length ≤ 1000 ∧ q.den.mag.length ≤ 1000) :
  Calls Tryz.prog 10 #[.agg #[.slice none 0 0, C]] w fun e w' => e = .returned (.bool true) ∧ Ext w w' := by
 obtain ⟨b, off, c, U, n, k, V, m, l, e, hq, hu, hv⟩ := h.parts
 injection e with _ e
 injection e with e _
 subst e
 exact ref09_Valid hq hu hv hok.1 (by omega) (by omega)
theorem num_Equal {w : World} {C D : Value} {q : QI} (h : NumR w [.slice none 0 0, C] q) (h' : NumR w [.slice none 0 0, D] q) (hok : q.ok = true ∧ q.num.mag.length ≤ 1000 ∧ q.den.mag.length ≤ 1000) :
  Calls Tryz.prog 11 #[.agg #[.slice none 0 0, C], .agg #[.slice none 0 0, D]] w fun e w' => e = .returned (.bool true) ∧ Ext w w' := by
 obtain ⟨b, off, c, U, n, k, V, m, l, e, hq, hu, hv⟩ := h.parts
 injection e with _ e
 injection e with e _
 subst e
 obtain ⟨b', off', c', U', n', k', V', m', l', e, hq', hu', hv'⟩ := h'.parts
 injection e with _ e
 injection e with e _
 subst e
 obtain ⟨p1, p2, p3, p4, p5⟩ := q_parts hok.1 hu.limb hv.limb
 have e1 := hu.len.1
 have e2 := hv.len.1
 rw [p3] at hq hq'
 rw [← p1] at hu hu'
 rw [← p2] at hv hv'
 exact ref09_Equal hq hq' hu hv hu' hv' p5 p4 (by omega) (by omega)
theorem num_at {w : World} {A : Option Addr} {n c : Nat} {L : List QI} (h : ArrAt 2 NumR w (.slice A n c) L) {k : Nat} (hk : k < L.length) :
  ∃ b off B d, A = some ⟨b, off, none⟩ ∧ b < w.heap.size ∧ w.cell? ⟨b, off + k * 2, none⟩ = some (.slice none 0 0) ∧ w.cell? ⟨b, off + k * 2 + 1, none⟩ = some (.slice B 1 d) ∧ NumR w [.slice none 0 0, .slice B 1 d] L[k] := by
 obtain ⟨b, off, rfl, hb, cs, -, hc, hR⟩ := h.at_ hk
 obtain ⟨A, c, rfl, hA⟩ := hR
 exact ⟨b, off, A, c, rfl, hb, hc 0 _ rfl, hc 1 _ rfl, A, c, rfl, hA⟩
set_option maxRecDepth 100000 in
theorem ref26_Vars {K : Nat} {s : SkI} {v0 v1 v2 v3 v4 v5 : Value} {w : World} (h : SkAt K w v0 v1 v2 v3 v4 v5 s) (hp : s.points.length ≤ 1000) (hc : s.circles.length ≤ 1000) :
  Calls Tryz.prog 9 #[.agg #[v0, v1, v2, v3, v4, v5]] w fun e w' => e = .returned (.int .i64 ((2 * s.points.length + s.circles.length : Nat) : Int)) ∧ Ext w w' := by
 obtain ⟨A0, c0, rfl, hl0, hm0⟩ := h.points.form
 obtain ⟨A1, c1, rfl, hl1, hm1⟩ := h.circles.form
 clear h
 generalize s.points.length = n at *
 generalize s.circles.length = m at *
 go_enter Tryz.func9, Tryz.ntmps9
 go_wp2_with fail
 go_ret
 exact ⟨by simp, (by repeat first|exact xA _|assumption|refine xB ?_ _|refine xC ?_|refine xD ?_ _|refine xE ?_ (by simp <;> omega) _|refine xF ?_ (by assumption))⟩
end Go.Proofs.YtjigihlhjhbkpaaGreatDoor
namespace Go.Proofs.YtjigihlhjhbkpaaGreatDoor
open Go Go.RowKit
set_option maxRecDepth 100000 in
set_option maxHeartbeats 3200000 in
theorem law_Drawn {K : Nat} {s : SkI} {v0 v1 v2 v3 v4 v5 : Value} {w : World} (h : SkAt K w v0 v1 v2 v3 v4 v5 s) :
  Calls Tryz.prog 3 #[.agg #[v0, v1, v2, v3, v4, v5]] w fun e w' => e = .returned (.bool true) ∧ Ext w w' := by
 have HBX := Lib.hid (CellsAt.new w [v0, v1, v2, v3, v4, v5] 29)
 have HA := Lib.hid law_awake
 have HV := Lib.hid (fun w1 (hx : Ext w w1) => law_valid (h.ext hx))
 have HG := Lib.hid (vld_good (K := K) (s := s))
 have HD1 := Lib.hid (fun (hg : GoodS s) w1 (hx : Ext w w1) => sketch_DrawnD (h.ext hx) hg.lens.1 hg.lens.2)
 have HD2 := Lib.hid (fun (hg : GoodS s) w1 (hx : Ext w w1) => ref26_Drawn (h.ext hx) hg.lens.1 hg.lens.2)
 have HV1 := Lib.hid (fun (hg : GoodS s) w1 (hx : Ext w w1) => sketch_Vars (h.ext hx) hg.lens.1 hg.lens.2)
 have HV2 := Lib.hid (fun (hg : GoodS s) w1 (hx : Ext w w1) => ref26_Vars (h.ext hx) hg.lens.1 hg.lens.2)
 have HOK := Lib.hid (fun (hg : GoodS s) => good_drawn hg)
 have HLEN : Hid (GoodS s → (drawnL s).length ≤ 3000) := fun hg => by rw [drawnL_length]; have := hg.lens; omega
 clear h
 generalize vld K s = vd at *
 generalize drawnL s = L at *
 generalize (2 * s.points.length + s.circles.length : Nat) = V at *
 obtain ⟨y0, y1, y2, y3, y4, y5⟩ := HBX.out.six
 go_enter Tryz.func3, Tryz.ntmps3
 go_wp2_with fail
 refine (HA.out _).mono ?_
 rintro e w1 ⟨rfl, hx1⟩
 have hE1 : Ext w w1 := Ext.trans (Ext.alloc _ _) hx1
 clear y0 y1 y2 y3 y4 y5
 obtain ⟨y0, y1, y2, y3, y4, y5⟩ := (HBX.out.ext hx1).six
 have hlt := (HBX.out.ext hx1).1
 go_wp2_with fail
 refine (HV.out _ hE1).mono ?_
 rintro e w2 ⟨rfl, hx2⟩
 have hB2 := Ext.trans hx1 hx2
 have hE2 := Ext.trans hE1 hx2
 clear y0 y1 y2 y3 y4 y5 hlt
 cases vd with
 | false =>
  go_wp2_with fail
  refine (HA.out _).mono ?_
  rintro e w3 ⟨rfl, hx3⟩
  go_wp2_with fail
  go_ret
  exact ⟨rfl, Ext.trans hE2 hx3⟩
 | true =>
  have HG1 := Lib.hid (HG.out rfl)
  have HOK1 := Lib.hid (HOK.out HG1.out)
  have hLEN := HLEN.out HG1.out
  clear HG HLEN HOK
  obtain ⟨y0, y1, y2, y3, y4, y5⟩ := (HBX.out.ext hB2).six
  have hlt := (HBX.out.ext hB2).1
  go_upto_region 3 with fail
  go_cut [3, 4] (fun x y wx => ∃ A1 c1 A2 c2, x = .slice A1 L.length c1 ∧ y = .slice A2 L.length c2 ∧ Hid (ArrAt 2 NumR wx (.slice A1 L.length c1) L) ∧ Hid (ArrAt 2 NumR wx (.slice A2 L.length c2) L) ∧ Hid (Ext w2 wx))
  case first =>
   go_region_with (first
    | (go_at_call 6; refine (HD1.out HG1.out _ (by repeat first|exact xA _|assumption|refine xB ?_ _|refine xC ?_|refine xD ?_ _|refine xE ?_ (by simp <;> omega) _|refine xF ?_ (by assumption))).mono ?_; rintro e w3 ⟨r, rfl, ⟨A1, n1, c1, rfl, hL1⟩, hx3⟩; have HL1 := Lib.hid hL1; obtain rfl := hL1.len.1; clear hL1; obtain ⟨x0, x1, x2, x3, x4, x5⟩ := (HBX.out.ext (w' := w3) (by repeat first|exact xA _|assumption|refine xB ?_ _|refine xC ?_|refine xD ?_ _|refine xE ?_ (by simp <;> omega) _|refine xF ?_ (by assumption))).six)
    | (go_at_call 7; refine (HD2.out HG1.out _ (by repeat first|exact xA _|assumption|refine xB ?_ _|refine xC ?_|refine xD ?_ _|refine xE ?_ (by simp <;> omega) _|refine xF ?_ (by assumption))).mono ?_; rintro e w4 ⟨r, rfl, ⟨A2, n2, c2, rfl, hL2⟩, hx4⟩; have HL2 := Lib.hid hL2; obtain rfl := hL2.len.1; clear hL2; obtain ⟨x0, x1, x2, x3, x4, x5⟩ := (HBX.out.ext (w' := w4) (by repeat first|exact xA _|assumption|refine xB ?_ _|refine xC ?_|refine xD ?_ _|refine xE ?_ (by simp <;> omega) _|refine xF ?_ (by assumption))).six))
   all_goals
    go_wp2_with fail
    go_meet
    exact ⟨_, _, _, _, rfl, rfl, HL1.out.ext NumR.stable (by repeat first|exact xA _|assumption|refine xB ?_ _|refine xC ?_|refine xD ?_ _|refine xE ?_ (by simp <;> omega) _|refine xF ?_ (by assumption)), HL2.out.ext NumR.stable (by repeat first|exact xA _|assumption|refine xB ?_ _|refine xC ?_|refine xD ?_ _|refine xE ?_ (by simp <;> omega) _|refine xF ?_ (by assumption)), (by repeat first|exact xA _|assumption|refine xB ?_ _|refine xC ?_|refine xD ?_ _|refine xE ?_ (by simp <;> omega) _|refine xF ?_ (by assumption))⟩
  case rest =>
   obtain ⟨A1, c1, A2, c2, rfl, rfl, HL1, HL2, HX⟩ := hcut
   clear y0 y1 y2 y3 y4 y5
   obtain ⟨w3, hw3⟩ : ∃ x, x = wc := ⟨_, rfl⟩
   subst hw3
   have hE3 : Ext w w3 := Ext.trans hE2 HX.out
   have hB3 := Ext.trans hB2 HX.out
   have hne : ((L.length : Int) != (L.length : Int)) = false := by simp
   have hnv : ((V : Int) != (V : Int)) = false := by simp
   obtain ⟨y0, y1, y2, y3, y4, y5⟩ := (HBX.out.ext hB3).six
   have hlt3 := (HBX.out.ext hB3).1
   go_upto_region 4 with fail
   go_cut [30] (fun c wx => c = .bool false ∧ Hid (Ext w3 wx))
   case first =>
    go_region_with (first
     | (go_at_call 8; refine (HV1.out HG1.out _ (by repeat first|exact xA _|assumption|refine xB ?_ _|refine xC ?_|refine xD ?_ _|refine xE ?_ (by simp <;> omega) _|refine xF ?_ (by assumption))).mono ?_; rintro e w4 ⟨rfl, hx4⟩; obtain ⟨x0, x1, x2, x3, x4, x5⟩ := (HBX.out.ext (w' := w4) (by repeat first|exact xA _|assumption|refine xB ?_ _|refine xC ?_|refine xD ?_ _|refine xE ?_ (by simp <;> omega) _|refine xF ?_ (by assumption))).six; have hlt4 := (HBX.out.ext (w' := w4) (by repeat first|exact xA _|assumption|refine xB ?_ _|refine xC ?_|refine xD ?_ _|refine xE ?_ (by simp <;> omega) _|refine xF ?_ (by assumption))).1)
     | (go_at_call 9; refine (HV2.out HG1.out _ (by repeat first|exact xA _|assumption|refine xB ?_ _|refine xC ?_|refine xD ?_ _|refine xE ?_ (by simp <;> omega) _|refine xF ?_ (by assumption))).mono ?_; rintro e w5 ⟨rfl, hx5⟩; obtain ⟨x0, x1, x2, x3, x4, x5⟩ := (HBX.out.ext (w' := w5) (by repeat first|exact xA _|assumption|refine xB ?_ _|refine xC ?_|refine xD ?_ _|refine xE ?_ (by simp <;> omega) _|refine xF ?_ (by assumption))).six))
    all_goals
     simp only [Act.put, List.getElem_toArray, List.getElem_cons_succ, List.getElem_cons_zero, List.setIfInBounds_toArray, List.set_cons_zero, List.set_cons_succ]
     go_wp2_with fail
     go_meet
     exact ⟨rfl, (by repeat first|exact xA _|assumption|refine xB ?_ _|refine xC ?_|refine xD ?_ _|refine xE ?_ (by simp <;> omega) _|refine xF ?_ (by assumption))⟩
   case rest =>
    obtain ⟨rfl, HX4⟩ := hcut
    obtain ⟨w4, hw4⟩ : ∃ x, x = wc := ⟨_, rfl⟩
    subst hw4
    have HM1 := Lib.hid (HL1.out.ext NumR.stable HX4.out)
    have HM2 := Lib.hid (HL2.out.ext NumR.stable HX4.out)
    have hE4 : Ext w w4 := Ext.trans hE3 HX4.out
    clear y0 y1 y2 y3 y4 y5 HL1 HL2 hlt hlt3
    go_wp2_with fail
    go_loopg [33] L.length (fun gk x wr => ∃ i : Nat, x = .int .i64 (i : Int) ∧ i + gk = L.length ∧ Hid (Ext w4 wr))
    case atStart => exact ⟨0, rfl, by omega, Ext.refl _⟩
    case round =>
     obtain ⟨k, rfl, hk, HEW⟩ := hrel
     have hEW := HEW.out
     by_cases hlk : k < L.length
     ·obtain ⟨b, off, B, d, rfl, hb, p0, p1, hR1⟩ := num_at (HM1.out.ext NumR.stable hEW) hlk
      obtain ⟨b', off', B', d', rfl, hb', q0, q1, hR2⟩ := num_at (HM2.out.ext NumR.stable hEW) hlk
      have HOKk := Lib.hid (HOK1.out _ (List.getElem_mem hlk))
      have HVd := Lib.hid (fun w5 (hx : Ext wr w5) => num_Valid (NumR.stable _ _ _ _ hx hR1) HOKk.out)
      have HEq := Lib.hid (fun w5 (hx : Ext wr w5) => num_Equal (NumR.stable _ _ _ _ hx hR1) (NumR.stable _ _ _ _ hx hR2) HOKk.out)
      obtain ⟨W0, hW0⟩ : ∃ W0, wr.alloc (.cells #[.slice none 0 0, .slice B 1 d] 38) = W0 := ⟨_, rfl⟩
      have HZ0 : Hid (CellsAt W0 wr.heap.size [.slice none 0 0, .slice B 1 d]) := by rw [← hW0]; exact CellsAt.new _ _ _
      have hEx : Ext wr W0 := by rw [← hW0]; exact Ext.alloc _ _
      have HQX : Hid (∀ W, Ext wr W → b' < W.heap.size ∧ W.cell? ⟨b', off' + k * 2, none⟩ = some (.slice none 0 0) ∧ W.cell? ⟨b', off' + k * 2 + 1, none⟩ = some (.slice B' 1 d')) := fun W hx => ⟨Nat.lt_of_lt_of_le hb' hx.size, (hx.cell (p := ⟨b', off' + k * 2, none⟩) hb').trans q0, (hx.cell (p := ⟨b', off' + k * 2 + 1, none⟩) hb').trans q1⟩
      have HW0 := Lib.hid hW0
      clear hR1 hR2 hW0
      go_upto_region 9 with fail
      rw [HW0.out]
      have z0 := HZ0.out.2 0 _ rfl
      have z1 := HZ0.out.2 1 _ rfl
      go_region_with (first
       | (go_at_call 10; refine (HVd.out _ (by repeat first|exact xA _|assumption|refine xB ?_ _|refine xC ?_|refine xD ?_ _|refine xE ?_ (by simp <;> omega) _|refine xF ?_ (by assumption))).mono ?_; rintro e w5 ⟨rfl, hx5⟩; have z0' := (HZ0.out.ext (w' := w5) (by repeat first|exact xA _|assumption|refine xB ?_ _|refine xC ?_|refine xD ?_ _|refine xE ?_ (by simp <;> omega) _|refine xF ?_ (by assumption))).2 0 _ rfl; have z1' := (HZ0.out.ext (w' := w5) (by repeat first|exact xA _|assumption|refine xB ?_ _|refine xC ?_|refine xD ?_ _|refine xE ?_ (by simp <;> omega) _|refine xF ?_ (by assumption))).2 1 _ rfl; obtain ⟨hb5, x0, x1⟩ := HQX.out w5 (by repeat first|exact xA _|assumption|refine xB ?_ _|refine xC ?_|refine xD ?_ _|refine xE ?_ (by simp <;> omega) _|refine xF ?_ (by assumption)))
       | (go_at_call 11; refine (HEq.out _ (by repeat first|exact xA _|assumption|refine xB ?_ _|refine xC ?_|refine xD ?_ _|refine xE ?_ (by simp <;> omega) _|refine xF ?_ (by assumption))).mono ?_; rintro e w6 ⟨rfl, hx6⟩))
      all_goals
       simp only [Act.put, List.getElem_toArray, List.getElem_cons_succ, List.getElem_cons_zero, List.setIfInBounds_toArray, List.set_cons_zero, List.set_cons_succ]
       go_wp2_with fail
       go_roundg (L.length - (k + 1))
       case measure => omega
       case rel => exact ⟨k + 1, by simp, by omega, (by repeat first|exact xA _|assumption|refine xB ?_ _|refine xC ?_|refine xD ?_ _|refine xE ?_ (by simp <;> omega) _|refine xF ?_ (by assumption))⟩
     ·obtain rfl : k = L.length := by omega
      go_wp2_with fail
      go_ret
      exact ⟨rfl, Ext.trans hE4 hEW⟩
end Go.Proofs.YtjigihlhjhbkpaaGreatDoor
