/- RemovePoint returns the sketch without a point, or an error: for every sketch and every number the statement SketchRemovePoint returns true, and its arguments read as before. Conditions: the five listed package-level variables hold what the program's text lays (the card's tie). -/
import Derived.Test.YtonleohlplkglaaGreatDoorWQ
import Derived.Test.YtonleohlplkglaaGreatDoorWM
import Derived.Test.YtonleohlplkglaaGreatDoorWJ
import Derived.IntWalk
import Derived.Test.YtonleohlplkglaaGreatDoorWP
import Derived.Test.YtonleohlplkglaaGreatDoorWE
import Derived.Test.YtonleohlplkglaaGreatDoorWS
namespace Go.Proofs.YtonleohlplkglaaGreatDoor
open Go Go.RowKit
theorem vld_clone {K : Nat} {s : SkI} (h : vld K s = true) : CloneOK 61 s := by
 have hg := vld_good h
 have hs : smallB K s = true := by
  unfold vld at h
  rw [Bool.and_eq_true] at h
  exact h.1
 unfold smallB at hs
 simp only [Bool.and_eq_true, List.all_eq_true] at hs
 obtain ⟨⟨⟨⟨h0, -⟩, -⟩, h3⟩, h4⟩ := hs
 unfold headS at h0
 simp only [Bool.and_eq_true, decide_eq_true_eq] at h0
 obtain ⟨⟨⟨⟨⟨g1, g2⟩, g3⟩, g4⟩, g5⟩, g6⟩ := h0
 refine ⟨hg.small, by omega, by omega, by omega, by omega, by omega, by omega, fun c hc => ?_, fun c hc => ?_⟩
 ·have := h3 c hc
  simp only [fewCh, decide_eq_true_eq] at this
  omega
 ·have := h4 c hc
  simp only [fewCon, conHead, Bool.and_eq_true, decide_eq_true_eq] at this
  obtain ⟨⟨⟨k1, k2⟩, k3⟩, -⟩ := this
  omega
theorem sk_nil (K : Nat) (w : World) : SkAt K w (.slice none 0 0) (.slice none 0 0) (.slice none 0 0) (.slice none 0 0) (.slice none 0 0) (.slice none 0 0) ⟨[], [], [], [], [], []⟩ := ⟨ArrAt.nil, ArrAt.nil, ArrAt.nil, ArrAt.nil, ArrAt.nil, ArrAt.nil⟩
theorem ArrAt.take {α : Type} {sz : Nat} {R : World → List Value → α → Prop} {w : World} {A : Option Addr} {n c i : Nat} {xs : List α} (h : ArrAt sz R w (.slice A n c) xs) (hi : i ≤ n) : ArrAt sz R w (.slice A i c) (xs.take i) := by
 obtain ⟨hn, hl, hm⟩ := h.len
 obtain ⟨A', c', hv, -, -, hc⟩ := h
 injection hv with e1 e2 e3
 subst e1 e3
 have hlen : (xs.take i).length = i := by rw [List.length_take]; omega
 refine ⟨A, c, by rw [hlen], by omega, by omega, fun hne => ?_⟩
 obtain ⟨b, off, h1, h2, h3⟩ := hc (by intro e; rw [e] at hne; simp at hne)
 refine ⟨b, off, h1, h2, fun k x hk => ?_⟩
 rw [List.getElem?_take] at hk
 split at hk
 ·exact h3 k x hk
 ·cases hk
theorem ArrAt.drop {α : Type} {sz : Nat} {R : World → List Value → α → Prop} {w : World} {b off n c j : Nat} {Ad : Addr} {xs : List α} (h : ArrAt sz R w (.slice (some ⟨b, off, none⟩) n c) xs) (hj : j ≤ n) (hA : (if c = j then (some ⟨b, off, none⟩ : Option Addr) else some ⟨b, off + j * sz, none⟩) = some Ad) : ArrAt sz R w (.slice (some Ad) (n - j) (c - j)) (xs.drop j) := by
 obtain ⟨hn, hl, hm⟩ := h.len
 obtain ⟨A', c', hv, -, -, hc⟩ := h
 injection hv with e1 e2 e3
 subst e3
 have hlen : (xs.drop j).length = n - j := by rw [List.length_drop]; omega
 refine ⟨some Ad, c - j, by rw [hlen], by omega, by omega, fun hne => ?_⟩
 have hpos : 0 < (xs.drop j).length := List.length_pos_iff.2 hne
 obtain ⟨b', off', h1, h2, h3⟩ := hc (by intro e; rw [e] at hne; simp at hne)
 rw [← e1] at h1
 have h1' : b = b' ∧ off = off' := by injection h1 with h1; injection h1 with g1 g2; exact ⟨g1, g2⟩
 obtain ⟨rfl, rfl⟩ := h1'
 rw [if_neg (by omega)] at hA
 refine ⟨b, off + j * sz, hA.symm, h2, fun k x hk => ?_⟩
 rw [List.getElem?_drop] at hk
 obtain ⟨ds, d1, d2, d3⟩ := h3 (j + k) x hk
 refine ⟨ds, d1, fun m u hm' => ?_, d3⟩
 have := d2 m u hm'
 rwa [show off + ((j + k) * sz + m) = off + j * sz + (k * sz + m) by rw [Nat.add_mul]; omega] at this
end Go.Proofs.YtonleohlplkglaaGreatDoor
namespace Go.Proofs.YtonleohlplkglaaGreatDoor
open Go Go.RowKit
theorem hasL_le {n i : Int} (h : hasL n i = true) (hn : n ≤ 1000) : i ≤ 1000000 := by unfold hasL at h; simp at h; omega
theorem ok_bnd {K : Nat} {s : SkI} (hl : s.points.length ≤ 1000) (h : okS K s = true) : Bnd s := by
 have hl' : (s.points.length : Int) ≤ 1000 := by omega
 unfold okS at h
 simp only [Bool.and_eq_true, List.all_eq_true] at h
 obtain ⟨⟨⟨⟨⟨-, h1⟩, h2⟩, h3⟩, -⟩, h5⟩ := h
 refine ⟨fun c hc => ?_, fun c hc => ?_, fun c hc => ?_, fun c hc x hx => ?_⟩
 ·have := h1 c hc
  unfold okRd at this
  simp only [Bool.and_eq_true] at this
  exact hasL_le this.1.1 hl'
 ·have := h2 c hc
  unfold okSg at this
  simp only [Bool.and_eq_true] at this
  exact ⟨hasL_le this.1.1 hl', hasL_le this.1.2 hl'⟩
 ·have := h3 c hc
  unfold okAr at this
  simp only [Bool.and_eq_true] at this
  exact ⟨hasL_le this.1.1.1.2 hl', hasL_le this.1.1.2 hl'⟩
 ·have := h5 c hc
  unfold validC at this
  split at this
  ·cases this
  ·unfold headC withinL at this
   simp only [Bool.and_eq_true, List.all_eq_true] at this
   have h6 := this.1.1.1.1.2 x hx
   simp only [decide_eq_true_eq] at h6
   omega
theorem vld_few {K : Nat} {s : SkI} (h : vld K s = true) : manyL s = false := by
 unfold vld at h
 rw [Bool.and_eq_true] at h
 have h2 := of_decide_eq_true h.2
 unfold errS at h2
 cases hm : manyL s with
 | false => rfl
 | true => rw [hm] at h2; cases h2
set_option maxRecDepth 100000 in
set_option maxHeartbeats 6400000 in
theorem law_RemovePoint {K : Nat} {s : SkI} {p : Int} {v0 v1 v2 v3 v4 v5 : Value} {w : World} (h : SkAt K w v0 v1 v2 v3 v4 v5 s) :
  Calls Tryz.prog 9 #[.agg #[v0, v1, v2, v3, v4, v5], .int .i64 p] w fun e w' => e = .returned (.bool true) ∧ Ext w w' := by
 obtain ⟨A0, c0, rfl, -, -⟩ := h.points.form
 obtain ⟨A1, c1, rfl, -, -⟩ := h.circles.form
 obtain ⟨A2, c2, rfl, -, -⟩ := h.segs.form
 obtain ⟨A3, c3, rfl, -, -⟩ := h.arcs.form
 obtain ⟨A4, c4, rfl, -, -⟩ := h.chains.form
 obtain ⟨A5, c5, rfl, -, -⟩ := h.cons.form
 have HBX := Lib.hid (CellsAt.new w [.slice A0 s.points.length c0, .slice A1 s.circles.length c1, .slice A2 s.segs.length c2, .slice A3 s.arcs.length c3, .slice A4 s.chains.length c4, .slice A5 s.cons.length c5] 29)
 have HA := Lib.hid law_awake
 have HV := Lib.hid (fun w1 (hx : Ext w w1) => law_valid (h.ext hx))
 have HG := Lib.hid (fun hv : vld K s = true => (⟨vld_clone hv, ⟨vld_few hv, vld_good hv⟩, h.lower (vld_good hv).small⟩ : CloneOK 61 s ∧ (manyL s = false ∧ GoodS s) ∧ SkAt 61 w _ _ _ _ _ _ s))
 clear h
 generalize vld K s = vd at *
 obtain ⟨y0, y1, y2, y3, y4, y5⟩ := HBX.out.six
 go_enter Tryz.func9, Tryz.ntmps9
 go_wp2_with fail
 refine (HA.out _).mono ?_
 rintro e w1 ⟨rfl, hx1⟩
 have hE1 : Ext w w1 := Ext.trans (Ext.alloc _ _) hx1
 clear y0 y1 y2 y3 y4 y5
 obtain ⟨y0, y1, y2, y3, y4, y5⟩ := (HBX.out.ext hx1).six
 have hlt := (HBX.out.ext hx1).1
 go_wp2_with fail
 refine (HV.out _ hE1).mono ?_
 rintro e w2 ⟨rfl, hx2⟩
 have hB2 := Ext.trans hx1 hx2
 have hE2 := Ext.trans hE1 hx2
 clear y0 y1 y2 y3 y4 y5 hlt
 cases vd with
 | false =>
  go_wp2_with fail
  refine (HA.out _).mono ?_
  rintro e w3 ⟨rfl, hx3⟩
  go_wp2_with fail
  go_ret
  exact ⟨rfl, Ext.trans hE2 hx3⟩
 | true =>
  obtain ⟨hok, ⟨hmn, hgd⟩, hsk⟩ := HG.out rfl
  have HMN := Lib.hid hmn
  have HOK := Lib.hid hok
  have HSK := Lib.hid hsk
  have HGD := Lib.hid hgd
  have hbd : Bnd s := ok_bnd hok.l0 hgd.ok
  have HBD := Lib.hid hbd
  clear hok hsk HG HV HA hgd hbd hmn
  obtain ⟨y0, y1, y2, y3, y4, y5⟩ := (HBX.out.ext hB2).six
  have hlt := (HBX.out.ext hB2).1
  go_wp2_with fail
  refine (ref26_Without (p := -1) (HSK.out.ext hE2) HOK.out HBD.out).mono ?_
  rintro e w3 ⟨r, rfl, ⟨b0, b1, b2, b3, b4, b5, rfl, hsb⟩, hx3⟩
  rw [withoutL_neg] at hsb
  obtain ⟨B0, d0, rfl, -, -⟩ := hsb.points.form
  obtain ⟨B1, d1, rfl, -, -⟩ := hsb.circles.form
  obtain ⟨B2, d2, rfl, -, -⟩ := hsb.segs.form
  obtain ⟨B3, d3, rfl, -, -⟩ := hsb.arcs.form
  obtain ⟨B4, d4, rfl, -, -⟩ := hsb.chains.form
  obtain ⟨B5, d5, rfl, -, -⟩ := hsb.cons.form
  have HSB := Lib.hid hsb
  have hB3 := Ext.trans hB2 hx3
  have hE3 := Ext.trans hE2 hx3
  clear y0 y1 y2 y3 y4 y5 hlt hsb hx3
  obtain ⟨y0, y1, y2, y3, y4, y5⟩ := (HBX.out.ext hB3).six
  have hlt := (HBX.out.ext hB3).1
  go_upto_region 4 with fail
  obtain ⟨W4, hW4⟩ : ∃ W4, w3.alloc (.cells #[.slice B0 s.points.length d0, .slice B1 s.circles.length d1, .slice B2 s.segs.length d2, .slice B3 s.arcs.length d3, .slice B4 s.chains.length d4, .slice B5 s.cons.length d5] 29) = W4 := ⟨_, rfl⟩
  have HB4 : Hid (CellsAt W4 w3.heap.size [.slice B0 s.points.length d0, .slice B1 s.circles.length d1, .slice B2 s.segs.length d2, .slice B3 s.arcs.length d3, .slice B4 s.chains.length d4, .slice B5 s.cons.length d5]) := by rw [← hW4]; exact CellsAt.new w3 _ _
  have hX4 : Ext w3 W4 := by rw [← hW4]; exact Ext.alloc _ _
  have hs4 : w3.heap.size + 1 ≤ W4.heap.size := by rw [← hW4]; simp
  rw [hW4]
  have hB4 := Ext.trans hB3 hX4
  have hE4 := Ext.trans hE3 hX4
  have HSB4 := Lib.hid (HSB.out.ext hX4)
  clear hW4 y0 y1 y2 y3 y4 y5 hlt hB3 hE3 hX4 HSB
  obtain ⟨y0, y1, y2, y3, y4, y5⟩ := (HBX.out.ext hB4).six
  by_cases hi : hasL s.points.length p = true
  ·have hp0 : 0 ≤ p := by unfold hasL at hi; simp at hi; omega
   have hp1 : p < (s.points.length : Int) := by unfold hasL at hi; simp at hi; omega
   cases hn : neededL s p with
   | true =>
    have HR := Lib.hid (sketch_RemovePoint_needed (p := p) (HSK.out.ext hE4) hi hn HOK.out.l5)
    have HNN := Lib.hid (fun w1 (hx : Ext w w1) => ref26_Needed (p := p) (HSK.out.ext hx) HOK.out.l5)
    rw [hn] at HNN
    go_wp2_with fail
    refine (HR.out).mono ?_
    rintro e w5 ⟨r, rfl, hr, hx5⟩
    have hr' : r = .tuple #[.agg #[.slice none 0 0, .slice none 0 0, .slice none 0 0, .slice none 0 0, .slice none 0 0, .slice none 0 0], .int .i64 14] := hr
    subst hr'
    clear hr
    have hB5 := Ext.trans hB4 hx5
    have hE5 := Ext.trans hE4 hx5
    clear y0 y1 y2 y3 y4 y5
    go_upto_region 5 with fail
    obtain ⟨W6, hW6⟩ : ∃ W6, w5.alloc (.cells #[.slice none 0 0, .slice none 0 0, .slice none 0 0, .slice none 0 0, .slice none 0 0, .slice none 0 0] 29) = W6 := ⟨_, rfl⟩
    have HB6 : Hid (CellsAt W6 w5.heap.size [.slice none 0 0, .slice none 0 0, .slice none 0 0, .slice none 0 0, .slice none 0 0, .slice none 0 0]) := by rw [← hW6]; exact CellsAt.new w5 _ _
    have hX6 : Ext w5 W6 := by rw [← hW6]; exact Ext.alloc _ _
    have HB46 := Lib.hid ((HB4.out.ext hx5).ext hX6)
    rw [hW6]
    have hB6 := Ext.trans hB5 hX6
    have hE6 := Ext.trans hE5 hX6
    have HSM := Lib.hid (ref26_Same (HSK.out.ext hE6) ((HSB4.out.ext hx5).ext hX6))
    have HSN := Lib.hid (fun w3 => ref26_Same (sk_nil 61 w3) (sk_nil 61 w3))
    obtain ⟨y0, y1, y2, y3, y4, y5⟩ := (HBX.out.ext hB6).six
    obtain ⟨z0, z1, z2, z3, z4, z5⟩ := HB46.out.six
    go_wp2_with fail
    refine HSM.out.mono ?_
    rintro e w7 ⟨rfl, hx7⟩
    have hB7 := Ext.trans hB6 hx7
    have hE7 := Ext.trans hE6 hx7
    clear y0 y1 y2 y3 y4 y5 z0 z1 z2 z3 z4 z5
    obtain ⟨y0, y1, y2, y3, y4, y5⟩ := (HBX.out.ext hB7).six
    clear hi hn HR
    go_wp2_with fail
    refine (HNN.out _ hE7).mono ?_
    rintro e w8 ⟨rfl, hx8⟩
    clear y0 y1 y2 y3 y4 y5
    obtain ⟨z0, z1, z2, z3, z4, z5⟩ := ((HB6.out.ext hx7).ext hx8).six
    go_wp2_with fail
    refine (HSN.out _).mono ?_
    rintro e w9 ⟨rfl, hx9⟩
    go_wp2_with fail
    go_ret
    exact ⟨rfl, (by repeat first|exact xA _|assumption|refine xB ?_ _|refine xC ?_|refine xD ?_ _|refine xE ?_ (by simp <;> omega) _|refine xF ?_ (by assumption))⟩
   | false =>
    obtain ⟨ip, rfl⟩ : ∃ ip : Nat, p = (ip : Int) := ⟨p.toNat, by omega⟩
    have hip : ip < s.points.length := by omega
    have HR := Lib.hid (sketch_RemovePoint_good (HSK.out.ext hE4) hip hn HOK.out HBD.out)
    have HNN := Lib.hid (fun w1 (hx : Ext w w1) => ref26_Needed (p := (ip : Int)) (HSK.out.ext hx) HOK.out.l5)
    rw [hn] at HNN
    have HWO := Lib.hid (fun w1 (hx : Ext w w1) => ref26_Without (p := (ip : Int)) (HSK.out.ext hx) HOK.out HBD.out)
    have HEQ : Hid (errS 61 (withoutL s (ip : Int)) = 0) := without_err hip HMN.out HGD.out.ok hn
    have HSM2 : Hid (SmallS 61 (withoutL s (ip : Int))) := without_small HGD.out.small
    go_wp2_with fail
    refine (HR.out).mono ?_
    rintro e w5 ⟨r, rfl, ⟨u0, u1, u2, u3, u4, u5, rfl, hsu⟩, hx5⟩
    clear hi hn HR
    generalize withoutL s (ip : Int) = q at *
    obtain ⟨U0, e0, rfl, -, -⟩ := hsu.points.form
    obtain ⟨U1, e1, rfl, -, -⟩ := hsu.circles.form
    obtain ⟨U2, e2, rfl, -, -⟩ := hsu.segs.form
    obtain ⟨U3, e3, rfl, -, -⟩ := hsu.arcs.form
    obtain ⟨U4, e4, rfl, -, -⟩ := hsu.chains.form
    obtain ⟨U5, e5, rfl, -, -⟩ := hsu.cons.form
    have HSU := Lib.hid hsu
    have hB5 := Ext.trans hB4 hx5
    have hE5 := Ext.trans hE4 hx5
    clear y0 y1 y2 y3 y4 y5 hsu
    go_upto_region 5 with fail
    obtain ⟨W6, hW6⟩ : ∃ W6, w5.alloc (.cells #[.slice U0 q.points.length e0, .slice U1 q.circles.length e1, .slice U2 q.segs.length e2, .slice U3 q.arcs.length e3, .slice U4 q.chains.length e4, .slice U5 q.cons.length e5] 29) = W6 := ⟨_, rfl⟩
    have HB6 : Hid (CellsAt W6 w5.heap.size [.slice U0 q.points.length e0, .slice U1 q.circles.length e1, .slice U2 q.segs.length e2, .slice U3 q.arcs.length e3, .slice U4 q.chains.length e4, .slice U5 q.cons.length e5]) := by rw [← hW6]; exact CellsAt.new w5 _ _
    have hX6 : Ext w5 W6 := by rw [← hW6]; exact Ext.alloc _ _
    have HB46 := Lib.hid ((HB4.out.ext hx5).ext hX6)
    have HSU6 := Lib.hid (HSU.out.ext hX6)
    rw [hW6]
    have hB6 := Ext.trans hB5 hX6
    have hE6 := Ext.trans hE5 hX6
    have HSM := Lib.hid (ref26_Same (HSK.out.ext hE6) ((HSB4.out.ext hx5).ext hX6))
    obtain ⟨y0, y1, y2, y3, y4, y5⟩ := (HBX.out.ext hB6).six
    obtain ⟨z0, z1, z2, z3, z4, z5⟩ := HB46.out.six
    go_wp2_with fail
    refine HSM.out.mono ?_
    rintro e w7 ⟨rfl, hx7⟩
    have hB7 := Ext.trans hB6 hx7
    have hE7 := Ext.trans hE6 hx7
    clear y0 y1 y2 y3 y4 y5 z0 z1 z2 z3 z4 z5
    obtain ⟨y0, y1, y2, y3, y4, y5⟩ := (HBX.out.ext hB7).six
    go_wp2_with fail
    refine (HNN.out _ hE7).mono ?_
    rintro e w8 ⟨rfl, hx8⟩
    have hB8 := Ext.trans hB7 hx8
    have hE8 := Ext.trans hE7 hx8
    have HB8 := Lib.hid ((HB6.out.ext hx7).ext hx8)
    have HSU8 := Lib.hid ((HSU6.out.ext hx7).ext hx8)
    have HVA := Lib.hid (fun w1 (hx : Ext w8 w1) => ref26_Valid (K := 61) (by decide) (HSU8.out.ext hx) HSM2.out)
    rw [HEQ.out] at HVA
    clear y0 y1 y2 y3 y4 y5 hW6 hX6 hx7 hx8 hx5 hB6 hB7 hE6 hE7 hB5 hE5 HSM HNN HB46 HB6 HSU HSU6
    obtain ⟨y0, y1, y2, y3, y4, y5⟩ := (HBX.out.ext hB8).six
    obtain ⟨z0, z1, z2, z3, z4, z5⟩ := HB8.out.six
    go_upto_region 11 with fail
    go_region_held3 (fun w' => w'.cell? ⟨w.heap.size, 0, none⟩ = some (.slice A0 s.points.length c0) ∧ w'.cell? ⟨w.heap.size, 1, none⟩ = some (.slice A1 s.circles.length c1) ∧ w'.cell? ⟨w.heap.size, 2, none⟩ = some (.slice A2 s.segs.length c2) ∧ w'.cell? ⟨w.heap.size, 3, none⟩ = some (.slice A3 s.arcs.length c3) ∧ w'.cell? ⟨w.heap.size, 4, none⟩ = some (.slice A4 s.chains.length c4) ∧ w'.cell? ⟨w.heap.size, 5, none⟩ = some (.slice A5 s.cons.length c5) ∧ w'.cell? ⟨w5.heap.size, 0, none⟩ = some (.slice U0 q.points.length e0) ∧ w'.cell? ⟨w5.heap.size, 1, none⟩ = some (.slice U1 q.circles.length e1) ∧ w'.cell? ⟨w5.heap.size, 2, none⟩ = some (.slice U2 q.segs.length e2) ∧ w'.cell? ⟨w5.heap.size, 3, none⟩ = some (.slice U3 q.arcs.length e3) ∧ w'.cell? ⟨w5.heap.size, 4, none⟩ = some (.slice U4 q.chains.length e4) ∧ w'.cell? ⟨w5.heap.size, 5, none⟩ = some (.slice U5 q.cons.length e5)) (first | (exact ⟨iy0, iy1, iy2, iy3, iy4, iy5, iz0, iz1, iz2, iz3, iz4, iz5⟩) | (exact ⟨jy0, jy1, jy2, jy3, jy4, jy5, jz0, jz1, jz2, jz3, jz4, jz5⟩) | (exact ⟨gy0, gy1, gy2, gy3, gy4, gy5, gz0, gz1, gz2, gz3, gz4, gz5⟩) | (exact ⟨y0, y1, y2, y3, y4, y5, z0, z1, z2, z3, z4, z5⟩))
     (first
      | (go_at_call 25; refine (HWO.out _ ?_).mono ?_; (exact (by repeat first|exact xA _|assumption|refine xB ?_ _|refine xC ?_|refine xD ?_ _|refine xE ?_ (by simp <;> omega) _|refine xF ?_ (by assumption))); rintro x w9 ⟨r9, rfl, ⟨o0, o1, o2, o3, o4, o5, rfl, hso⟩, hx9⟩; have hxx9 : Ext w8 w9 := (by repeat first|exact xA _|assumption|refine xB ?_ _|refine xC ?_|refine xD ?_ _|refine xE ?_ (by simp <;> omega) _|refine xF ?_ (by assumption)); obtain ⟨gy0, gy1, gy2, gy3, gy4, gy5⟩ := ((HBX.out.ext hB8).ext hxx9).six; obtain ⟨gz0, gz1, gz2, gz3, gz4, gz5⟩ := (HB8.out.ext hxx9).six)
      | (go_at_call 24; refine (ref26_Same (HSU8.out.ext ?_) (hso.ext ?_)).mono ?_; (exact (by repeat first|exact xA _|assumption|refine xB ?_ _|refine xC ?_|refine xD ?_ _|refine xE ?_ (by simp <;> omega) _|refine xF ?_ (by assumption))); (exact (by repeat first|exact xA _|assumption|refine xB ?_ _|refine xC ?_|refine xD ?_ _|refine xE ?_ (by simp <;> omega) _|refine xF ?_ (by assumption))); rintro x wa ⟨rfl, hxa⟩; have hxxa : Ext w8 wa := (by repeat first|exact xA _|assumption|refine xB ?_ _|refine xC ?_|refine xD ?_ _|refine xE ?_ (by simp <;> omega) _|refine xF ?_ (by assumption)); obtain ⟨jy0, jy1, jy2, jy3, jy4, jy5⟩ := ((HBX.out.ext hB8).ext hxxa).six; obtain ⟨jz0, jz1, jz2, jz3, jz4, jz5⟩ := (HB8.out.ext hxxa).six)
      | (go_at_call 13; refine (HVA.out _ ?_).mono ?_; (exact (by repeat first|exact xA _|assumption|refine xB ?_ _|refine xC ?_|refine xD ?_ _|refine xE ?_ (by simp <;> omega) _|refine xF ?_ (by assumption))); rintro x wb ⟨rfl, hxb⟩; have hxxb : Ext w8 wb := (by repeat first|exact xA _|assumption|refine xB ?_ _|refine xC ?_|refine xD ?_ _|refine xE ?_ (by simp <;> omega) _|refine xF ?_ (by assumption)); obtain ⟨iy0, iy1, iy2, iy3, iy4, iy5⟩ := ((HBX.out.ext hB8).ext hxxb).six; obtain ⟨iz0, iz1, iz2, iz3, iz4, iz5⟩ := (HB8.out.ext hxxb).six))
    go_wp2_with fail
    go_ret
    exact ⟨rfl, (by repeat first|exact xA _|assumption|refine xB ?_ _|refine xC ?_|refine xD ?_ _|refine xE ?_ (by simp <;> omega) _|refine xF ?_ (by assumption))⟩
  ·have hi' : hasL s.points.length p = false := by simpa using hi
   have HR := Lib.hid (sketch_RemovePoint_bad (p := p) (HSK.out.ext hE4) hi')
   go_wp2_with fail
   refine (HR.out).mono ?_
   rintro e w5 ⟨r, rfl, hr, hx5⟩
   have hr' : r = .tuple #[.agg #[.slice none 0 0, .slice none 0 0, .slice none 0 0, .slice none 0 0, .slice none 0 0, .slice none 0 0], .int .i64 1] := hr
   subst hr'
   clear hr
   have hB5 := Ext.trans hB4 hx5
   have hE5 := Ext.trans hE4 hx5
   clear y0 y1 y2 y3 y4 y5
   go_upto_region 5 with fail
   obtain ⟨W6, hW6⟩ : ∃ W6, w5.alloc (.cells #[.slice none 0 0, .slice none 0 0, .slice none 0 0, .slice none 0 0, .slice none 0 0, .slice none 0 0] 29) = W6 := ⟨_, rfl⟩
   have HB6 : Hid (CellsAt W6 w5.heap.size [.slice none 0 0, .slice none 0 0, .slice none 0 0, .slice none 0 0, .slice none 0 0, .slice none 0 0]) := by rw [← hW6]; exact CellsAt.new w5 _ _
   have hX6 : Ext w5 W6 := by rw [← hW6]; exact Ext.alloc _ _
   have HB46 := Lib.hid ((HB4.out.ext hx5).ext hX6)
   rw [hW6]
   have hB6 := Ext.trans hB5 hX6
   have hE6 := Ext.trans hE5 hX6
   have HSM := Lib.hid (ref26_Same (HSK.out.ext hE6) ((HSB4.out.ext hx5).ext hX6))
   have HSN := Lib.hid (fun w3 => ref26_Same (sk_nil 61 w3) (sk_nil 61 w3))
   obtain ⟨y0, y1, y2, y3, y4, y5⟩ := (HBX.out.ext hB6).six
   obtain ⟨z0, z1, z2, z3, z4, z5⟩ := HB46.out.six
   go_wp2_with fail
   refine HSM.out.mono ?_
   rintro e w7 ⟨rfl, hx7⟩
   have hB7 := Ext.trans hB6 hx7
   have hE7 := Ext.trans hE6 hx7
   clear y0 y1 y2 y3 y4 y5 z0 z1 z2 z3 z4 z5
   obtain ⟨y0, y1, y2, y3, y4, y5⟩ := (HBX.out.ext hB7).six
   obtain ⟨z0, z1, z2, z3, z4, z5⟩ := (HB6.out.ext hx7).six
   have hcase : p < 0 ∨ (0 ≤ p ∧ (s.points.length : Int) ≤ p) := by unfold hasL at hi; simp at hi; omega
   clear hi hi' HR
   rcases hcase with hc | ⟨hc1, hc2⟩
   all_goals
    go_wp2_with fail
    refine (HSN.out _).mono ?_
    rintro e w8 ⟨rfl, hx8⟩
    go_wp2_with fail
    go_ret
    exact ⟨rfl, (by repeat first|exact xA _|assumption|refine xB ?_ _|refine xC ?_|refine xD ?_ _|refine xE ?_ (by simp <;> omega) _|refine xF ?_ (by assumption))⟩
end Go.Proofs.YtonleohlplkglaaGreatDoor
namespace Go.Proofs.YtonleohlplkglaaGreatDoor
open Go Go.RowKit
theorem rp_args {H : Type} {enc : TypeId × Value → H} {W : World} {fuel : Nat} {cs : Array Value} {d : DataW H} {p : List MemPlace} (h : DataW.trod enc Tryz.prog W 0 (fun _ => true) true fuel 29 cs.toList = some (d, p)) (hw : (d.weights Tryz.prog 29).all (· ≤ reachBytes) = true) :
  ∃ v0 v1 v2 v3 v4 v5 s, cs = #[v0, v1, v2, v3, v4, v5] ∧ SkAt fuel W v0 v1 v2 v3 v4 v5 s := by
 obtain ⟨u0, u1, u2, u3, u4, u5, s, hcells, hSk⟩ := sk_read (enc := enc) (x := (d, p)) h hw
 exact ⟨u0, u1, u2, u3, u4, u5, s, Array.ext' hcells, hSk⟩
theorem removePoint_law : LawSI 9 := by
 intro H enc W fuel cs k d p h hw _
 obtain ⟨v0, v1, v2, v3, v4, v5, s, rfl, hs⟩ := rp_args h hw
 exact law_RemovePoint hs
theorem sketchRemovePoint_proved : Rows.SketchRemovePointCardSaid := sketchRemovePoint_card removePoint_law
#print axioms sketchRemovePoint_proved
end Go.Proofs.YtonleohlplkglaaGreatDoor
