/- The statements' own functions awake and valid. -/
import Derived.Test.YtonleohlplkglaaGreatDoorWH
import Derived.Test.YtonleohlplkglaaGreatDoorWG
import Derived.Test.YtonleohlplkglaaGreatDoorWC
import Derived.Test.YtonleohlplkglaaGreatDoorWI
namespace Go.Proofs.YtonleohlplkglaaGreatDoor
open Go Go.RowKit
/-- A small and valid sketch. -/
def vld (K : Nat) (s : SkI) : Bool := smallB K s && decide (errS 61 s = 0)
structure GoodS (s : SkI) : Prop where
 few : headS s = true
 small : SmallS 61 s
 ok : okS 61 s = true
theorem vld_good {K : Nat} {s : SkI} (h : vld K s = true) : GoodS s := by
 unfold vld at h
 rw [Bool.and_eq_true] at h
 obtain ⟨h1, h2⟩ := h
 have h2 := of_decide_eq_true h2
 refine ⟨?_, SmallS.of_B h1, ?_⟩
 ·unfold smallB at h1
  simp only [Bool.and_eq_true] at h1
  exact h1.1.1.1.1
 ·unfold errS at h2
  split at h2
  ·cases h2
  ·split at h2
   ·assumption
   ·cases h2
set_option maxHeartbeats 1600000 in
theorem law_valid {K : Nat} {s : SkI} {v0 v1 v2 v3 v4 v5 : Value} {w : World} (h : SkAt K w v0 v1 v2 v3 v4 v5 s) :
  Calls Tryz.prog 14 #[.agg #[v0, v1, v2, v3, v4, v5]] w fun e w' => e = .returned (.bool (vld K s)) ∧ Ext w w' := by
 have HBX := Lib.hid (CellsAt.new w [v0, v1, v2, v3, v4, v5] 29)
 have HS := Lib.hid (fun w1 (hx : Ext w w1) => ref26_Small (h.ext hx))
 have HV := Lib.hid (fun (hs : smallB K s = true) w1 (hx : Ext w w1) => ref26_Valid (K := 61) (by omega) ((h.ext hx).lower (SmallS.of_B hs)) (SmallS.of_B hs))
 have HE : Hid (vld K s = (smallB K s && decide (errS 61 s = 0))) := rfl
 clear h
 generalize smallB K s = sm at *
 generalize vld K s = r at *
 generalize errS 61 s = er at *
 obtain ⟨y0, y1, y2, y3, y4, y5⟩ := HBX.out.six
 go_enter Tryz.func14, Tryz.ntmps14
 go_wp2_with fail
 refine (HS.out _ (Ext.alloc _ _)).mono ?_
 rintro e w1 ⟨rfl, hx1⟩
 cases sm with
 | false =>
  go_wp2_with fail
  go_ret
  exact ⟨by rw [HE.out]; rfl, (by repeat first|exact xA _|assumption|refine xB ?_ _|refine xC ?_|refine xD ?_ _|refine xE ?_ (by simp <;> omega) _|refine xF ?_ (by assumption))⟩
 | true =>
  clear y0 y1 y2 y3 y4 y5
  obtain ⟨y0, y1, y2, y3, y4, y5⟩ := (HBX.out.ext hx1).six
  have hlt1 := (HBX.out.ext hx1).1
  go_wp2_with fail
  refine (HV.out trivial _ (by repeat first|exact xA _|assumption|refine xB ?_ _|refine xC ?_|refine xD ?_ _|refine xE ?_ (by simp <;> omega) _|refine xF ?_ (by assumption))).mono ?_
  rintro e w2 ⟨rfl, hx2⟩
  go_wp2_with fail
  go_ret
  refine ⟨?_, (by repeat first|exact xA _|assumption|refine xB ?_ _|refine xC ?_|refine xD ?_ _|refine xE ?_ (by simp <;> omega) _|refine xF ?_ (by assumption))⟩
  rw [HE.out]
  by_cases h0 : er = 0 <;> simp [h0]
theorem limbs_small {n : Nat} (h0 : n ≠ 0) (h : n < 4294967296) : limbs n = [n] := by
 rw [limbs_pos h0, Nat.div_eq_of_lt h, Nat.mod_eq_of_lt h, limbs_zero]
theorem limbs_len_small : ∀ n, n < 5 → (limbs n).length ≤ 2 := by
 intro n hn
 by_cases h0 : n = 0
 ·subst h0; rw [limbs_zero]; decide
 ·rw [limbs_small h0 (by omega)]; simp
def exT : SkI := { points := [⟨⟨⟨false, []⟩, ⟨false, [1]⟩⟩, ⟨⟨false, []⟩, ⟨false, [1]⟩⟩⟩, ⟨⟨⟨false, [2]⟩, ⟨false, [1]⟩⟩, ⟨⟨false, []⟩, ⟨false, [1]⟩⟩⟩, ⟨⟨⟨false, [3]⟩, ⟨false, [1]⟩⟩, ⟨⟨false, [4]⟩, ⟨false, [1]⟩⟩⟩], circles := [⟨0, ⟨⟨false, [2]⟩, ⟨false, [1]⟩⟩⟩, ⟨2, ⟨⟨false, [1]⟩, ⟨false, [1]⟩⟩⟩], segs := [], arcs := [⟨0, 1, 1, false⟩], chains := [], cons := [] }
theorem exS_eq : exS = exT := by
 unfold exS exT qOf
 rw [limbs_zero, limbs_small (n := 1) (by omega) (by omega), limbs_small (n := 2) (by omega) (by omega), limbs_small (n := 3) (by omega) (by omega), limbs_small (n := 4) (by omega) (by omega)]
theorem exS_impl : (impP exS).length = 1 := by decide
theorem exS_err : errS 1 exS = 0 := by rw [exS_eq]; decide
theorem ratV_small {q : QI} (w : World) (hx : q.num.mag.length ≤ 2) (hy : q.den.mag.length ≤ 2) : RatV w q := fun _ _ _ _ h h' => rat_Valid_small h h' hx hy
theorem exS_V {w : World} {v0 v1 v2 v3 v4 v5 : Value} : SkV 1 w v0 v1 v2 v3 v4 v5 exS where
 pts := by
  intro p hp
  simp only [exS, List.mem_cons, List.not_mem_nil, or_false] at hp
  rcases hp with rfl | rfl | rfl
  ·exact ⟨ratV_small w (limbs_len_small 0 (by omega)) (limbs_len_small 1 (by omega)), ratV_small w (limbs_len_small 0 (by omega)) (limbs_len_small 1 (by omega))⟩
  ·exact ⟨ratV_small w (limbs_len_small 2 (by omega)) (limbs_len_small 1 (by omega)), ratV_small w (limbs_len_small 0 (by omega)) (limbs_len_small 1 (by omega))⟩
  ·exact ⟨ratV_small w (limbs_len_small 3 (by omega)) (limbs_len_small 1 (by omega)), ratV_small w (limbs_len_small 4 (by omega)) (limbs_len_small 1 (by omega))⟩
 rds := by
  intro c hc
  simp only [exS, List.mem_cons, List.not_mem_nil, or_false] at hc
  rcases hc with rfl | rfl
  ·exact ratV_small w (limbs_len_small 2 (by omega)) (limbs_len_small 1 (by omega))
  ·exact ratV_small w (limbs_len_small 1 (by omega)) (limbs_len_small 1 (by omega))
 sgn := fun W c v v' h => rat_Sign h
 chs := fun W v c hc => by simp [exS] at hc
 cns := fun W pv cv vv c hc => by simp [exS] at hc
set_option maxRecDepth 100000 in
set_option maxHeartbeats 1600000 in
theorem law_awake (w : World) : Calls Tryz.prog 10 #[] w fun e w' => e = .returned (.bool true) ∧ Ext w w' := by
 have HX := Lib.hid (law_example w)
 go_enter Tryz.func10, Tryz.ntmps10
 go_wp2_with fail
 refine HX.out.mono ?_
 rintro e w1 ⟨r, rfl, ⟨v0, v1, v2, v3, v4, v5, rfl, hsk⟩, hx1⟩
 obtain ⟨B0, c0, rfl, -, -⟩ := hsk.points.form
 obtain ⟨B1, c1, rfl, -, -⟩ := hsk.circles.form
 obtain ⟨B2, c2, rfl, -, -⟩ := hsk.segs.form
 obtain ⟨B3, c3, rfl, -, -⟩ := hsk.arcs.form
 obtain ⟨B4, c4, rfl, -, -⟩ := hsk.chains.form
 obtain ⟨B5, c5, rfl, -, -⟩ := hsk.cons.form
 have HBX := Lib.hid (CellsAt.new w1 [.slice B0 exS.points.length c0, .slice B1 exS.circles.length c1, .slice B2 exS.segs.length c2, .slice B3 exS.arcs.length c3, .slice B4 exS.chains.length c4, .slice B5 exS.cons.length c5] 29)
 have HS := Lib.hid hsk
 have HV := Lib.hid (fun w2 (hx : Ext w1 w2) => sketch_Valid (hsk.ext hx) exS_V)
 have HI := Lib.hid (fun w2 (hx : Ext w1 w2) => sketch_Implied (hsk.ext hx) (by decide))
 have HN := Lib.hid (fun w2 (hx : Ext w1 w2) => sketch_Vars (hsk.ext hx) (by decide) (by decide))
 have HD := Lib.hid (fun w2 (hx : Ext w1 w2) => sketch_Drawn (hsk.ext hx) (by decide) (by decide))
 rw [exS_err] at HV
 have HI1 := Lib.hid exS_impl
 clear hsk
 obtain ⟨y0, y1, y2, y3, y4, y5⟩ := HBX.out.six
 go_wp2_with fail
 refine (HV.out _ (Ext.alloc _ _)).mono ?_
 rintro e w2 ⟨rfl, hx2⟩
 have hE2 : Ext w1 w2 := Ext.trans (Ext.alloc _ _) hx2
 clear y0 y1 y2 y3 y4 y5
 obtain ⟨y0, y1, y2, y3, y4, y5⟩ := (HBX.out.ext hx2).six
 have hlt := (HBX.out.ext hx2).1
 go_wp2_with fail
 refine (HN.out _ hE2).mono ?_
 rintro e w3 ⟨rfl, hx3⟩
 have hB3 := Ext.trans hx2 hx3
 have hE3 := Ext.trans hE2 hx3
 clear y0 y1 y2 y3 y4 y5 hlt
 obtain ⟨y0, y1, y2, y3, y4, y5⟩ := (HBX.out.ext hB3).six
 have hlt := (HBX.out.ext hB3).1
 have hnn : ((2 * exS.points.length + exS.circles.length : Nat) : Int) = 8 := by decide
 rw [hnn]
 go_wp2_with fail
 refine (HI.out _ hE3).mono ?_
 rintro e w4 ⟨r, rfl, ⟨ho, hl⟩, hx4⟩
 obtain ⟨A, c, rfl⟩ := ho.form
 rw [HI1.out]
 have hB4 := Ext.trans hB3 hx4
 have hE4 := Ext.trans hE3 hx4
 clear y0 y1 y2 y3 y4 y5 hlt ho hl
 obtain ⟨y0, y1, y2, y3, y4, y5⟩ := (HBX.out.ext hB4).six
 have hlt := (HBX.out.ext hB4).1
 go_wp2_with fail
 refine (HD.out _ hE4).mono ?_
 rintro e w5 ⟨r, rfl, ⟨A', c', rfl⟩, hx5⟩
 have hnd : 2 * exS.points.length + exS.circles.length = 8 := by decide
 rw [hnd]
 go_wp2_with fail
 go_ret
 exact ⟨rfl, Ext.trans hx1 (Ext.trans hE4 hx5)⟩
end Go.Proofs.YtonleohlplkglaaGreatDoor
namespace Go.Proofs.YtonleohlplkglaaGreatDoor
open Go Go.RowKit
def lessI (n p : Int) : Int := if 0 ≤ p ∧ p < n then n - 1 else n
def ptsW (l : List PtI) (p : Int) : List PtI := if 0 ≤ p then l.eraseIdx p.toNat else l
def lessC (p : Int) (c : CI) : CI := { c with points := c.points.map (lessI · p) }
def lessR (p : Int) (c : RdI) : RdI := ⟨lessI c.center p, c.radius⟩
def lessG (p : Int) (g : SgI) : SgI := ⟨lessI g.a p, lessI g.b p⟩
def lessA (p : Int) (a : ArI) : ArI := ⟨a.circle, lessI a.a p, lessI a.b p, a.cw⟩
def withoutL (s : SkI) (p : Int) : SkI := ⟨ptsW s.points p, s.circles.map (lessR p), s.segs.map (lessG p), s.arcs.map (lessA p), s.chains, s.cons.map (lessC p)⟩
def neededL (s : SkI) (p : Int) : Bool := s.circles.any (fun c => decide (c.center = p)) || s.segs.any (fun g => decide (g.a = p) || decide (g.b = p)) || s.arcs.any (fun a => decide (a.a = p) || decide (a.b = p)) || decide (0 < (usersL s p).length)
theorem lessI_neg (n : Int) : lessI n (-1) = n := by unfold lessI; rw [if_neg (by omega)]
theorem map_same {α : Type} {f : α → α} (l : List α) (h : ∀ x, f x = x) : l.map f = l := by
 rw [List.map_congr_left (fun x _ => h x), List.map_id']
theorem withoutL_neg (s : SkI) : withoutL s (-1) = s := by
 unfold withoutL ptsW
 rw [if_neg (by omega), map_same s.circles (fun c => by unfold lessR; rw [lessI_neg]), map_same s.segs (fun c => by unfold lessG; rw [lessI_neg, lessI_neg]), map_same s.arcs (fun c => by unfold lessA; rw [lessI_neg, lessI_neg]), map_same s.cons (fun c => by
  unfold lessC
  rw [map_same c.points (fun x => lessI_neg x)])]
theorem lessI_inj {a b p : Int} (ha : a ≠ p) (hb : b ≠ p) (h : lessI a p = lessI b p) : a = b := by
 unfold lessI at h
 split at h <;> split at h <;> omega
theorem lessI_dec {a b p : Int} (ha : a ≠ p) (hb : b ≠ p) : decide (lessI a p = lessI b p) = decide (a = b) := by
 by_cases h : a = b
 ·subst h; simp
 ·have : lessI a p ≠ lessI b p := fun e => h (lessI_inj ha hb e)
  simp [h, this]
theorem hasL_less {n a p : Int} (h : hasL n a = true) (ha : a ≠ p) (h0 : 0 ≤ p) (hp : p < n) : hasL (n - 1) (lessI a p) = true := by
 unfold hasL at h ⊢
 simp only [Bool.and_eq_true, decide_eq_true_eq] at h ⊢
 unfold lessI
 split <;> omega
section
variable {s : SkI} {p : Nat}
theorem ptsW_nat (l : List PtI) (p : Nat) : ptsW l (p : Int) = l.eraseIdx p := by unfold ptsW; rw [if_pos (by omega)]; rfl
theorem usersFrom_mem (p : Int) : ∀ (l : List CI) (i : Nat) (c : CI), c ∈ l → p ∈ c.points → 0 < (usersFrom p i l).length
 | [], _, _, h, _ => by cases h
 | a :: l, i, c, h, hp => by
  unfold usersFrom
  rcases List.mem_cons.1 h with rfl | h
  ·rw [if_pos (by simpa using hp)]; simp
  ·have := usersFrom_mem p l (i + 1) c h hp
   split <;> simp <;> omega
theorem needed_parts (h : neededL s (p : Int) = false) : (∀ c ∈ s.circles, c.center ≠ (p : Int)) ∧ (∀ g ∈ s.segs, g.a ≠ (p : Int) ∧ g.b ≠ (p : Int)) ∧ (∀ a ∈ s.arcs, a.a ≠ (p : Int) ∧ a.b ≠ (p : Int)) ∧ ∀ c ∈ s.cons, ∀ x ∈ c.points, x ≠ (p : Int) := by
 unfold neededL at h
 simp only [Bool.or_eq_false_iff, List.any_eq_false, decide_eq_true_eq, Bool.or_eq_true, not_or, decide_eq_false_iff_not] at h
 obtain ⟨⟨⟨h1, h2⟩, h3⟩, h4⟩ := h
 refine ⟨h1, h2, h3, fun c hc x hx e => h4 ?_⟩
 subst e
 exact usersFrom_mem _ s.cons 0 c hc hx
theorem center_less (h : ∀ c ∈ s.circles, c.center ≠ (p : Int)) {i : Int} (hi : hasL s.circles.length i = true) : centerOf (withoutL s p) i = lessI (centerOf s i) p ∧ centerOf s i ≠ (p : Int) := by
 unfold hasL at hi
 simp only [Bool.and_eq_true, decide_eq_true_eq] at hi
 have hl : i.toNat < s.circles.length := by omega
 unfold centerOf
 rw [show (withoutL s p).circles = s.circles.map (lessR p) from rfl, List.getElem?_map, List.getElem?_eq_getElem hl]
 exact ⟨rfl, h _ (List.getElem_mem hl)⟩
theorem ends_less (h2 : ∀ g ∈ s.segs, g.a ≠ (p : Int) ∧ g.b ≠ (p : Int)) (h3 : ∀ a ∈ s.arcs, a.a ≠ (p : Int) ∧ a.b ≠ (p : Int)) {c : PcI} (hc : okPc s c = true) :
  endsOf (withoutL s p) c = (lessI (endsOf s c).1 p, lessI (endsOf s c).2 p) ∧ (endsOf s c).1 ≠ (p : Int) ∧ (endsOf s c).2 ≠ (p : Int) := by
 obtain ⟨i, hi, g1, g2⟩ := okPc_idx hc
 obtain ⟨arc, index, back⟩ := c
 dsimp only at hi g1 g2
 subst hi
 cases arc with
 | true =>
  have hl := g1 rfl
  have hm := h3 _ (List.getElem_mem hl)
  unfold endsOf
  rw [show (withoutL s p).arcs = s.arcs.map (lessA p) from rfl]
  dsimp only
  rw [show ((i : Int)).toNat = i by omega, List.getElem?_map, List.getElem?_eq_getElem hl]
  cases back
  ·exact ⟨rfl, hm.1, hm.2⟩
  ·exact ⟨rfl, hm.2, hm.1⟩
 | false =>
  have hl := g2 rfl
  have hm := h2 _ (List.getElem_mem hl)
  unfold endsOf
  rw [show (withoutL s p).segs = s.segs.map (lessG p) from rfl]
  dsimp only
  rw [show ((i : Int)).toNat = i by omega, List.getElem?_map, List.getElem?_eq_getElem hl]
  cases back
  ·exact ⟨rfl, hm.1, hm.2⟩
  ·exact ⟨rfl, hm.2, hm.1⟩
theorem okPc_less (c : PcI) : okPc (withoutL s p) c = okPc s c := by
 unfold okPc
 rw [show (withoutL s p).arcs.length = s.arcs.length from List.length_map .., show (withoutL s p).segs.length = s.segs.length from List.length_map ..]
theorem chain_less (h2 : ∀ g ∈ s.segs, g.a ≠ (p : Int) ∧ g.b ≠ (p : Int)) (h3 : ∀ a ∈ s.arcs, a.a ≠ (p : Int) ∧ a.b ≠ (p : Int)) : ∀ (l : List PcI) (o : Option Int), (∀ e, o = some e → e ≠ (p : Int)) → chainFrom s o l = true → chainFrom (withoutL s p) (o.map (lessI · p)) l = true
 | [], _, _, _ => rfl
 | q :: l, o, ho, h => by
  unfold chainFrom at h ⊢
  simp only [Bool.and_eq_true] at h ⊢
  obtain ⟨⟨k1, k2⟩, k3⟩ := h
  obtain ⟨e1, e2, e3⟩ := ends_less h2 h3 k1
  refine ⟨⟨by rw [okPc_less]; exact k1, ?_⟩, ?_⟩
  ·cases o with
   | none => rfl
   | some e =>
    have k2' : decide (e = (endsOf s q).1) = true := k2
    show decide (lessI e p = (endsOf (withoutL s p) q).1) = true
    rw [e1, lessI_dec (ho e rfl) e2]
    exact k2'
  ·rw [e1]
   exact chain_less h2 h3 l (some (endsOf s q).2) (fun e he => by injection he with he; rw [← he]; exact e3) k3
theorem within_less {l : List Int} {n : Int} (h : withinL l n = true) (hne : ∀ x ∈ l, x ≠ (p : Int)) (hp : (p : Int) < n) : withinL (l.map (lessI · p)) (n - 1) = true := by
 unfold withinL at h ⊢
 rw [List.all_eq_true] at h ⊢
 intro x hx
 obtain ⟨y, hy, rfl⟩ := List.mem_map.1 hx
 exact hasL_less (h y hy) (hne y hy) (by omega) hp
theorem nodup_less {l : List Int} (h : l.Nodup) (hne : ∀ x ∈ l, x ≠ (p : Int)) : (l.map (lessI · p)).Nodup := by
 rw [List.nodup_iff_pairwise_ne, List.pairwise_map]
 rw [List.nodup_iff_pairwise_ne] at h
 exact (List.Pairwise.and_mem.1 h).imp fun ⟨ha, hb, hab⟩ e => hab (lessI_inj (hne _ ha) (hne _ hb) e)
theorem getD_less {l : List Int} {k : Nat} (hk : k < l.length) : (l.map (lessI · p)).getD k 0 = lessI (l.getD k 0) p := by
 rw [List.getD_eq_getElem?_getD, List.getD_eq_getElem?_getD, List.getElem?_map, List.getElem?_eq_getElem hk]; rfl
theorem pairs_less {l : List Int} (h4 : l.length = 4) (hne : ∀ x ∈ l, x ≠ (p : Int)) : pairsL (l.map (lessI · p)) = pairsL l := by
 have m : ∀ k, k < 4 → l.getD k 0 ≠ (p : Int) := fun k hk => by
  rw [List.getD_eq_getElem?_getD, List.getElem?_eq_getElem (by omega)]
  exact hne _ (List.getElem_mem _)
 unfold pairsL samePair
 rw [getD_less (by omega), getD_less (by omega), getD_less (by omega), getD_less (by omega)]
 rw [lessI_dec (m 0 (by omega)) (m 1 (by omega)), lessI_dec (m 2 (by omega)) (m 3 (by omega)), lessI_dec (m 0 (by omega)) (m 2 (by omega)), lessI_dec (m 1 (by omega)) (m 3 (by omega)), lessI_dec (m 0 (by omega)) (m 3 (by omega)), lessI_dec (m 1 (by omega)) (m 2 (by omega))]
theorem valid_less {K : Nat} {c : CI} {np nc : Int} (h : validC K c np nc = true) (hne : ∀ x ∈ c.points, x ≠ (p : Int)) (hp : (p : Int) < np) : validC K (lessC p c) (np - 1) nc = true := by
 unfold validC at h ⊢
 rw [show (lessC p c).kind = c.kind from rfl]
 cases hr : kRow c.kind with
 | none => rw [hr] at h; cases h
 | some r =>
  rw [hr] at h
  dsimp only at h ⊢
  simp only [Bool.and_eq_true] at h ⊢
  obtain ⟨⟨⟨h1, h2⟩, h3⟩, h4⟩ := h
  unfold headC at h1 ⊢
  simp only [Bool.and_eq_true] at h1 ⊢
  obtain ⟨⟨⟨⟨k1, k2⟩, k3⟩, k4⟩, k5⟩ := h1
  refine ⟨⟨⟨⟨⟨⟨⟨?_, k2⟩, k3⟩, within_less k4 hne hp⟩, k5⟩, h2⟩, h3⟩, ?_⟩
  ·rw [show (lessC p c).points.length = c.points.length from List.length_map ..]; exact k1
  ·unfold tailC at h4 ⊢
   rw [show (lessC p c).kind = c.kind from rfl]
   cases hpr : isPair c.kind with
   | true =>
    rw [hpr] at h4
    have h40 := kRow_pair hr (by simpa [isPair] using hpr)
    have h41 : (c.points.length : Int) = r.p := of_decide_eq_true k1
    rw [if_pos rfl] at h4 ⊢
    rw [show (lessC p c).points = c.points.map (lessI · p) from rfl, pairs_less (by omega) hne]
    exact h4
   | false =>
    rw [hpr] at h4
    rw [if_neg (by simp)] at h4 ⊢
    simp only [Bool.and_eq_true, decide_eq_true_eq] at h4 ⊢
    exact ⟨nodup_less h4.1 hne, h4.2⟩
theorem without_ok {K : Nat} (hp : p < s.points.length) (hok : okS K s = true) (hn : neededL s (p : Int) = false) : okS K (withoutL s p) = true := by
 obtain ⟨n1, n2, n3, n4⟩ := needed_parts hn
 have hlen : (((withoutL s p).points.length : Nat) : Int) = (s.points.length : Int) - 1 := by
  show ((ptsW s.points (p : Int)).length : Int) = _
  rw [ptsW_nat, List.length_eraseIdx, if_pos hp]; omega
 have hlc : (withoutL s p).circles.length = s.circles.length := List.length_map ..
 have hpi : (p : Int) < (s.points.length : Int) := by omega
 unfold okS at hok ⊢
 simp only [Bool.and_eq_true, List.all_eq_true] at hok ⊢
 obtain ⟨⟨⟨⟨⟨h1, h2⟩, h3⟩, h4⟩, h5⟩, h6⟩ := hok
 refine ⟨⟨⟨⟨⟨fun x hx => ?_, fun x hx => ?_⟩, fun x hx => ?_⟩, fun x hx => ?_⟩, fun x hx => ?_⟩, fun x hx => ?_⟩
 ·have : x ∈ s.points.eraseIdx p := by rw [← ptsW_nat]; exact hx
  exact h1 x (List.mem_of_mem_eraseIdx this)
 ·obtain ⟨c, hc, rfl⟩ := List.mem_map.1 hx
  have := h2 c hc
  unfold okRd at this ⊢
  simp only [Bool.and_eq_true] at this ⊢
  rw [hlen]
  exact ⟨⟨hasL_less this.1.1 (n1 c hc) (by omega) hpi, this.1.2⟩, this.2⟩
 ·obtain ⟨c, hc, rfl⟩ := List.mem_map.1 hx
  have := h3 c hc
  unfold okSg at this ⊢
  simp only [Bool.and_eq_true] at this ⊢
  rw [hlen]
  refine ⟨⟨hasL_less this.1.1 (n2 c hc).1 (by omega) hpi, hasL_less this.1.2 (n2 c hc).2 (by omega) hpi⟩, ?_⟩
  show (!decide (lessI c.a p = lessI c.b p)) = true
  rw [lessI_dec (n2 c hc).1 (n2 c hc).2]
  exact this.2
 ·obtain ⟨c, hc, rfl⟩ := List.mem_map.1 hx
  have := h4 c hc
  unfold okAr at this ⊢
  simp only [Bool.and_eq_true] at this ⊢
  obtain ⟨⟨⟨⟨k1, k2⟩, k3⟩, k4⟩, k5⟩ := this
  obtain ⟨e1, e2⟩ := center_less (p := p) n1 k1
  rw [hlen, hlc]
  refine ⟨⟨⟨⟨k1, hasL_less k2 (n3 c hc).1 (by omega) hpi⟩, hasL_less k3 (n3 c hc).2 (by omega) hpi⟩, ?_⟩, ?_⟩
  ·show (!decide (lessI c.a p = centerOf (withoutL s p) c.circle)) = true
   rw [e1, lessI_dec (n3 c hc).1 e2]; exact k4
  ·show (!decide (lessI c.b p = centerOf (withoutL s p) c.circle)) = true
   rw [e1, lessI_dec (n3 c hc).2 e2]; exact k5
 ·have := h5 x hx
  unfold chainL at this ⊢
  rw [Bool.and_eq_true] at this ⊢
  exact ⟨chain_less n2 n3 x none (fun e he => by cases he) this.1, this.2⟩
 ·obtain ⟨c, hc, rfl⟩ := List.mem_map.1 hx
  rw [hlen, hlc]
  exact valid_less (h6 c hc) (n4 c hc) hpi
theorem without_many (h : manyL s = false) : manyL (withoutL s p) = false := by
 unfold manyL at h ⊢
 simp only [Bool.or_eq_false_iff, decide_eq_false_iff_not, List.any_eq_false, decide_eq_true_eq] at h ⊢
 obtain ⟨⟨⟨⟨⟨⟨h1, h2⟩, h3⟩, h4⟩, h5⟩, h6⟩, h7⟩ := h
 have e1 : (withoutL s p).points.length ≤ s.points.length := by
  show (ptsW s.points (p : Int)).length ≤ _
  rw [ptsW_nat]; exact List.length_eraseIdx_le _ _
 have e2 : (withoutL s p).circles.length = s.circles.length := List.length_map ..
 have e3 : (withoutL s p).segs.length = s.segs.length := List.length_map ..
 have e4 : (withoutL s p).arcs.length = s.arcs.length := List.length_map ..
 have e5 : (withoutL s p).cons.length = s.cons.length := List.length_map ..
 exact ⟨⟨⟨⟨⟨⟨h1, by omega⟩, by omega⟩, by omega⟩, by omega⟩, h6⟩, by omega⟩
theorem without_small {K : Nat} (h : SmallS K s) : SmallS K (withoutL s p) := by
 refine ⟨fun x hx => ?_, fun x hx => ?_, fun x hx => ?_⟩
 ·have : x ∈ s.points.eraseIdx p := by rw [← ptsW_nat]; exact hx
  exact h.points x (List.mem_of_mem_eraseIdx this)
 ·obtain ⟨c, hc, rfl⟩ := List.mem_map.1 hx
  exact h.circles c hc
 ·obtain ⟨c, hc, rfl⟩ := List.mem_map.1 hx
  exact h.cons c hc
theorem without_err {K : Nat} (hp : p < s.points.length) (hm : manyL s = false) (hok : okS K s = true) (hn : neededL s (p : Int) = false) : errS K (withoutL s p) = 0 := by
 unfold errS
 rw [without_many hm, without_ok hp hok hn]
 rfl
end
end Go.Proofs.YtonleohlplkglaaGreatDoor
namespace Go.Proofs.YtonleohlplkglaaGreatDoor
open Go Go.RowKit
theorem boxes' {w : World} {cs ds : List Value} {T U : TypeId} : ∃ W, (w.alloc (.cells cs.toArray T)).alloc (.cells ds.toArray U) = W ∧ CellsAt W w.heap.size cs ∧ CellsAt W (w.heap.size + 1) ds ∧ Ext w W := by
 refine ⟨_, rfl, (CellsAt.new _ _ _).ext (Ext.alloc _ _), ?_, (Ext.alloc _ _).palloc _⟩
 have := CellsAt.new (w.alloc (.cells cs.toArray T)) ds U
 rwa [World.size_alloc] at this
set_option maxHeartbeats 800000 in
theorem ref26_less {n p : Int} (w : World) (h1 : n ≤ 1000000) : Calls Tryz.prog 70 #[.int .i64 n, .int .i64 p] w fun e w' => e = .returned (.int .i64 (lessI n p)) ∧ w = w' := by
 by_cases h0 : 0 ≤ p
 ·by_cases hp : p < n
  ·have HL : Hid (lessI n p = n - 1) := by show _ = _; unfold lessI; rw [if_pos ⟨h0, hp⟩]
   go_enter Tryz.func70, Tryz.ntmps70
   go_wp2_with fail
   go_ret
   exact ⟨by rw [HL.out]; rfl, rfl⟩
  ·have HL : Hid (lessI n p = n) := by show _ = _; unfold lessI; rw [if_neg (by omega)]
   have hp' : decide (p < n) = false := by simpa using hp
   clear hp
   go_enter Tryz.func70, Tryz.ntmps70
   go_wp2_with fail
   go_ret
   exact ⟨by rw [HL.out]; rfl, rfl⟩
 ·have HL : Hid (lessI n p = n) := by show _ = _; unfold lessI; rw [if_neg (by omega)]
  have h0' : decide (0 ≤ p) = false := by simpa using h0
  clear h0
  go_enter Tryz.func70, Tryz.ntmps70
  go_wp2_with fail
  go_ret
  exact ⟨by rw [HL.out]; rfl, rfl⟩
/-- What shift leaves. -/
def Shifted (w : World) (a : Addr) (x : Int) (e : Ending) (w' : World) : Prop := e = .returned (.tuple #[]) ∧ ∃ k, w' = (w.drewN k).setCell a (.int .i64 x)
set_option maxHeartbeats 800000 in
theorem sketch_shift {n p : Int} {r o q : Nat} {w : World} (hn : w.cell? ⟨r, o, none⟩ = some (.int .i64 n)) (hf : w.frozen? ⟨r, o, none⟩ = false) (hp : w.cell? ⟨q, 0, none⟩ = some (.int .i64 p)) (h0 : 0 ≤ p) (h1 : n ≤ 1000000) :
  Calls Tryz.prog 72 #[.pointer (some ⟨r, o, none⟩), .pointer (some ⟨q, 0, none⟩)] w (Shifted w ⟨r, o, none⟩ (lessI n p)) := by
 by_cases hpn : p < n
 ·have HL : Hid (lessI n p = n - 1) := by show _ = _; unfold lessI; rw [if_pos ⟨h0, hpn⟩]
  go_enter Tryz.func72, Tryz.ntmps72
  go_wp2_with fail
  go_quiet (fail)
  go_wp2_with fail
  refine bodyPost_ret (v := .tuple #[]) ?_ rfl ⟨rfl, _, by rw [HL.out]⟩
  simp [results, Tryz.results72, go_sem]
 ·have HL : Hid (lessI n p = n) := by show _ = _; unfold lessI; rw [if_neg (by omega)]
  have hpn' : decide (p < n) = false := by simpa using hpn
  have HN := Lib.hid hn
  clear hpn
  go_enter Tryz.func72, Tryz.ntmps72
  go_wp2_with fail
  go_quiet (fail)
  go_wp2_with fail
  refine bodyPost_ret (v := .tuple #[]) ?_ rfl ⟨rfl, _, by rw [HL.out]; exact (setCell_id (w := w.drewN _) HN.out).symm⟩
  simp [results, Tryz.results72, go_sem]
set_option maxHeartbeats 800000 in
theorem need1 {q : Nat} {p : Int} {xs : List RdI} {w : World} (hq : q < w.heap.size) (hp : w.cell? ⟨q, 0, none⟩ = some (.int .i64 p)) : PredX 5 124 #[.pointer (some ⟨q, 0, none⟩)] aggV RdR (fun c => decide (c.center = p)) xs w := by
 intro W cs c hm hW hl hR
 obtain ⟨u, v, rfl, hu, hv⟩ := hR
 have q0 := (hW.cell (p := ⟨q, 0, none⟩) hq).trans hp
 obtain ⟨A1, c1, rfl, -, -⟩ := hu.form
 obtain ⟨A2, c2, rfl, -, -⟩ := hv.form
 clear hm hl hu hv hp
 show Calls Tryz.prog 124 #[.agg #[.int .i64 c.center, .bool c.radius.num.neg, .slice A1 c.radius.num.mag.length c1, .bool c.radius.den.neg, .slice A2 c.radius.den.mag.length c2], .pointer (some ⟨q, 0, none⟩)] W fun e w' => e = .returned (.bool (decide (c.center = p))) ∧ Ext W w'
 have hqW : q < W.heap.size := Nat.lt_of_lt_of_le hq hW.size
 generalize c.center = ce at *
 by_cases he : ce = p
 ·subst he
  go_enter Tryz.func124, Tryz.ntmps124
  go_wp2_with fail
  go_ret
  exact ⟨by simp, (by repeat first|exact xA _|assumption|refine xB ?_ _|refine xC ?_|refine xD ?_ _|refine xE ?_ (by simp <;> omega) _|refine xF ?_ (by assumption))⟩
 ·have he' : (ce == p) = false := by simpa using he
  have HE : Hid (decide (ce = p) = false) := by show _ = _; simpa using he
  clear he
  go_enter Tryz.func124, Tryz.ntmps124
  go_wp2_with fail
  go_ret
  exact ⟨by rw [HE.out]; rfl, (by repeat first|exact xA _|assumption|refine xB ?_ _|refine xC ?_|refine xD ?_ _|refine xE ?_ (by simp <;> omega) _|refine xF ?_ (by assumption))⟩
set_option maxHeartbeats 800000 in
theorem need2 {q : Nat} {p : Int} {xs : List SgI} {w : World} (hq : q < w.heap.size) (hp : w.cell? ⟨q, 0, none⟩ = some (.int .i64 p)) : PredX 2 125 #[.pointer (some ⟨q, 0, none⟩)] aggV SgR (fun c => decide (c.a = p) || decide (c.b = p)) xs w := by
 intro W cs c hm hW hl hR
 rw [show cs = _ from hR]
 have q0 := (hW.cell (p := ⟨q, 0, none⟩) hq).trans hp
 clear hm hl hp hR
 show Calls Tryz.prog 125 #[.agg #[.int .i64 c.a, .int .i64 c.b], .pointer (some ⟨q, 0, none⟩)] W fun e w' => e = .returned (.bool (decide (c.a = p) || decide (c.b = p))) ∧ Ext W w'
 have hqW : q < W.heap.size := Nat.lt_of_lt_of_le hq hW.size
 generalize c.a = x at *
 generalize c.b = y at *
 by_cases hx : x = p
 ·subst hx
  have hxx : (x == x) = true := by simp
  go_enter Tryz.func125, Tryz.ntmps125
  go_wp2_with fail
  go_ret
  exact ⟨by simp, (by repeat first|exact xA _|assumption|refine xB ?_ _|refine xC ?_|refine xD ?_ _|refine xE ?_ (by simp <;> omega) _|refine xF ?_ (by assumption))⟩
 ·have hx' : (x == p) = false := by simpa using hx
  have HX : Hid (decide (x = p) = false) := by show _ = _; simpa using hx
  clear hx
  by_cases hy : y = p
  ·subst hy
   have hyy : (y == y) = true := by simp
   go_enter Tryz.func125, Tryz.ntmps125
   go_wp2_with fail
   go_ret
   exact ⟨by simp, (by repeat first|exact xA _|assumption|refine xB ?_ _|refine xC ?_|refine xD ?_ _|refine xE ?_ (by simp <;> omega) _|refine xF ?_ (by assumption))⟩
  ·have hy' : (y == p) = false := by simpa using hy
   have HY : Hid (decide (y = p) = false) := by show _ = _; simpa using hy
   clear hy
   go_enter Tryz.func125, Tryz.ntmps125
   go_wp2_with fail
   go_ret
   exact ⟨by rw [HX.out, HY.out]; rfl, (by repeat first|exact xA _|assumption|refine xB ?_ _|refine xC ?_|refine xD ?_ _|refine xE ?_ (by simp <;> omega) _|refine xF ?_ (by assumption))⟩
set_option maxHeartbeats 800000 in
theorem need3 {q : Nat} {p : Int} {xs : List ArI} {w : World} (hq : q < w.heap.size) (hp : w.cell? ⟨q, 0, none⟩ = some (.int .i64 p)) : PredX 4 126 #[.pointer (some ⟨q, 0, none⟩)] aggV ArR (fun c => decide (c.a = p) || decide (c.b = p)) xs w := by
 intro W cs c hm hW hl hR
 rw [show cs = _ from hR]
 have q0 := (hW.cell (p := ⟨q, 0, none⟩) hq).trans hp
 clear hm hl hp hR
 show Calls Tryz.prog 126 #[.agg #[.int .i64 c.circle, .int .i64 c.a, .int .i64 c.b, .bool c.cw], .pointer (some ⟨q, 0, none⟩)] W fun e w' => e = .returned (.bool (decide (c.a = p) || decide (c.b = p))) ∧ Ext W w'
 have hqW : q < W.heap.size := Nat.lt_of_lt_of_le hq hW.size
 generalize c.a = x at *
 generalize c.b = y at *
 by_cases hx : x = p
 ·subst hx
  have hxx : (x == x) = true := by simp
  go_enter Tryz.func126, Tryz.ntmps126
  go_wp2_with fail
  go_ret
  exact ⟨by simp, (by repeat first|exact xA _|assumption|refine xB ?_ _|refine xC ?_|refine xD ?_ _|refine xE ?_ (by simp <;> omega) _|refine xF ?_ (by assumption))⟩
 ·have hx' : (x == p) = false := by simpa using hx
  have HX : Hid (decide (x = p) = false) := by show _ = _; simpa using hx
  clear hx
  by_cases hy : y = p
  ·subst hy
   have hyy : (y == y) = true := by simp
   go_enter Tryz.func126, Tryz.ntmps126
   go_wp2_with fail
   go_ret
   exact ⟨by simp, (by repeat first|exact xA _|assumption|refine xB ?_ _|refine xC ?_|refine xD ?_ _|refine xE ?_ (by simp <;> omega) _|refine xF ?_ (by assumption))⟩
  ·have hy' : (y == p) = false := by simpa using hy
   have HY : Hid (decide (y = p) = false) := by show _ = _; simpa using hy
   clear hy
   go_enter Tryz.func126, Tryz.ntmps126
   go_wp2_with fail
   go_ret
   exact ⟨by rw [HX.out, HY.out]; rfl, (by repeat first|exact xA _|assumption|refine xB ?_ _|refine xC ?_|refine xD ?_ _|refine xE ?_ (by simp <;> omega) _|refine xF ?_ (by assumption))⟩
set_option maxHeartbeats 1600000 in
theorem sketch_needed {K : Nat} {s : SkI} {p : Int} {v0 v1 v2 v3 v4 v5 : Value} {w : World} (h : SkAt K w v0 v1 v2 v3 v4 v5 s) (hc : s.cons.length ≤ 1000) :
  Calls Tryz.prog 71 #[.agg #[v0, v1, v2, v3, v4, v5], .int .i64 p] w fun e w' => e = .returned (.bool (neededL s p)) ∧ Ext w w' := by
 obtain ⟨A1, c1, rfl, -, -⟩ := h.circles.form
 obtain ⟨A2, c2, rfl, -, -⟩ := h.segs.form
 obtain ⟨A3, c3, rfl, -, -⟩ := h.arcs.form
 have H1 := Lib.hid (fun w1 (hx : Ext w w1) B (hB : B < w1.heap.size) (hn : w1.cell? ⟨B, 0, none⟩ = some (.int .i64 p)) => con_Round 124 #[.pointer (some ⟨B, 0, none⟩)] (enters_of Tryz.func124 (by kernel_rfl) rfl) (h.circles.ext RdR.stable hx) (need1 hB hn))
 have H2 := Lib.hid (fun w1 (hx : Ext w w1) B (hB : B < w1.heap.size) (hn : w1.cell? ⟨B, 0, none⟩ = some (.int .i64 p)) => con_Segment 125 #[.pointer (some ⟨B, 0, none⟩)] (enters_of Tryz.func125 (by kernel_rfl) rfl) (h.segs.ext SgR.stable hx) (need2 hB hn))
 have H3 := Lib.hid (fun w1 (hx : Ext w w1) B (hB : B < w1.heap.size) (hn : w1.cell? ⟨B, 0, none⟩ = some (.int .i64 p)) => con_Arc 126 #[.pointer (some ⟨B, 0, none⟩)] (enters_of Tryz.func126 (by kernel_rfl) rfl) (h.arcs.ext ArR.stable hx) (need3 hB hn))
 have H4 := Lib.hid (fun w1 (hx : Ext w w1) => sketch_Users (p := p) (h.ext hx) hc)
 have HN : Hid (neededL s p = (s.circles.any (fun c => decide (c.center = p)) || s.segs.any (fun g => decide (g.a = p) || decide (g.b = p)) || s.arcs.any (fun a => decide (a.a = p) || decide (a.b = p)) || decide (0 < (usersL s p).length))) := rfl
 obtain ⟨W, hW, hb1, hb2, hx⟩ := boxes' (w := w) (cs := [v0, .slice A1 s.circles.length c1, .slice A2 s.segs.length c2, .slice A3 s.arcs.length c3, v4, v5]) (ds := [.int .i64 p]) (T := 29) (U := 3)
 have HW := Lib.hid hW
 have HB1 := Lib.hid hb1
 have HB2 := Lib.hid hb2
 have HX := Lib.hid hx
 clear hW hb1 hb2 hx h
 generalize s.circles.any (fun c => decide (c.center = p)) = t1 at *
 generalize s.segs.any (fun g => decide (g.a = p) || decide (g.b = p)) = t2 at *
 generalize s.arcs.any (fun a => decide (a.a = p) || decide (a.b = p)) = t3 at *
 obtain ⟨nu, hnu⟩ : ∃ nu, (usersL s p).length = nu := ⟨_, rfl⟩
 rw [hnu] at HN H4
 clear hnu
 generalize neededL s p = res at *
 have hX := HX.out
 go_enter Tryz.func71, Tryz.ntmps71
 go_upto_region 1 with fail
 rw [show (w.alloc (.cells #[v0, .slice A1 s.circles.length c1, .slice A2 s.segs.length c2, .slice A3 s.arcs.length c3, v4, v5] 29)).alloc (.cells #[.int .i64 p] 3) = W from HW.out]
 obtain ⟨y0, y1, y2, y3, y4, y5⟩ := HB1.out.six
 have z0 := HB2.out.2 0 _ rfl
 go_wp2_with fail
 refine (H1.out _ hX _ HB2.out.1 z0).mono ?_
 rintro e w1 ⟨rfl, hx1⟩
 cases t1 with
 | true =>
  go_wp2_with fail
  go_ret
  exact ⟨by rw [HN.out]; rfl, Ext.trans hX hx1⟩
 | false =>
  clear y0 y1 y2 y3 y4 y5 z0
  obtain ⟨y0, y1, y2, y3, y4, y5⟩ := (HB1.out.ext hx1).six
  have z0 := (HB2.out.ext hx1).2 0 _ rfl
  go_wp2_with fail
  refine (H2.out _ (Ext.trans hX hx1) _ (HB2.out.ext hx1).1 z0).mono ?_
  rintro e w2 ⟨rfl, hx2⟩
  have hx12 := Ext.trans hx1 hx2
  cases t2 with
  | true =>
   go_wp2_with fail
   go_ret
   exact ⟨by rw [HN.out]; rfl, Ext.trans hX hx12⟩
  | false =>
   clear y0 y1 y2 y3 y4 y5 z0
   obtain ⟨y0, y1, y2, y3, y4, y5⟩ := (HB1.out.ext hx12).six
   have z0 := (HB2.out.ext hx12).2 0 _ rfl
   go_wp2_with fail
   refine (H3.out _ (Ext.trans hX hx12) _ (HB2.out.ext hx12).1 z0).mono ?_
   rintro e w3 ⟨rfl, hx3⟩
   have hx13 := Ext.trans hx12 hx3
   cases t3 with
   | true =>
    go_wp2_with fail
    go_ret
    exact ⟨by rw [HN.out]; rfl, Ext.trans hX hx13⟩
   | false =>
    clear y0 y1 y2 y3 y4 y5 z0
    obtain ⟨y0, y1, y2, y3, y4, y5⟩ := (HB1.out.ext hx13).six
    have z0 := (HB2.out.ext hx13).2 0 _ rfl
    go_wp2_with fail
    refine (H4.out _ (Ext.trans hX hx13)).mono ?_
    rintro e w4 ⟨r, rfl, ⟨A, c, rfl, -⟩, hx4⟩
    go_wp2_with fail
    go_ret
    refine ⟨?_, Ext.trans hX (Ext.trans hx13 hx4)⟩
    rw [HN.out]
    simp
end Go.Proofs.YtonleohlplkglaaGreatDoor
namespace Go.Proofs.YtonleohlplkglaaGreatDoor
open Go Go.RowKit
theorem any_drop {α : Type} {f : α → Bool} {xs : List α} {i : Nat} (h : i < xs.length) : (xs.drop i).any f = (f xs[i] || (xs.drop (i + 1)).any f) := by rw [List.drop_eq_getElem_cons h, List.any_cons]
set_option maxRecDepth 100000 in
set_option maxHeartbeats 3200000 in
theorem ref26_Needed {K : Nat} {s : SkI} {p : Int} {v0 v1 v2 v3 v4 v5 : Value} {w : World} (h : SkAt K w v0 v1 v2 v3 v4 v5 s) (hc : s.cons.length ≤ 1000) :
  Calls Tryz.prog 27 #[.agg #[v0, v1, v2, v3, v4, v5], .int .i64 p] w fun e w' => e = .returned (.bool (neededL s p)) ∧ Ext w w' := by
 obtain ⟨A1, c1, rfl, hl1, hm1⟩ := h.circles.form
 obtain ⟨A2, c2, rfl, hl2, hm2⟩ := h.segs.form
 obtain ⟨A3, c3, rfl, hl3, hm3⟩ := h.arcs.form
 have HC := Lib.hid h.circles
 have HS := Lib.hid h.segs
 have HR := Lib.hid h.arcs
 have H4 := Lib.hid (fun w1 (hx : Ext w w1) => ref26_Users (p := p) (h.ext hx) hc)
 have HN : Hid (neededL s p = (s.circles.any (fun c => decide (c.center = p)) || s.segs.any (fun g => decide (g.a = p) || decide (g.b = p)) || s.arcs.any (fun a => decide (a.a = p) || decide (a.b = p)) || decide (0 < (usersL s p).length))) := rfl
 have HBX := Lib.hid (CellsAt.new w [v0, .slice A1 s.circles.length c1, .slice A2 s.segs.length c2, .slice A3 s.arcs.length c3, v4, v5] 29)
 obtain ⟨W, hW⟩ : ∃ W, w.alloc (.cells #[v0, .slice A1 s.circles.length c1, .slice A2 s.segs.length c2, .slice A3 s.arcs.length c3, v4, v5] 29) = W := ⟨_, rfl⟩
 have HX : Hid (Ext w W) := by rw [← hW]; exact Ext.alloc _ _
 have HB : Hid (CellsAt W w.heap.size [v0, .slice A1 s.circles.length c1, .slice A2 s.segs.length c2, .slice A3 s.arcs.length c3, v4, v5]) := by rw [← hW]; exact HBX.out
 have HW := Lib.hid hW
 clear hW HBX h
 generalize neededL s p = res at *
 obtain ⟨y0, y1, y2, y3, y4, y5⟩ := HB.out.six
 go_enter Tryz.func27, Tryz.ntmps27
 go_upto_region 1 with fail
 rw [HW.out]
 go_wp2_with fail
 clear y0 y1 y2 y3 y4 y5
 go_loopg [5] s.circles.length (fun gk x wr => ∃ i : Nat, x = .int .i64 (i : Int) ∧ i + gk = s.circles.length ∧ Hid ((s.circles.drop i).any (fun c => decide (c.center = p)) = s.circles.any (fun c => decide (c.center = p))) ∧ wr = W)
 case atStart => exact ⟨0, rfl, by omega, rfl, rfl⟩
 case round =>
  obtain ⟨i, rfl, hi, HA, rfl⟩ := hrel
  obtain ⟨y0, y1, y2, y3, y4, y5⟩ := HB.out.six
  by_cases hlt : i < s.circles.length
  ·obtain ⟨b, off, rfl, hb, ds, hds, hcell, u, v, rfl, -, -⟩ := HC.out.at_ hlt
   have q0 : wr.cell? ⟨b, off + i * 5, none⟩ = _ := (HX.out.cell (p := ⟨b, off + (i * 5 + 0), none⟩) hb).trans (hcell 0 _ rfl)
   have HD : Hid ((s.circles.drop i).any (fun c => decide (c.center = p)) = (decide (s.circles[i].center = p) || (s.circles.drop (i + 1)).any (fun c => decide (c.center = p)))) := any_drop hlt
   have i1 : (i : Int) < (s.circles.length : Int) := by omega
   have i0 : (0 : Int) ≤ (i : Int) := by omega
   clear hcell hds
   generalize s.circles[i].center = x at *
   by_cases he : x = p
   ·subst he
    have HT : Hid (s.circles.any (fun c => decide (c.center = x)) = true) := by show _ = _; rw [← HA.out, HD.out]; simp
    go_wp2_with fail
    go_ret
    exact ⟨by rw [HN.out, HT.out]; rfl, HX.out⟩
   ·have he' : (x == p) = false := by simpa using he
    have HT : Hid ((s.circles.drop (i + 1)).any (fun c => decide (c.center = p)) = s.circles.any (fun c => decide (c.center = p))) := by show _ = _; rw [← HA.out, HD.out]; simp [he]
    clear he
    go_wp2_with fail
    go_roundg (s.circles.length - (i + 1))
    case measure => omega
    case rel => exact ⟨i + 1, by simp, by omega, HT.out, rfl⟩
  ·have HT1 : Hid (s.circles.any (fun c => decide (c.center = p)) = false) := by show _ = _; rw [← HA.out, List.drop_eq_nil_of_le (by omega)]; rfl
   clear HA
   go_wp2_with fail
   clear y0 y1 y2 y3 y4 y5 hlt hi
   go_loopg [6] s.segs.length (fun gk x wr' => ∃ i : Nat, x = .int .i64 (i : Int) ∧ i + gk = s.segs.length ∧ Hid ((s.segs.drop i).any (fun g => decide (g.a = p) || decide (g.b = p)) = s.segs.any (fun g => decide (g.a = p) || decide (g.b = p))) ∧ wr' = wr)
   case atStart => exact ⟨0, rfl, by omega, rfl, rfl⟩
   case round =>
    obtain ⟨i, rfl, hi, HA, rfl⟩ := hrel
    obtain ⟨y0, y1, y2, y3, y4, y5⟩ := HB.out.six
    by_cases hlt : i < s.segs.length
    ·obtain ⟨b, off, rfl, hb, ds, hds, hcell, hR⟩ := HS.out.at_ hlt
     rw [hR] at hcell
     have q0 := (HX.out.cell (p := ⟨b, off + (i * 2 + 0), none⟩) hb).trans (hcell 0 _ rfl)
     rw [Nat.add_zero] at q0
     have q1 := (HX.out.cell (p := ⟨b, off + (i * 2 + 1), none⟩) hb).trans (hcell 1 _ rfl)
     rw [← Nat.add_assoc] at q1
     have HD : Hid ((s.segs.drop i).any (fun g => decide (g.a = p) || decide (g.b = p)) = ((decide (s.segs[i].a = p) || decide (s.segs[i].b = p)) || (s.segs.drop (i + 1)).any (fun g => decide (g.a = p) || decide (g.b = p)))) := any_drop hlt
     have i1 : (i : Int) < (s.segs.length : Int) := by omega
     have i0 : (0 : Int) ≤ (i : Int) := by omega
     clear hcell hds hR
     generalize s.segs[i].a = x at *
     generalize s.segs[i].b = y at *
     by_cases he : x = p
     ·subst he
      have HT : Hid (s.segs.any (fun g => decide (g.a = x) || decide (g.b = x)) = true) := by show _ = _; rw [← HA.out, HD.out]; simp
      go_wp2_with fail
      go_ret
      exact ⟨by rw [HN.out, HT.out]; simp, HX.out⟩
     ·have he' : (x == p) = false := by simpa using he
      by_cases hf : y = p
      ·subst hf
       have HT : Hid (s.segs.any (fun g => decide (g.a = y) || decide (g.b = y)) = true) := by show _ = _; rw [← HA.out, HD.out]; simp
       clear he
       go_wp2_with fail
       go_ret
       exact ⟨by rw [HN.out, HT.out]; simp, HX.out⟩
      ·have hf' : (y == p) = false := by simpa using hf
       have HT : Hid ((s.segs.drop (i + 1)).any (fun g => decide (g.a = p) || decide (g.b = p)) = s.segs.any (fun g => decide (g.a = p) || decide (g.b = p))) := by show _ = _; rw [← HA.out, HD.out]; simp [he, hf]
       clear he hf
       go_wp2_with fail
       go_roundg (s.segs.length - (i + 1))
       case measure => omega
       case rel => exact ⟨i + 1, by simp, by omega, HT.out, rfl⟩
    ·have HT2 : Hid (s.segs.any (fun g => decide (g.a = p) || decide (g.b = p)) = false) := by show _ = _; rw [← HA.out, List.drop_eq_nil_of_le (by omega)]; rfl
     clear HA
     go_wp2_with fail
     clear y0 y1 y2 y3 y4 y5 hlt hi
     go_loopg [7] s.arcs.length (fun gk x wr' => ∃ i : Nat, x = .int .i64 (i : Int) ∧ i + gk = s.arcs.length ∧ Hid ((s.arcs.drop i).any (fun g => decide (g.a = p) || decide (g.b = p)) = s.arcs.any (fun g => decide (g.a = p) || decide (g.b = p))) ∧ wr' = wr)
     case atStart => exact ⟨0, rfl, by omega, rfl, rfl⟩
     case round =>
      obtain ⟨i, rfl, hi, HA, rfl⟩ := hrel
      obtain ⟨y0, y1, y2, y3, y4, y5⟩ := HB.out.six
      by_cases hlt : i < s.arcs.length
      ·obtain ⟨b, off, rfl, hb, ds, hds, hcell, hR⟩ := HR.out.at_ hlt
       rw [hR] at hcell
       have q0 := (HX.out.cell (p := ⟨b, off + (i * 4 + 1), none⟩) hb).trans (hcell 1 _ rfl)
       rw [← Nat.add_assoc] at q0
       have q1 := (HX.out.cell (p := ⟨b, off + (i * 4 + 2), none⟩) hb).trans (hcell 2 _ rfl)
       rw [← Nat.add_assoc] at q1
       have HD : Hid ((s.arcs.drop i).any (fun g => decide (g.a = p) || decide (g.b = p)) = ((decide (s.arcs[i].a = p) || decide (s.arcs[i].b = p)) || (s.arcs.drop (i + 1)).any (fun g => decide (g.a = p) || decide (g.b = p)))) := any_drop hlt
       have i1 : (i : Int) < (s.arcs.length : Int) := by omega
       have i0 : (0 : Int) ≤ (i : Int) := by omega
       clear hcell hds hR
       generalize s.arcs[i].a = x at *
       generalize s.arcs[i].b = y at *
       by_cases he : x = p
       ·subst he
        have HT : Hid (s.arcs.any (fun g => decide (g.a = x) || decide (g.b = x)) = true) := by show _ = _; rw [← HA.out, HD.out]; simp
        go_wp2_with fail
        go_ret
        exact ⟨by rw [HN.out, HT.out]; simp, HX.out⟩
       ·have he' : (x == p) = false := by simpa using he
        by_cases hf : y = p
        ·subst hf
         have HT : Hid (s.arcs.any (fun g => decide (g.a = y) || decide (g.b = y)) = true) := by show _ = _; rw [← HA.out, HD.out]; simp
         clear he
         go_wp2_with fail
         go_ret
         exact ⟨by rw [HN.out, HT.out]; simp, HX.out⟩
        ·have hf' : (y == p) = false := by simpa using hf
         have HT : Hid ((s.arcs.drop (i + 1)).any (fun g => decide (g.a = p) || decide (g.b = p)) = s.arcs.any (fun g => decide (g.a = p) || decide (g.b = p))) := by show _ = _; rw [← HA.out, HD.out]; simp [he, hf]
         clear he hf
         go_wp2_with fail
         go_roundg (s.arcs.length - (i + 1))
         case measure => omega
         case rel => exact ⟨i + 1, by simp, by omega, HT.out, rfl⟩
      ·have HT3 : Hid (s.arcs.any (fun g => decide (g.a = p) || decide (g.b = p)) = false) := by show _ = _; rw [← HA.out, List.drop_eq_nil_of_le (by omega)]; rfl
       clear HA
       go_wp2_with fail
       refine (H4.out _ HX.out).mono ?_
       rintro e w4 ⟨r, rfl, ⟨A, c, rfl, -⟩, hx4⟩
       go_wp2_with fail
       go_ret
       refine ⟨?_, Ext.trans HX.out hx4⟩
       rw [HN.out, HT1.out, HT2.out, HT3.out]
       simp
end Go.Proofs.YtonleohlplkglaaGreatDoor
