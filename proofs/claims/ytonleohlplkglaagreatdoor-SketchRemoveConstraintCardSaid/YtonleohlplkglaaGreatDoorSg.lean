/- Sketches as data; has, Ends, many of the reference's layer 26; has, ends of the program. -/
import Derived.Test.YtonleohlplkglaaGreatDoorSe
import Derived.Deep.RegionWith
namespace Go.Proofs.YtonleohlplkglaaGreatDoor
open Go Go.RowKit

structure PtI where
  x : QI
  y : QI
structure RdI where
  center : Int
  radius : QI
structure SgI where
  a : Int
  b : Int
structure ArI where
  circle : Int
  a : Int
  b : Int
  cw : Bool
structure PcI where
  arc : Bool
  index : Int
  back : Bool
/-- A sketch, whatever its fields are. -/
structure SkI where
  points : List PtI
  circles : List RdI
  segs : List SgI
  arcs : List ArI
  chains : List (List PcI)
  cons : List CI

def PtR (w : World) (cs : List Value) (p : PtI) : Prop := ∃ u v u' v', cs = [.bool p.x.num.neg, u, .bool p.x.den.neg, v, .bool p.y.num.neg, u', .bool p.y.den.neg, v'] ∧ Words w u p.x.num.mag ∧ Words w v p.x.den.mag ∧ Words w u' p.y.num.mag ∧ Words w v' p.y.den.mag
theorem PtR.stable : Stable PtR := fun w w' cs p hx => by
  rintro ⟨u, v, u', v', h, h1, h2, h3, h4⟩
  exact ⟨u, v, u', v', h, h1.ext hx, h2.ext hx, h3.ext hx, h4.ext hx⟩
def RdR (w : World) (cs : List Value) (p : RdI) : Prop := ∃ u v, cs = [.int .i64 p.center, .bool p.radius.num.neg, u, .bool p.radius.den.neg, v] ∧ Words w u p.radius.num.mag ∧ Words w v p.radius.den.mag
theorem RdR.stable : Stable RdR := fun w w' cs p hx => by
  rintro ⟨u, v, h, h1, h2⟩
  exact ⟨u, v, h, h1.ext hx, h2.ext hx⟩
def SgR (_ : World) (cs : List Value) (p : SgI) : Prop := cs = [.int .i64 p.a, .int .i64 p.b]
theorem SgR.stable : Stable SgR := fun _ _ _ _ _ h => h
def ArR (_ : World) (cs : List Value) (p : ArI) : Prop := cs = [.int .i64 p.circle, .int .i64 p.a, .int .i64 p.b, .bool p.cw]
theorem ArR.stable : Stable ArR := fun _ _ _ _ _ h => h
def PcR (_ : World) (cs : List Value) (p : PcI) : Prop := cs = [.bool p.arc, .int .i64 p.index, .bool p.back]
theorem PcR.stable : Stable PcR := fun _ _ _ _ _ h => h
def ChR (w : World) (cs : List Value) (c : List PcI) : Prop := ∃ v, cs = [v] ∧ ArrAt 3 PcR w v c
theorem ChR.stable : Stable ChR := fun w w' cs p hx => by
  rintro ⟨v, h, h1⟩
  exact ⟨v, h, h1.ext PcR.stable hx⟩
/-- A sketch's six slices. -/
structure SkAt (K : Nat) (w : World) (v0 v1 v2 v3 v4 v5 : Value) (s : SkI) : Prop where
  points : ArrAt 8 PtR w v0 s.points
  circles : ArrAt 5 RdR w v1 s.circles
  segs : ArrAt 2 SgR w v2 s.segs
  arcs : ArrAt 4 ArR w v3 s.arcs
  chains : ArrAt 1 ChR w v4 s.chains
  cons : ArrAt 5 (ConR K) w v5 s.cons
theorem SkAt.ext {K : Nat} {w w' : World} {v0 v1 v2 v3 v4 v5 : Value} {s : SkI} (h : SkAt K w v0 v1 v2 v3 v4 v5 s) (hx : Ext w w') : SkAt K w' v0 v1 v2 v3 v4 v5 s :=
  ⟨h.points.ext PtR.stable hx, h.circles.ext RdR.stable hx, h.segs.ext SgR.stable hx, h.arcs.ext ArR.stable hx, h.chains.ext ChR.stable hx, h.cons.ext (ConR.stable K) hx⟩

theorem CellsAt.six {w : World} {g : Nat} {a b c d e f : Value} (k : CellsAt w g [a, b, c, d, e, f]) :
    w.cell? ⟨g, 0, none⟩ = some a ∧ w.cell? ⟨g, 1, none⟩ = some b ∧ w.cell? ⟨g, 2, none⟩ = some c ∧ w.cell? ⟨g, 3, none⟩ = some d ∧ w.cell? ⟨g, 4, none⟩ = some e ∧ w.cell? ⟨g, 5, none⟩ = some f :=
  ⟨k.2 0 _ rfl, k.2 1 _ rfl, k.2 2 _ rfl, k.2 3 _ rfl, k.2 4 _ rfl, k.2 5 _ rfl⟩

def hasL (n i : Int) : Bool := decide (0 ≤ i) && decide (i < n)
/-- A piece whose segment or arc exists. -/
def okPc (s : SkI) (p : PcI) : Bool := if p.arc then hasL s.arcs.length p.index else hasL s.segs.length p.index
def endsOf (s : SkI) (p : PcI) : Int × Int :=
  let ab : Int × Int := if p.arc then (match s.arcs[p.index.toNat]? with | some x => (x.a, x.b) | none => (0, 0)) else (match s.segs[p.index.toNat]? with | some x => (x.a, x.b) | none => (0, 0))
  if p.back then (ab.2, ab.1) else ab
/-- The pieces of a chain from one on; the end of the piece ahead. -/
def chainFrom (s : SkI) : Option Int → List PcI → Bool
  | _, [] => true
  | prev, p :: l => okPc s p && (match prev with | none => true | some e => decide (e = (endsOf s p).1)) && chainFrom s (some (endsOf s p).2) l
def chainL (s : SkI) (c : List PcI) : Bool := chainFrom s none c && decide (0 < c.length)
def manyL (s : SkI) : Bool := s.chains.any (fun c => decide (200 < c.length)) || decide (200 < s.points.length) || decide (200 < s.circles.length) || decide (200 < s.segs.length) || decide (200 < s.arcs.length) || decide (200 < s.chains.length) || decide (200 < s.cons.length)

theorem ref26_has (n i : Int) (w : World) : Calls Tryz.prog 54 #[.int .i64 n, .int .i64 i] w fun e w' => e = .returned (.bool (hasL n i)) ∧ w = w' := by
  by_cases h1 : 0 ≤ i
  · have H : Hid (hasL n i = decide (i < n)) := by show _ = _; simp [hasL, h1]
    go_enter Tryz.func54, Tryz.ntmps54
    go_wp2_with fail
    refine bodyPost_ret ?_ rfl ⟨by rw [H.out], rfl⟩
    simp [results, Tryz.results54, go_sem]
  · have H : Hid (hasL n i = false) := by show _ = _; simp [hasL, h1]
    go_enter Tryz.func54, Tryz.ntmps54
    go_wp2_with fail
    refine bodyPost_ret ?_ rfl ⟨by rw [H.out], rfl⟩
    simp [results, Tryz.results54, go_sem]

theorem sketch_has (n i : Int) (w : World) : Calls Tryz.prog 39 #[.int .i64 n, .int .i64 i] w fun e w' => e = .returned (.bool (hasL n i)) ∧ w = w' := by
  by_cases h1 : 0 ≤ i
  · have H : Hid (hasL n i = decide (i < n)) := by show _ = _; simp [hasL, h1]
    go_enter Tryz.func39, Tryz.ntmps39
    go_wp2_with fail
    refine bodyPost_ret ?_ rfl ⟨by rw [H.out], rfl⟩
    simp [results, Tryz.results39, go_sem]
  · have H : Hid (hasL n i = false) := by show _ = _; simp [hasL, h1]
    go_enter Tryz.func39, Tryz.ntmps39
    go_wp2_with fail
    refine bodyPost_ret ?_ rfl ⟨by rw [H.out], rfl⟩
    simp [results, Tryz.results39, go_sem]

theorem okPc_idx {s : SkI} {p : PcI} (h : okPc s p = true) : ∃ i : Nat, p.index = (i : Int) ∧ (p.arc = true → i < s.arcs.length) ∧ (p.arc = false → i < s.segs.length) := by
  unfold okPc hasL at h
  split at h
  · next ha =>
    simp at h
    exact ⟨p.index.toNat, by omega, fun _ => by omega, fun h' => by rw [ha] at h'; cases h'⟩
  · next ha =>
    simp at h
    exact ⟨p.index.toNat, by omega, fun h' => absurd h' ha, fun _ => by omega⟩

set_option maxHeartbeats 1600000 in
theorem ref26_Ends {K : Nat} {s : SkI} {p : PcI} {v0 v1 v2 v3 v4 v5 : Value} {w : World} (h : SkAt K w v0 v1 v2 v3 v4 v5 s) (hp : okPc s p = true) :
    Calls Tryz.prog 66 #[.agg #[v0, v1, v2, v3, v4, v5], .agg #[.bool p.arc, .int .i64 p.index, .bool p.back]] w fun e w' => e = .returned (.tuple #[.int .i64 (endsOf s p).1, .int .i64 (endsOf s p).2]) ∧ Ext w w' := by
  obtain ⟨i, hi, h1, h2⟩ := okPc_idx hp
  obtain ⟨arc, index, back⟩ := p
  dsimp only at hi h1 h2 ⊢
  subst hi
  have HSA := Lib.hid h.arcs
  have HSG := Lib.hid h.segs
  obtain ⟨A2, c2, rfl, hl2, hm2⟩ := h.segs.form
  obtain ⟨A3, c3, rfl, hl3, hm3⟩ := h.arcs.form
  clear h hp
  cases arc with
  | true =>
    have hlt := h1 rfl
    clear h1 h2
    obtain ⟨b, off, rfl, hb, ds, hds, hcell, hR⟩ := HSA.out.at_ hlt
    have HEQ : Hid (endsOf s ⟨true, (i : Int), back⟩ = if back then (s.arcs[i].b, s.arcs[i].a) else (s.arcs[i].a, s.arcs[i].b)) := by
      show _ = _
      simp [endsOf, List.getElem?_eq_getElem hlt]
    rw [hR] at hcell
    have q1 : w.cell? ⟨b, off + i * 4 + 1, none⟩ = some (.int .i64 s.arcs[i].a) := hcell 1 _ rfl
    have q2 : w.cell? ⟨b, off + i * 4 + 2, none⟩ = some (.int .i64 s.arcs[i].b) := hcell 2 _ rfl
    clear hcell hR HSA HSG hds
    generalize s.arcs[i].a = x at *
    generalize s.arcs[i].b = y at *
    generalize endsOf s ⟨true, (i : Int), back⟩ = ee at *
    cases back
    all_goals
      obtain rfl := HEQ.out
      clear HEQ
      go_enter Tryz.func66, Tryz.ntmps66
      go_wp2_with fail
      go_quiet (fail)
      go_wp2_with fail
      go_ret2
      exact ⟨rfl, (by repeat (first | exact Ext.refl _ | assumption | refine Ext.pdrewN ?_ _ | refine Ext.pdrew ?_ | refine Ext.palloc ?_ _ | refine Ext.pset ?_ (by simp <;> omega) _ | refine Ext.trans ?_ (by assumption)))⟩
  | false =>
    have hlt := h2 rfl
    clear h1 h2
    obtain ⟨b, off, rfl, hb, ds, hds, hcell, hR⟩ := HSG.out.at_ hlt
    have HEQ : Hid (endsOf s ⟨false, (i : Int), back⟩ = if back then (s.segs[i].b, s.segs[i].a) else (s.segs[i].a, s.segs[i].b)) := by
      show _ = _
      simp [endsOf, List.getElem?_eq_getElem hlt]
    rw [hR] at hcell
    have q1 : w.cell? ⟨b, off + i * 2, none⟩ = some (.int .i64 s.segs[i].a) := hcell 0 _ rfl
    have q2 : w.cell? ⟨b, off + i * 2 + 1, none⟩ = some (.int .i64 s.segs[i].b) := hcell 1 _ rfl
    clear hcell hR HSA HSG hds
    generalize s.segs[i].a = x at *
    generalize s.segs[i].b = y at *
    generalize endsOf s ⟨false, (i : Int), back⟩ = ee at *
    cases back
    all_goals
      obtain rfl := HEQ.out
      clear HEQ
      go_enter Tryz.func66, Tryz.ntmps66
      go_wp2_with fail
      go_quiet (fail)
      go_wp2_with fail
      go_ret2
      exact ⟨rfl, (by repeat (first | exact Ext.refl _ | assumption | refine Ext.pdrewN ?_ _ | refine Ext.pdrew ?_ | refine Ext.palloc ?_ _ | refine Ext.pset ?_ (by simp <;> omega) _ | refine Ext.trans ?_ (by assumption)))⟩

set_option maxHeartbeats 1600000 in
theorem sketch_ends {K : Nat} {s : SkI} {p : PcI} {v0 v1 v2 v3 v4 v5 : Value} {w : World} (h : SkAt K w v0 v1 v2 v3 v4 v5 s) (hp : okPc s p = true) :
    Calls Tryz.prog 65 #[.agg #[v0, v1, v2, v3, v4, v5], .agg #[.bool p.arc, .int .i64 p.index, .bool p.back]] w fun e w' => e = .returned (.tuple #[.int .i64 (endsOf s p).1, .int .i64 (endsOf s p).2]) ∧ Ext w w' := by
  obtain ⟨i, hi, h1, h2⟩ := okPc_idx hp
  obtain ⟨arc, index, back⟩ := p
  dsimp only at hi h1 h2 ⊢
  subst hi
  have HSA := Lib.hid h.arcs
  have HSG := Lib.hid h.segs
  obtain ⟨A2, c2, rfl, hl2, hm2⟩ := h.segs.form
  obtain ⟨A3, c3, rfl, hl3, hm3⟩ := h.arcs.form
  clear h hp
  cases arc with
  | true =>
    have hlt := h1 rfl
    clear h1 h2
    obtain ⟨b, off, rfl, hb, ds, hds, hcell, hR⟩ := HSA.out.at_ hlt
    have HEQ : Hid (endsOf s ⟨true, (i : Int), back⟩ = if back then (s.arcs[i].b, s.arcs[i].a) else (s.arcs[i].a, s.arcs[i].b)) := by
      show _ = _
      simp [endsOf, List.getElem?_eq_getElem hlt]
    rw [hR] at hcell
    have q1 : w.cell? ⟨b, off + i * 4 + 1, none⟩ = some (.int .i64 s.arcs[i].a) := hcell 1 _ rfl
    have q2 : w.cell? ⟨b, off + i * 4 + 2, none⟩ = some (.int .i64 s.arcs[i].b) := hcell 2 _ rfl
    clear hcell hR HSA HSG hds
    generalize s.arcs[i].a = x at *
    generalize s.arcs[i].b = y at *
    generalize endsOf s ⟨true, (i : Int), back⟩ = ee at *
    cases back
    all_goals
      obtain rfl := HEQ.out
      clear HEQ
      go_enter Tryz.func65, Tryz.ntmps65
      go_wp2_with fail
      go_quiet (fail)
      go_wp2_with fail
      go_ret2
      exact ⟨rfl, (by repeat (first | exact Ext.refl _ | assumption | refine Ext.pdrewN ?_ _ | refine Ext.pdrew ?_ | refine Ext.palloc ?_ _ | refine Ext.pset ?_ (by simp <;> omega) _ | refine Ext.trans ?_ (by assumption)))⟩
  | false =>
    have hlt := h2 rfl
    clear h1 h2
    obtain ⟨b, off, rfl, hb, ds, hds, hcell, hR⟩ := HSG.out.at_ hlt
    have HEQ : Hid (endsOf s ⟨false, (i : Int), back⟩ = if back then (s.segs[i].b, s.segs[i].a) else (s.segs[i].a, s.segs[i].b)) := by
      show _ = _
      simp [endsOf, List.getElem?_eq_getElem hlt]
    rw [hR] at hcell
    have q1 : w.cell? ⟨b, off + i * 2, none⟩ = some (.int .i64 s.segs[i].a) := hcell 0 _ rfl
    have q2 : w.cell? ⟨b, off + i * 2 + 1, none⟩ = some (.int .i64 s.segs[i].b) := hcell 1 _ rfl
    clear hcell hR HSA HSG hds
    generalize s.segs[i].a = x at *
    generalize s.segs[i].b = y at *
    generalize endsOf s ⟨false, (i : Int), back⟩ = ee at *
    cases back
    all_goals
      obtain rfl := HEQ.out
      clear HEQ
      go_enter Tryz.func65, Tryz.ntmps65
      go_wp2_with fail
      go_quiet (fail)
      go_wp2_with fail
      go_ret2
      exact ⟨rfl, (by repeat (first | exact Ext.refl _ | assumption | refine Ext.pdrewN ?_ _ | refine Ext.pdrew ?_ | refine Ext.palloc ?_ _ | refine Ext.pset ?_ (by simp <;> omega) _ | refine Ext.trans ?_ (by assumption)))⟩

end Go.Proofs.YtonleohlplkglaaGreatDoor
