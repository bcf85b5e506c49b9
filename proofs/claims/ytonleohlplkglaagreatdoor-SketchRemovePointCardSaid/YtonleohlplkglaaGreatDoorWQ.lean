/- RemoveConstraint of the program's sketch. -/
import Derived.Test.YtonleohlplkglaaGreatDoorWL
import Derived.Test.YtonleohlplkglaaGreatDoorWN
import Derived.Test.YtonleohlplkglaaGreatDoorWO
namespace Go.Proofs.YtonleohlplkglaaGreatDoor
open Go Go.RowKit
end Go.Proofs.YtonleohlplkglaaGreatDoor
namespace Go.Proofs.YtonleohlplkglaaGreatDoor
open Go Go.RowKit
structure RS (K : Nat) (w W wr : World) (lo hh : Nat) (p : Int) (u0 u1 u2 u3 u4 u5 : Value) (lp : List (PtI × Bool)) (lr : List (RdI × Bool)) (sg : List SgI) (ar : List ArI) (lc : List (List PcI × Bool)) (l : List CX) : Prop where
 box : BoxF wr w.heap.size [u0, u1, u2, u3, u4, u5]
 pt : BoxF wr (w.heap.size + 1) [.int .i64 p]
 res : BoxF wr (w.heap.size + 2) zero6
 ext : Ext w wr
 low : w.heap.size + 3 ≤ lo ∧ lo ≤ hh
 cl : ClS K W lo hh wr u0 u1 u2 u3 u4 u5 lp lr sg ar lc l
def CX.less (p : Int) (x : CX) : CX := { x with c := lessC p x.c }
def CX.mid (p : Int) (x : CX) (k : Nat) : CX := { x with c := { x.c with points := mixL (lessI · p) x.c.points k } }
section
variable {K : Nat} {w W wr X : World} {lo hh : Nat} {p : Int} {u0 u1 u2 u3 u4 u5 : Value} {lp lp' : List (PtI × Bool)} {lr lr' : List (RdI × Bool)} {sg sg' : List SgI} {ar ar' : List ArI} {lc : List (List PcI × Bool)} {l l' : List CX}
theorem RS.move (h : RS K w W wr lo hh p u0 u1 u2 u3 u4 u5 lp lr sg ar lc l) (hx : Ext wr X) : RS K w W X lo hh p u0 u1 u2 u3 u4 u5 lp lr sg ar lc l :=
 ⟨h.box.ext hx, h.pt.ext hx, h.res.ext hx, h.ext.trans hx, h.low, h.cl.ext hx⟩
theorem RS.put (h : RS K w W wr lo hh p u0 u1 u2 u3 u4 u5 lp lr sg ar lc l) {r o : Nat} {us : List Value} (hr : lo ≤ r) (hc : ClS K W lo hh (wr.setCells r o us) u0 u1 u2 u3 u4 u5 lp lr' sg' ar' lc l') :
  RS K w W (wr.setCells r o us) lo hh p u0 u1 u2 u3 u4 u5 lp lr' sg' ar' lc l' := by
 have hl := h.low
 have hg := grownBy_sets r us o wr
 have ne : ∀ g, g < w.heap.size + 3 → (some r : Option Nat) ≠ some g := fun g hg e => by injection e with e; omega
 exact ⟨h.box.grown hg (ne _ (by omega)), h.pt.grown hg (ne _ (by omega)), h.res.grown hg (ne _ (by omega)), Ext.sets r (by omega) us o _ h.ext, h.low, hc⟩
theorem setOne (w : World) (r o : Nat) (u : Value) : w.setCells r o [u] = w.setCell ⟨r, o, none⟩ u := rfl
theorem RS.ce {cs : List RdI} {A : Option Addr} {n c i : Nat} (h : RS K w W wr lo hh p u0 (.slice A n c) u2 u3 u4 u5 lp ((mixL (lessR p) cs i).map fun x => (x, false)) sg ar lc l) (hi : i < cs.length) :
  ∃ r, A = some ⟨r, 0, none⟩ ∧ n = cs.length ∧ n ≤ c ∧ wr.cell? ⟨r, i * 5, none⟩ = some (.int .i64 cs[i].center) ∧ wr.frozen? ⟨r, i * 5, none⟩ = false ∧
   ∀ k, RS K w W ((wr.drewN k).setCell ⟨r, i * 5, none⟩ (.int .i64 (lessI cs[i].center p))) lo hh p u0 (.slice A n c) u2 u3 u4 u5 lp ((mixL (lessR p) cs (i + 1)).map fun x => (x, false)) sg ar lc l := by
 have hil : i < ((mixL (lessR p) cs i).map fun x => (x, false)).length := by rw [List.length_map, mix_len]; exact hi
 have hat : ((mixL (lessR p) cs i).map fun x => (x, false))[i] = (cs[i], false) := by rw [List.getElem_map, mix_at hi]
 obtain ⟨r, ds, rfl, hlo, hhi, hlt, hn, hc, hd, hcell, hfr, hR⟩ := h.cl.rds.at_ hil
 rw [hat] at hR
 obtain ⟨u, v, e, -, -⟩ := hR.out
 rw [List.length_map, mix_len] at hn
 refine ⟨r, rfl, hn, hc, ?_, hfr _, fun k => ?_⟩
 ·have := hcell 0 (.int .i64 cs[i].center) (by rw [e]; rfl)
  rwa [Nat.add_zero] at this
 ·have h' := h.move (Ext.drewN wr k)
  have := h'.put hlo (h'.cl.put_ce (x := lessI cs[i].center p) rfl hil (by rw [hat]))
  rw [setOne] at this
  have e2 : ((mixL (lessR p) cs i).map fun x => (x, false)).set i (⟨lessI cs[i].center p, (((mixL (lessR p) cs i).map fun x => (x, false))[i]).1.radius⟩, false) = (mixL (lessR p) cs (i + 1)).map fun x => (x, false) := by
   rw [hat, ← mix_next hi, List.map_set]
   rfl
  rw [e2] at this
  exact this
theorem RS.sa {A : Option Addr} {n c i : Nat} (h : RS K w W wr lo hh p u0 u1 (.slice A n c) u3 u4 u5 lp lr sg ar lc l) (hi : i < sg.length) :
  ∃ r, A = some ⟨r, 0, none⟩ ∧ n = sg.length ∧ n ≤ c ∧ wr.cell? ⟨r, i * 2, none⟩ = some (.int .i64 sg[i].a) ∧ wr.cell? ⟨r, i * 2 + 1, none⟩ = some (.int .i64 sg[i].b) ∧ (∀ j, wr.frozen? ⟨r, j, none⟩ = false) ∧
   (∀ k x, RS K w W ((wr.drewN k).setCell ⟨r, i * 2, none⟩ (.int .i64 x)) lo hh p u0 u1 (.slice A n c) u3 u4 u5 lp lr (sg.set i ⟨x, sg[i].b⟩) ar lc l) ∧
   (∀ k x, RS K w W ((wr.drewN k).setCell ⟨r, i * 2 + 1, none⟩ (.int .i64 x)) lo hh p u0 u1 (.slice A n c) u3 u4 u5 lp lr (sg.set i ⟨sg[i].a, x⟩) ar lc l) := by
 obtain ⟨r, ds, rfl, hlo, hhi, hlt, hn, hc, hd, hcell, hfr, hR⟩ := h.cl.sgs.at_ hi
 have e := hR.out
 refine ⟨r, rfl, hn, hc, ?_, ?_, hfr, fun k x => ?_, fun k x => ?_⟩
 ·have := hcell 0 (.int .i64 sg[i].a) (by rw [show ds = _ from e]; rfl)
  rwa [Nat.add_zero] at this
 ·exact hcell 1 (.int .i64 sg[i].b) (by rw [show ds = _ from e]; rfl)
 ·have h' := h.move (Ext.drewN wr k)
  exact h'.put hlo (h'.cl.put_sa rfl hi x)
 ·have h' := h.move (Ext.drewN wr k)
  exact h'.put hlo (h'.cl.put_sb rfl hi x)
theorem RS.aa {A : Option Addr} {n c i : Nat} (h : RS K w W wr lo hh p u0 u1 u2 (.slice A n c) u4 u5 lp lr sg ar lc l) (hi : i < ar.length) :
  ∃ r, A = some ⟨r, 0, none⟩ ∧ n = ar.length ∧ n ≤ c ∧ wr.cell? ⟨r, i * 4 + 1, none⟩ = some (.int .i64 ar[i].a) ∧ wr.cell? ⟨r, i * 4 + 2, none⟩ = some (.int .i64 ar[i].b) ∧ (∀ j, wr.frozen? ⟨r, j, none⟩ = false) ∧
   (∀ k x, RS K w W ((wr.drewN k).setCell ⟨r, i * 4 + 1, none⟩ (.int .i64 x)) lo hh p u0 u1 u2 (.slice A n c) u4 u5 lp lr sg (ar.set i ⟨ar[i].circle, x, ar[i].b, ar[i].cw⟩) lc l) ∧
   (∀ k x, RS K w W ((wr.drewN k).setCell ⟨r, i * 4 + 2, none⟩ (.int .i64 x)) lo hh p u0 u1 u2 (.slice A n c) u4 u5 lp lr sg (ar.set i ⟨ar[i].circle, ar[i].a, x, ar[i].cw⟩) lc l) := by
 obtain ⟨r, ds, rfl, hlo, hhi, hlt, hn, hc, hd, hcell, hfr, hR⟩ := h.cl.ars.at_ hi
 have e := hR.out
 refine ⟨r, rfl, hn, hc, ?_, ?_, hfr, fun k x => ?_, fun k x => ?_⟩
 ·exact hcell 1 (.int .i64 ar[i].a) (by rw [show ds = _ from e]; rfl)
 ·exact hcell 2 (.int .i64 ar[i].b) (by rw [show ds = _ from e]; rfl)
 ·have h' := h.move (Ext.drewN wr k)
  exact h'.put hlo (h'.cl.put_aa rfl hi x)
 ·have h' := h.move (Ext.drewN wr k)
  exact h'.put hlo (h'.cl.put_ab rfl hi x)
/-- The round of the segments. -/
theorem RS.seg {gs : List SgI} {A : Option Addr} {n c i : Nat} (h : RS K w W wr lo hh p u0 u1 (.slice A n c) u3 u4 u5 lp lr (mixL (lessG p) gs i) ar lc l) (hi : i < gs.length) :
  ∃ r, A = some ⟨r, 0, none⟩ ∧ n = gs.length ∧ n ≤ c ∧ wr.cell? ⟨r, i * 2, none⟩ = some (.int .i64 gs[i].a) ∧ wr.frozen? ⟨r, i * 2, none⟩ = false ∧
   ∀ k w1, w1 = (wr.drewN k).setCell ⟨r, i * 2, none⟩ (.int .i64 (lessI gs[i].a p)) → (∃ sg', RS K w W w1 lo hh p u0 u1 (.slice A n c) u3 u4 u5 lp lr sg' ar lc l) ∧ w1.cell? ⟨r, i * 2 + 1, none⟩ = some (.int .i64 gs[i].b) ∧ w1.frozen? ⟨r, i * 2 + 1, none⟩ = false ∧
    ∀ k, RS K w W ((w1.drewN k).setCell ⟨r, i * 2 + 1, none⟩ (.int .i64 (lessI gs[i].b p))) lo hh p u0 u1 (.slice A n c) u3 u4 u5 lp lr (mixL (lessG p) gs (i + 1)) ar lc l := by
 have hil : i < (mixL (lessG p) gs i).length := by rw [mix_len]; exact hi
 have hat : (mixL (lessG p) gs i)[i] = gs[i] := mix_at hi
 obtain ⟨r, rfl, hn, hc, c0, -, f0, s0, -⟩ := h.sa hil
 rw [hat] at c0 s0
 rw [mix_len] at hn
 refine ⟨r, rfl, hn, hc, c0, f0 _, fun k w1 e => ?_⟩
 subst e
 have h1 := s0 k (lessI gs[i].a p)
 have hil1 : i < ((mixL (lessG p) gs i).set i ⟨lessI gs[i].a p, gs[i].b⟩).length := by rw [List.length_set]; exact hil
 obtain ⟨r', e', -, -, -, c1, f1, -, s1⟩ := h1.sa hil1
 have er : r = r' := congrArg Addr.block (Option.some.inj e')
 subst er
 refine ⟨⟨_, h1⟩, ?_, f1 _, fun k2 => ?_⟩
 ·simpa using c1
 ·have := s1 k2 (lessI gs[i].b p)
  rw [List.getElem_set_self, List.set_set] at this
  rw [← mix_next hi]
  exact this
theorem RS.arc {gs : List ArI} {A : Option Addr} {n c i : Nat} (h : RS K w W wr lo hh p u0 u1 u2 (.slice A n c) u4 u5 lp lr sg (mixL (lessA p) gs i) lc l) (hi : i < gs.length) :
  ∃ r, A = some ⟨r, 0, none⟩ ∧ n = gs.length ∧ n ≤ c ∧ wr.cell? ⟨r, i * 4 + 1, none⟩ = some (.int .i64 gs[i].a) ∧ wr.frozen? ⟨r, i * 4 + 1, none⟩ = false ∧
   ∀ k w1, w1 = (wr.drewN k).setCell ⟨r, i * 4 + 1, none⟩ (.int .i64 (lessI gs[i].a p)) → (∃ ar', RS K w W w1 lo hh p u0 u1 u2 (.slice A n c) u4 u5 lp lr sg ar' lc l) ∧ w1.cell? ⟨r, i * 4 + 2, none⟩ = some (.int .i64 gs[i].b) ∧ w1.frozen? ⟨r, i * 4 + 2, none⟩ = false ∧
    ∀ k, RS K w W ((w1.drewN k).setCell ⟨r, i * 4 + 2, none⟩ (.int .i64 (lessI gs[i].b p))) lo hh p u0 u1 u2 (.slice A n c) u4 u5 lp lr sg (mixL (lessA p) gs (i + 1)) lc l := by
 have hil : i < (mixL (lessA p) gs i).length := by rw [mix_len]; exact hi
 have hat : (mixL (lessA p) gs i)[i] = gs[i] := mix_at hi
 obtain ⟨r, rfl, hn, hc, c0, -, f0, s0, -⟩ := h.aa hil
 rw [hat] at c0 s0
 rw [mix_len] at hn
 refine ⟨r, rfl, hn, hc, c0, f0 _, fun k w1 e => ?_⟩
 subst e
 have h1 := s0 k (lessI gs[i].a p)
 have hil1 : i < ((mixL (lessA p) gs i).set i ⟨gs[i].circle, lessI gs[i].a p, gs[i].b, gs[i].cw⟩).length := by rw [List.length_set]; exact hil
 obtain ⟨r', e', -, -, -, c1, f1, -, s1⟩ := h1.aa hil1
 have er : r = r' := congrArg Addr.block (Option.some.inj e')
 subst er
 refine ⟨⟨_, h1⟩, ?_, f1 _, fun k2 => ?_⟩
 ·simpa using c1
 ·have := s1 k2 (lessI gs[i].b p)
  rw [List.getElem_set_self, List.set_set] at this
  rw [← mix_next hi]
  exact this
theorem mid_zero (x : CX) : x.mid p 0 = x := by unfold CX.mid; rw [mix_zero]
theorem mid_end (x : CX) {k : Nat} (h : x.c.points.length ≤ k) : x.mid p k = x.less p := by unfold CX.mid CX.less lessC; rw [mix_end h]
/-- The constraint that the round copies. -/
theorem RS.con {l0 : List CX} {A : Option Addr} {n c i : Nat} (h : RS K w W wr lo hh p u0 u1 u2 u3 u4 (.slice A n c) lp lr sg ar lc (mixL (CX.less p) l0 i)) (hi : i < l0.length) (hal : ∀ x ∈ l0, x.pv ≠ none ∧ x.vv = none) :
  ∃ r B bc CA ca VA va, A = some ⟨r, 0, none⟩ ∧ n = l0.length ∧ n ≤ c ∧ l0[i].pv = some (.slice B l0[i].c.points.length bc) ∧ wr.cell? ⟨r, i * 5, none⟩ = some (.int .i64 l0[i].c.kind) ∧ wr.cell? ⟨r, i * 5 + 1, none⟩ = some (.slice B l0[i].c.points.length bc) ∧
   wr.cell? ⟨r, i * 5 + 2, none⟩ = some (.slice CA l0[i].c.circles.length ca) ∧ wr.cell? ⟨r, i * 5 + 3, none⟩ = some (.slice VA l0[i].c.values.length va) ∧ wr.cell? ⟨r, i * 5 + 4, none⟩ = some (.int .i64 l0[i].c.side) ∧ r < wr.heap.size ∧ ∀ b, (Value.slice B l0[i].c.points.length bc).ownBlock = some b → b < wr.heap.size := by
 have hil : i < (mixL (CX.less p) l0 i).length := by rw [mix_len]; exact hi
 have hat : (mixL (CX.less p) l0 i)[i] = l0[i] := mix_at hi
 obtain ⟨r, ds, rfl, hlo, hhi, hlt, hn, hc, hd, hcell, hfr, hR⟩ := h.cl.cns.at_ hil
 rw [hat] at hR
 rw [mix_len] at hn
 obtain ⟨pv, cv, vv, rfl, hh'⟩ := hR.out
 obtain ⟨g1, g2⟩ := hal l0[i] (List.getElem_mem hi)
 cases hpv : l0[i].pv with
 | none => exact absurd hpv g1
 | some q =>
  rw [hpv, g2] at hh'
  obtain ⟨rfl, k1, k2⟩ := hh'
  have hrow := h.cl.prow i l0[i] pv (mix_get hi) hpv
  obtain ⟨B, bc, rfl⟩ := hrow.form
  obtain ⟨_, _, rfl, _⟩ := k1.form
  obtain ⟨_, _, rfl, _⟩ := k2.form
  have c0 := hcell 0 _ rfl
  rw [Nat.add_zero] at c0
  exact ⟨r, B, bc, _, _, _, _, rfl, hn, hc, rfl, c0, hcell 1 _ rfl, hcell 2 _ rfl, hcell 3 _ rfl, hcell 4 _ rfl, hlt, fun b hb => (hrow.lt b hb).2.1⟩
/-- The round of a constraint's points. -/
theorem RS.pnt {l0 : List CX} {x : CX} {i k : Nat} {B : Option Addr} {bn bc : Nat} (h : RS K w W wr lo hh p u0 u1 u2 u3 u4 u5 lp lr sg ar lc ((mixL (CX.less p) l0 i).set i (x.mid p k))) (hx : l0[i]? = some x) (hpv : x.pv = some (.slice B bn bc)) (hvv : x.vv = none) (hk : k < x.c.points.length) :
  ∃ b, B = some ⟨b, 0, none⟩ ∧ bn = x.c.points.length ∧ bn ≤ bc ∧ wr.cell? ⟨b, k, none⟩ = some (.int .i64 x.c.points[k]) ∧ wr.frozen? ⟨b, k, none⟩ = false ∧
   ∀ m, RS K w W ((wr.drewN m).setCell ⟨b, k, none⟩ (.int .i64 (lessI x.c.points[k] p))) lo hh p u0 u1 u2 u3 u4 u5 lp lr sg ar lc ((mixL (CX.less p) l0 i).set i (x.mid p (k + 1))) := by
 have hi : i < l0.length := (List.getElem?_eq_some_iff.1 hx).1
 have hil : i < (mixL (CX.less p) l0 i).length := by rw [mix_len]; exact hi
 have hget : ((mixL (CX.less p) l0 i).set i (x.mid p k))[i]? = some (x.mid p k) := List.getElem?_set_self hil
 have hkl : k < (x.mid p k).c.points.length := by show k < (mixL (lessI · p) x.c.points k).length; rw [mix_len]; exact hk
 have hat : (x.mid p k).c.points[k] = x.c.points[k] := mix_at hk
 have hrow := h.cl.prow i (x.mid p k) _ hget hpv
 obtain ⟨b, ds, rfl, hlo, hhi, hlt, hn, hc, hd, hcell, hfr, hR⟩ := hrow.at_ hkl
 rw [hat] at hR
 have e := hR.out
 have hlow := h.low
 refine ⟨b, rfl, ?_, hc, ?_, hfr _, fun m => ?_⟩
 ·rw [hn]; exact mix_len
 ·have := hcell 0 (.int .i64 x.c.points[k]) (by rw [show ds = _ from e]; rfl)
  rwa [Nat.mul_one, Nat.add_zero] at this
 ·have h' := h.move (Ext.drewN wr m)
  have := h'.put (by omega) (h'.cl.put_px hget hpv hvv hkl (lessI x.c.points[k] p))
  rw [List.set_set] at this
  have e2 : (x.mid p k).px k (lessI x.c.points[k] p) = x.mid p (k + 1) := by
   unfold CX.px CX.mid
   show ({ c := { x.c with points := (mixL (lessI · p) x.c.points k).set k (lessI x.c.points[k] p) }, pv := x.pv, vv := x.vv } : CX) = _
   rw [mix_next (f := (lessI · p)) hk]
  rw [e2] at this
  exact this
theorem RS.pstart {l0 : List CX} {x : CX} {i : Nat} (hx : l0[i]? = some x) : (mixL (CX.less p) l0 i).set i (x.mid p 0) = mixL (CX.less p) l0 i := by
 obtain ⟨hi, rfl⟩ := List.getElem?_eq_some_iff.1 hx
 rw [mid_zero, ← mix_at (f := CX.less p) hi, List.set_getElem_self]
theorem RS.pend {l0 : List CX} {x : CX} {i k : Nat} (hx : l0[i]? = some x) (hk : x.c.points.length ≤ k) : (mixL (CX.less p) l0 i).set i (x.mid p k) = mixL (CX.less p) l0 (i + 1) := by
 obtain ⟨hi, rfl⟩ := List.getElem?_eq_some_iff.1 hx
 rw [mid_end _ hk, mix_next hi]
theorem RS.fst (h : RS K w W wr lo hh p u0 u1 u2 u3 u4 u5 lp lr sg ar lc l) {r : Nat} (hg : wr.grownBy X (some r)) (hv : u0.ownBlock = some r) {u0' : Value} (hv' : ∀ b, u0'.ownBlock = some b → b = r) (hn : RowS (Sx hh l) 40 8 (Fl PtR W) lo hh X u0' lp') :
  RS K w W (X.setCell ⟨w.heap.size, 0, none⟩ u0') lo hh p u0' u1 u2 u3 u4 u5 lp' lr sg ar lc l := by
 have hl := h.low
 obtain ⟨hlo, hhi, -⟩ := h.cl.pts.lt r hv
 have ne : ∀ g, g < w.heap.size + 3 → (some r : Option Nat) ≠ some g := fun g hg e => by injection e with e; omega
 have hE : Ext w X := ⟨hg.os.trans h.ext.os, hg.tape.trans h.ext.tape, hg.output.trans h.ext.output, Nat.le_trans h.ext.size hg.size, fun k hk => (hg.block k (Nat.lt_of_lt_of_le hk h.ext.size) (by intro e; injection e with e; omega)).trans (h.ext.block k hk)⟩
 have hs := grownBy_setCell X ⟨w.heap.size, 0, none⟩ u0'
 exact ⟨(h.box.grown hg (ne _ (by omega))).set_ u0', (h.pt.grown hg (ne _ (by omega))).grown hs (by intro e; injection e with e; simp at e), (h.res.grown hg (ne _ (by omega))).grown hs (by intro e; injection e with e; simp at e), hE.pset (Nat.le_refl _) _, h.low, (h.cl.repl0 hg hv hv' hn).off hs (by simp; omega) hl.2⟩
theorem RS.init {w2 : World} {c0 c1 c2 c3 c4 c5 : Value} (hb : BoxF W w.heap.size [c0, c1, c2, c3, c4, c5]) (hp : BoxF W (w.heap.size + 1) [.int .i64 p]) (hr : BoxF W (w.heap.size + 2) zero6) (hE : Ext w W) (hx : Ext W w2) (hz : w.heap.size + 3 ≤ W.heap.size)
  (hC : ClS K W lo hh w2 u0 u1 u2 u3 u4 u5 lp lr sg ar lc l) (hlo : W.heap.size + 2 ≤ lo) (hlh : lo ≤ hh) : RS K w W (w2.setCells w.heap.size 0 [u0, u1, u2, u3, u4, u5]) lo hh p u0 u1 u2 u3 u4 u5 lp lr sg ar lc l := by
 have hg := grownBy_sets w.heap.size [u0, u1, u2, u3, u4, u5] 0 w2
 have := BoxF.sets [u0, u1, u2, u3, u4, u5] 0 w2 _ (hb.ext hx) (by simp)
 exact ⟨this, (hp.ext hx).grown hg (by simp), (hr.ext hx).grown hg (by simp), Ext.sets _ (Nat.le_refl _) _ _ _ (hE.trans hx), ⟨by omega, hlh⟩, hC.off hg (by omega) hlh⟩
theorem RS.fin {ps : List PtI} {rs : List RdI} {cs : List (List PcI)} (h : RS K w W wr lo hh p u0 u1 u2 u3 u4 u5 (ps.map fun x => (x, false)) (rs.map fun x => (x, false)) sg ar (cs.map fun x => (x, false)) l) (hl : ∀ x ∈ l, x.pv ≠ none ∧ x.vv = none)
  (b0 : ps.length ≤ 1000) (b1 : rs.length ≤ 1000) (b2 : sg.length ≤ 1000) (b3 : ar.length ≤ 1000) (b4 : cs.length ≤ 1000) (b5 : l.length ≤ 1000) (b6 : ∀ x ∈ l, x.c.points.length ≤ 1000) (us : List Value) : SkAt K (wr.setCells (w.heap.size + 2) 0 us) u0 u1 u2 u3 u4 u5 ⟨ps, rs, sg, ar, cs, l.map (·.c)⟩ := by
 have hlow := h.low
 have hc := h.cl.off (grownBy_sets (w.heap.size + 2) us 0 wr) (by omega) hlow.2
 exact sk_of_rows hc.pts hc.rds hc.sgs hc.ars hc.chs hc.cns hc.prow hl b0 b1 b2 b3 b4 b5 b6
end
/-- A point of the copy, with places for its cells. -/
def PtY (w0 w : World) (ds : List Value) (x : PtI × Bool) : Prop := Fl PtR w0 w ds x ∧ ∀ u ∈ ds, u.oneCell' = true
theorem ptY {lo hh : Nat} {w0 w : World} {S : Nat → Prop} {v : Value} {xs : List PtI} (h : RowS S 40 8 (Fl PtR w0) lo hh w v (xs.map fun x => (x, false))) : RowS S 40 8 (PtY w0) lo hh w v (xs.map fun x => (x, false)) :=
 h.re rfl (fun k x x' hx hx' ds hR => by
  rw [hx] at hx'
  injection hx' with hx'
  subst hx'
  intro w' hk
  have h1 := hR w' hk
  refine ⟨h1, ?_⟩
  unfold Fl at h1
  split at h1 <;> exact one_pt _ ds x.1 h1)
theorem unPtY {lo hh : Nat} {w0 w : World} {S : Nat → Prop} {v : Value} {xs : List (PtI × Bool)} (h : RowS S 40 8 (PtY w0) lo hh w v xs) : RowS S 40 8 (Fl PtR w0) lo hh w v xs :=
 h.re rfl (fun k x x' hx hx' ds hR => by
  rw [hx] at hx'
  injection hx' with hx'
  subst hx'
  exact hR.imp (fun _ _ h => h.1))
theorem boxF3 {w : World} {cs ds es : List Value} {T U V : TypeId} : ∃ W, ((w.alloc (.cells cs.toArray T)).alloc (.cells ds.toArray U)).alloc (.cells es.toArray V) = W ∧ BoxF W w.heap.size cs ∧ BoxF W (w.heap.size + 1) ds ∧ BoxF W (w.heap.size + 2) es ∧ Ext w W ∧ w.heap.size + 3 ≤ W.heap.size := by
 refine ⟨_, rfl, ((BoxF.new _ _ _).ext (Ext.alloc _ _)).ext (Ext.alloc _ _), ?_, ?_, ((Ext.alloc _ _).palloc _).palloc _, by simp⟩
 ·have := (BoxF.new (w.alloc (.cells cs.toArray T)) ds U).ext (Ext.alloc _ (.cells es.toArray V))
  rwa [World.size_alloc] at this
 ·have := BoxF.new ((w.alloc (.cells cs.toArray T)).alloc (.cells ds.toArray U)) es V
  rwa [World.size_alloc, World.size_alloc] at this
end Go.Proofs.YtonleohlplkglaaGreatDoor
namespace Go.Proofs.YtonleohlplkglaaGreatDoor
open Go Go.RowKit
set_option maxRecDepth 100000 in
set_option maxHeartbeats 1600000 in
theorem sketch_RemovePoint_bad {K : Nat} {s : SkI} {v0 v1 v2 v3 v4 v5 : Value} {w : World} {p : Int} (h : SkAt K w v0 v1 v2 v3 v4 v5 s) (hi : hasL s.points.length p = false) :
  Calls Tryz.prog 26 #[.agg #[v0, v1, v2, v3, v4, v5], .int .i64 p] w (Ret w fun r _ => r = .tuple #[.agg zero6.toArray, .int .i64 1]) := by
 obtain ⟨A0, c0, rfl, -, -⟩ := h.points.form
 have HH := Lib.hid (fun w1 => sketch_has (s.points.length : Int) p w1)
 rw [hi] at HH
 clear h hi
 obtain ⟨W, hW, hb1, hb2, hb3, hx, hz⟩ := boxF3 (w := w) (cs := [.slice A0 s.points.length c0, v1, v2, v3, v4, v5]) (ds := [.int .i64 p]) (es := zero6) (T := 29) (U := 3) (V := 29)
 have HB1 := Lib.hid hb1
 have HB2 := Lib.hid hb2
 have HB3 := Lib.hid hb3
 have HW := Lib.hid hW
 have HX := Lib.hid hx
 clear hW hb1 hb2 hb3 hx hz
 go_enter Tryz.func26, Tryz.ntmps26
 go_upto_region 1 with fail
 rw [show ((w.alloc (.cells #[.slice A0 s.points.length c0, v1, v2, v3, v4, v5] 29)).alloc (.cells #[.int .i64 p] 3)).alloc (.cells #[.slice none 0 0, .slice none 0 0, .slice none 0 0, .slice none 0 0, .slice none 0 0, .slice none 0 0] 29) = W from HW.out]
 obtain ⟨y0, y1, y2, y3, y4, y5⟩ := HB1.out.1.six
 have q0 := HB2.out.1.2 0 _ rfl
 obtain ⟨z0, z1, z2, z3, z4, z5⟩ := HB3.out.1.six
 have f0 := HB3.out.2 0
 have f1 := HB3.out.2 1
 have f2 := HB3.out.2 2
 have f3 := HB3.out.2 3
 have f4 := HB3.out.2 4
 have f5 := HB3.out.2 5
 go_wp2_with fail
 refine (HH.out _).mono ?_
 rintro e w1 ⟨rfl, rfl⟩
 go_wp2_with fail
 refine bodyPost_ret (v := .tuple #[.agg #[.slice none 0 0, .slice none 0 0, .slice none 0 0, .slice none 0 0, .slice none 0 0, .slice none 0 0], .int .i64 1]) ?_ rfl ⟨_, rfl, rfl, ?_⟩
 ·simp [results, Tryz.results26, go_sem, z0, z1, z2, z3, z4, z5]
 ·exact Ext.sets (w.heap.size + 2) (by omega) [_, _, _, _, _, _] 0 _ HX.out
set_option maxRecDepth 100000 in
set_option maxHeartbeats 1600000 in
theorem sketch_RemovePoint_needed {K : Nat} {s : SkI} {v0 v1 v2 v3 v4 v5 : Value} {w : World} {p : Int} (h : SkAt K w v0 v1 v2 v3 v4 v5 s) (hi : hasL s.points.length p = true) (hn : neededL s p = true) (hc : s.cons.length ≤ 1000) :
  Calls Tryz.prog 26 #[.agg #[v0, v1, v2, v3, v4, v5], .int .i64 p] w (Ret w fun r _ => r = .tuple #[.agg zero6.toArray, .int .i64 14]) := by
 obtain ⟨A0, c0, rfl, -, -⟩ := h.points.form
 have HH := Lib.hid (fun w1 => sketch_has (s.points.length : Int) p w1)
 have HN := Lib.hid (fun w1 (hx : Ext w w1) => sketch_needed (p := p) (h.ext hx) hc)
 rw [hi] at HH
 rw [hn] at HN
 clear h hi hn
 obtain ⟨W, hW, hb1, hb2, hb3, hx, hz⟩ := boxF3 (w := w) (cs := [.slice A0 s.points.length c0, v1, v2, v3, v4, v5]) (ds := [.int .i64 p]) (es := zero6) (T := 29) (U := 3) (V := 29)
 have HB1 := Lib.hid hb1
 have HB2 := Lib.hid hb2
 have HB3 := Lib.hid hb3
 have HW := Lib.hid hW
 have HX := Lib.hid hx
 clear hW hb1 hb2 hb3 hx hz
 go_enter Tryz.func26, Tryz.ntmps26
 go_upto_region 1 with fail
 rw [show ((w.alloc (.cells #[.slice A0 s.points.length c0, v1, v2, v3, v4, v5] 29)).alloc (.cells #[.int .i64 p] 3)).alloc (.cells #[.slice none 0 0, .slice none 0 0, .slice none 0 0, .slice none 0 0, .slice none 0 0, .slice none 0 0] 29) = W from HW.out]
 obtain ⟨y0, y1, y2, y3, y4, y5⟩ := HB1.out.1.six
 have q0 := HB2.out.1.2 0 _ rfl
 go_wp2_with fail
 refine (HH.out _).mono ?_
 rintro e w1 ⟨rfl, rfl⟩
 go_wp2_with fail
 refine (HN.out _ HX.out).mono ?_
 rintro e w2 ⟨rfl, hx2⟩
 clear y0 y1 y2 y3 y4 y5 q0
 have HB4 := Lib.hid (HB3.out.ext hx2)
 have HX2 := Lib.hid (HX.out.trans hx2)
 clear hx2
 obtain ⟨z0, z1, z2, z3, z4, z5⟩ := HB4.out.1.six
 have f0 := HB4.out.2 0
 have f1 := HB4.out.2 1
 have f2 := HB4.out.2 2
 have f3 := HB4.out.2 3
 have f4 := HB4.out.2 4
 have f5 := HB4.out.2 5
 go_wp2_with fail
 refine bodyPost_ret (v := .tuple #[.agg #[.slice none 0 0, .slice none 0 0, .slice none 0 0, .slice none 0 0, .slice none 0 0, .slice none 0 0], .int .i64 14]) ?_ rfl ⟨_, rfl, rfl, ?_⟩
 ·simp [results, Tryz.results26, go_sem, z0, z1, z2, z3, z4, z5]
 ·exact Ext.sets (w.heap.size + 2) (by omega) [_, _, _, _, _, _] 0 _ HX2.out
end Go.Proofs.YtonleohlplkglaaGreatDoor
namespace Go.Proofs.YtonleohlplkglaaGreatDoor
open Go Go.RowKit
set_option maxRecDepth 100000 in
set_option maxHeartbeats 6400000 in
theorem sketch_RemovePoint_good {K : Nat} {s : SkI} {v0 v1 v2 v3 v4 v5 : Value} {w : World} {ip : Nat} (h : SkAt K w v0 v1 v2 v3 v4 v5 s) (hi : ip < s.points.length) (hn : neededL s (ip : Int) = false) (hok : CloneOK K s) (hbd : Bnd s) :
  Calls Tryz.prog 26 #[.agg #[v0, v1, v2, v3, v4, v5], .int .i64 (ip : Int)] w (Ret w fun r w' => ∃ u0 u1 u2 u3 u4 u5, r = .tuple #[.agg #[u0, u1, u2, u3, u4, u5], .int .i64 0] ∧ SkAt K w' u0 u1 u2 u3 u4 u5 (withoutL s (ip : Int))) := by
 obtain ⟨A0, c0, rfl, -, -⟩ := h.points.form
 have HH := Lib.hid (fun w1 => sketch_has (s.points.length : Int) (ip : Int) w1)
 rw [show hasL (s.points.length : Int) (ip : Int) = true by simp [hasL]; omega] at HH
 have HN := Lib.hid (fun w1 (hx : Ext w w1) => sketch_needed (p := (ip : Int)) (h.ext hx) (by have := hok.l5; omega))
 rw [hn] at HN
 have HCL := Lib.hid (fun w1 (hx : Ext w w1) => sketch_clone (h.ext hx) hok)
 have HOK := Lib.hid hok
 have HBD := Lib.hid hbd
 have HI := Lib.hid hi
 have hib : ip ≤ 1000 := by have := hok.l0; omega
 clear h hi hn hok hbd
 obtain ⟨W1, hW, hb1, hb2, hb3, hx, hz⟩ := boxF3 (w := w) (cs := [.slice A0 s.points.length c0, v1, v2, v3, v4, v5]) (ds := [.int .i64 (ip : Int)]) (es := zero6) (T := 29) (U := 3) (V := 29)
 have HB1 := Lib.hid hb1
 have HB2 := Lib.hid hb2
 have HB3 := Lib.hid hb3
 have HW := Lib.hid hW
 have HX := Lib.hid hx
 have HZ := Lib.hid hz
 clear hW hb1 hb2 hb3 hx hz
 go_enter Tryz.func26, Tryz.ntmps26
 go_upto_region 1 with fail
 rw [show ((w.alloc (.cells #[.slice A0 s.points.length c0, v1, v2, v3, v4, v5] 29)).alloc (.cells #[.int .i64 (ip : Int)] 3)).alloc (.cells #[.slice none 0 0, .slice none 0 0, .slice none 0 0, .slice none 0 0, .slice none 0 0, .slice none 0 0] 29) = W1 from HW.out]
 obtain ⟨y0, y1, y2, y3, y4, y5⟩ := HB1.out.1.six
 have q0 := HB2.out.1.2 0 _ rfl
 go_wp2_with fail
 refine (HH.out _).mono ?_
 rintro e w1 ⟨rfl, rfl⟩
 go_wp2_with fail
 refine (HN.out _ HX.out).mono ?_
 rintro e W ⟨rfl, hxW⟩
 have HB1W := Lib.hid (HB1.out.ext hxW)
 have HB2W := Lib.hid (HB2.out.ext hxW)
 have HB3W := Lib.hid (HB3.out.ext hxW)
 have HXW := Lib.hid (HX.out.trans hxW)
 have HZW : Hid (w.heap.size + 3 ≤ W.heap.size) := Nat.le_trans HZ.out hxW.size
 clear y0 y1 y2 y3 y4 y5 q0 hxW HB1 HB2 HB3 HX HZ HH HN HW
 obtain ⟨y0, y1, y2, y3, y4, y5⟩ := HB1W.out.1.six
 go_wp2_with fail
 refine (HCL.out _ HXW.out).mono ?_
 rintro e w2 ⟨r2, rfl, ⟨lo, hh, u0, u1, u2, u3, u4, u5, lp, lr, lc, l, rfl, hC, hlo, hlh, rfl, rfl, rfl, htl, hal⟩, hx2⟩
 clear y0 y1 y2 y3 y4 y5 HCL
 have hlen : l.length = s.cons.length := len_c htl
 have hRS := RS.init HB1W.out HB2W.out HB3W.out HXW.out hx2 HZW.out hC hlo hlh
 have k0 := (HB1W.out.ext hx2).2 0
 have k1 := (HB1W.out.ext hx2).2 1
 have k2 := (HB1W.out.ext hx2).2 2
 have k3 := (HB1W.out.ext hx2).2 3
 have k4 := (HB1W.out.ext hx2).2 4
 have k5 := (HB1W.out.ext hx2).2 5
 obtain ⟨y0, y1, y2, y3, y4, y5⟩ := (HB1W.out.ext hx2).1.six
 obtain ⟨A0, a0, rfl⟩ : ∃ A c, u0 = .slice A s.points.length c := by obtain ⟨A, c, e⟩ := hC.pts.form; exact ⟨A, c, by rw [e, List.length_map]⟩
 obtain ⟨A1, a1, rfl⟩ : ∃ A c, u1 = .slice A s.circles.length c := by obtain ⟨A, c, e⟩ := hC.rds.form; exact ⟨A, c, by rw [e, List.length_map]⟩
 obtain ⟨A2, a2, rfl⟩ := hC.sgs.form
 obtain ⟨A3, a3, rfl⟩ := hC.ars.form
 obtain ⟨A4, a4, rfl⟩ : ∃ A c, u4 = .slice A s.chains.length c := by obtain ⟨A, c, e⟩ := hC.chs.form; exact ⟨A, c, by rw [e, List.length_map]⟩
 obtain ⟨A5, a5, rfl⟩ : ∃ A c, u5 = .slice A s.cons.length c := by obtain ⟨A, c, e⟩ := hC.cns.form; exact ⟨A, c, by rw [e, hlen]⟩
 have hil : ip < (s.points.map fun x => (x, false)).length := by rw [List.length_map]; exact HI.out
 obtain ⟨r, rfl, hrlo, hrhh⟩ : ∃ r, A0 = some ⟨r, 0, none⟩ ∧ lo ≤ r ∧ r < hh := by
  obtain ⟨r, ds, e1, e2, e3, -⟩ := hC.pts.at_ hil
  exact ⟨r, e1, e2, e3⟩
 obtain ⟨w3, hw3⟩ : ∃ w3, w2.setCells w.heap.size 0 [.slice (some ⟨r, 0, none⟩) s.points.length a0, .slice A1 s.circles.length a1, .slice A2 s.segs.length a2, .slice A3 s.arcs.length a3, .slice A4 s.chains.length a4, .slice A5 s.cons.length a5] = w3 := ⟨_, rfl⟩
 rw [hw3] at hRS
 have HW3 := Lib.hid hw3
 have HRS := Lib.hid hRS
 have HDEL := Lib.hid (delete_Point (ptY hRS.cl.pts) hil (Sx.not (by omega)) (fun _ _ _ h => h.2) (by rw [List.length_map]; exact HOK.out.l0))
 rw [List.length_map] at HDEL
 have HAL := Lib.hid hal
 have HTL := Lib.hid htl
 have HLE := Lib.hid hlen
 have HPB : Hid (∀ x ∈ l, x.c.points.length ≤ 1000) := fun x hx => (HOK.out.cns x.c (by rw [← HTL.out]; exact List.mem_map.2 ⟨x, hx, rfl⟩)).1
 have HPN : Hid (∀ x ∈ l, ∀ y ∈ x.c.points, y ≤ 1000000) := fun x hx => HBD.out.cn x.c (by rw [← HTL.out]; exact List.mem_map.2 ⟨x, hx, rfl⟩)
 clear hC hRS hw3 hx2 hal htl hlen hil hrlo hrhh
 go_upto_region 6 with fail
 rw [show (((((w2.setCell ⟨w.heap.size, 0, none⟩ _).setCell ⟨w.heap.size, 1, none⟩ _).setCell ⟨w.heap.size, 2, none⟩ _).setCell ⟨w.heap.size, 3, none⟩ _).setCell ⟨w.heap.size, 4, none⟩ _).setCell ⟨w.heap.size, 5, none⟩ _ = w3 from HW3.out]
 clear y0 y1 y2 y3 y4 y5 k0 k1 k2 k3 k4 k5 HW3
 obtain ⟨y0, y1, y2, y3, y4, y5⟩ := HRS.out.box.1.six
 have q0 := HRS.out.pt.1.2 0 _ rfl
 go_wp2_with fail
 refine HDEL.out.mono ?_
 rintro e w4 ⟨b0, rfl, hrow4, hg4⟩
 rw [← eraseIdx_map] at hrow4
 have hf := HRS.out.fst hg4 rfl (u0' := .slice (some ⟨r, 0, none⟩) (s.points.length - 1) b0) (fun b hb => (Option.some.inj hb).symm) (unPtY hrow4)
 have hlowB := HRS.out.low
 have hbx := HRS.out.box.grown hg4 (by intro e; injection e with e; have := (HRS.out.cl.pts.lt r rfl).1; omega)
 clear y0 y1 y2 y3 y4 y5 q0 HDEL hrow4 hg4
 obtain ⟨y0, y1, y2, y3, y4, y5⟩ := hbx.1.six
 have k0 := hbx.2 0
 obtain ⟨w5, hw5⟩ : ∃ w5, w4.setCell ⟨w.heap.size, 0, none⟩ (.slice (some ⟨r, 0, none⟩) (s.points.length - 1) b0) = w5 := ⟨_, rfl⟩
 rw [hw5] at hf
 obtain ⟨A0, hA0⟩ : ∃ A : Option Addr, some ⟨r, 0, none⟩ = A := ⟨_, rfl⟩
 rw [hA0] at hf hw5
 have HW5 := Lib.hid hw5
 go_upto_region 8 with fail
 clear y0 y1 y2 y3 y4 y5 k0 hbx hw5 HW5 hA0 HRS
 have HS0 : Hid (RS K w W w5 lo hh (ip : Int) (.slice A0 (s.points.length - 1) b0) (.slice A1 s.circles.length a1) (.slice A2 s.segs.length a2) (.slice A3 s.arcs.length a3) (.slice A4 s.chains.length a4) (.slice A5 s.cons.length a5) ((s.points.eraseIdx ip).map fun x => (x, false)) (s.circles.map fun x => (x, false)) s.segs s.arcs (s.chains.map fun x => (x, false)) l) := hf
 have HEND : Hid (∀ wr, RS K w W wr lo hh (ip : Int) (.slice A0 (s.points.length - 1) b0) (.slice A1 s.circles.length a1) (.slice A2 s.segs.length a2) (.slice A3 s.arcs.length a3) (.slice A4 s.chains.length a4) (.slice A5 s.cons.length a5) ((s.points.eraseIdx ip).map fun x => (x, false)) ((s.circles.map (lessR (ip : Int))).map fun x => (x, false)) (s.segs.map (lessG (ip : Int))) (s.arcs.map (lessA (ip : Int))) (s.chains.map fun x => (x, false)) (l.map (CX.less (ip : Int))) → ∀ us : List Value, SkAt K (wr.setCells (w.heap.size + 2) 0 us) (.slice A0 (s.points.length - 1) b0) (.slice A1 s.circles.length a1) (.slice A2 s.segs.length a2) (.slice A3 s.arcs.length a3) (.slice A4 s.chains.length a4) (.slice A5 s.cons.length a5) (withoutL s (ip : Int))) := by
  intro wr h us
  have := h.fin (fun x hx => by
   obtain ⟨y, hy, rfl⟩ := List.mem_map.1 hx
   exact HAL.out y hy) (by have := HOK.out.l0; have := List.length_eraseIdx_le s.points ip; omega) (by rw [List.length_map]; exact HOK.out.l1) (by rw [List.length_map]; exact HOK.out.l2) (by rw [List.length_map]; exact HOK.out.l3) HOK.out.l4 (by rw [List.length_map, HLE.out]; exact HOK.out.l5) (fun x hx => by
   obtain ⟨y, hy, rfl⟩ := List.mem_map.1 hx
   show (y.c.points.map _).length ≤ 1000
   rw [List.length_map]
   exact HPB.out y hy) us
  rw [List.map_map, show ((fun x : CX => x.c) ∘ CX.less (ip : Int)) = lessC (ip : Int) ∘ (fun x : CX => x.c) from rfl, ← List.map_map, HTL.out] at this
  have e : ptsW s.points (ip : Int) = s.points.eraseIdx ip := by unfold ptsW; rw [if_pos (by omega)]; rfl
  unfold withoutL
  rw [e]
  exact this
 clear hf
 obtain ⟨y0, y1, y2, y3, y4, y5⟩ := HS0.out.box.1.six
 go_wp2_with fail
 clear y0 y1 y2 y3 y4 y5
 have hl1 : s.circles.length ≤ 1000 := HOK.out.l1
 have hl2 : s.segs.length ≤ 1000 := HOK.out.l2
 have hl3 : s.arcs.length ≤ 1000 := HOK.out.l3
 have hl5 : s.cons.length ≤ 1000 := HOK.out.l5
 go_loopg [37] s.circles.length (fun gk x wr => ∃ i : Nat, x = .int .i64 (i : Int) ∧ i + gk = s.circles.length ∧ Hid (RS K w W wr lo hh (ip : Int) (.slice A0 (s.points.length - 1) b0) (.slice A1 s.circles.length a1) (.slice A2 s.segs.length a2) (.slice A3 s.arcs.length a3) (.slice A4 s.chains.length a4) (.slice A5 s.cons.length a5) ((s.points.eraseIdx ip).map fun x => (x, false)) ((mixL (lessR (ip : Int)) s.circles i).map fun x => (x, false)) s.segs s.arcs (s.chains.map fun x => (x, false)) l))
 case atStart => exact ⟨0, rfl, by omega, by rw [mix_zero]; exact HS0.out⟩
 case round =>
  clear HS0
  obtain ⟨i, rfl, hi, HS⟩ := hrel
  obtain ⟨y0, y1, y2, y3, y4, y5⟩ := HS.out.box.1.six
  have q0 := HS.out.pt.1.2 0 _ rfl
  by_cases hlt : i < s.circles.length
  ·have i1 : (i : Int) < (s.circles.length : Int) := by omega
   have i0 : (0 : Int) ≤ (i : Int) := by omega
   obtain ⟨r, rfl, hn, hc, c0, f0, hput⟩ := HS.out.ce hlt
   have HPUT := Lib.hid hput
   have hbd := HBD.out.rd _ (List.getElem_mem hlt)
   clear hput HS hn
   generalize s.circles[i].center = ce at *
   go_wp2_with fail
   refine (sketch_shift c0 f0 q0 (by omega) hbd).mono ?_
   rintro e w9 ⟨rfl, m, rfl⟩
   have hfin := HPUT.out m
   have HFIN := Lib.hid hfin
   clear hfin HPUT
   go_wp2_with fail
   go_roundg (s.circles.length - (i + 1))
   case measure => omega
   case rel => exact ⟨i + 1, by simp, by omega, HFIN.out⟩
  ·have HS0 : Hid (RS K w W wr lo hh (ip : Int) (.slice A0 (s.points.length - 1) b0) (.slice A1 s.circles.length a1) (.slice A2 s.segs.length a2) (.slice A3 s.arcs.length a3) (.slice A4 s.chains.length a4) (.slice A5 s.cons.length a5) ((s.points.eraseIdx ip).map fun x => (x, false)) ((s.circles.map (lessR (ip : Int))).map fun x => (x, false)) s.segs s.arcs (s.chains.map fun x => (x, false)) l) := by rw [← mix_end (f := lessR (ip : Int)) (l := s.circles) (i := i) (by omega)]; exact HS.out
   clear HS
   go_wp2_with fail
   clear y0 y1 y2 y3 y4 y5 q0 hlt hi
   go_loopg [51] s.segs.length (fun gk x wr => ∃ i : Nat, x = .int .i64 (i : Int) ∧ i + gk = s.segs.length ∧ Hid (RS K w W wr lo hh (ip : Int) (.slice A0 (s.points.length - 1) b0) (.slice A1 s.circles.length a1) (.slice A2 s.segs.length a2) (.slice A3 s.arcs.length a3) (.slice A4 s.chains.length a4) (.slice A5 s.cons.length a5) ((s.points.eraseIdx ip).map fun x => (x, false)) ((s.circles.map (lessR (ip : Int))).map fun x => (x, false)) (mixL (lessG (ip : Int)) s.segs i) s.arcs (s.chains.map fun x => (x, false)) l))
   case atStart => exact ⟨0, rfl, by omega, by rw [mix_zero]; exact HS0.out⟩
   case round =>
    clear HS0
    obtain ⟨i, rfl, hi, HS⟩ := hrel
    obtain ⟨y0, y1, y2, y3, y4, y5⟩ := HS.out.box.1.six
    have q0 := HS.out.pt.1.2 0 _ rfl
    by_cases hlt : i < s.segs.length
    ·have i1 : (i : Int) < (s.segs.length : Int) := by omega
     have i0 : (0 : Int) ≤ (i : Int) := by omega
     obtain ⟨r, rfl, hn, hc, c0, f0, hput⟩ := HS.out.seg hlt
     have HPUT := Lib.hid hput
     have hbd := HBD.out.sg _ (List.getElem_mem hlt)
     clear hput HS hn
     generalize s.segs[i].a = ga at *
     generalize s.segs[i].b = gb at *
     go_wp2_with fail
     refine (sketch_shift c0 f0 q0 (by omega) hbd.1).mono ?_
     rintro e w9 ⟨rfl, m, hw9⟩
     obtain ⟨⟨_, hS9⟩, c1, f1, hP9⟩ := HPUT.out m w9 hw9
     clear y0 y1 y2 y3 y4 y5 q0 c0 f0 hw9 HPUT
     obtain ⟨y0, y1, y2, y3, y4, y5⟩ := hS9.box.1.six
     have q0 := hS9.pt.1.2 0 _ rfl
     have HP9 := Lib.hid hP9
     clear hP9 hS9
     go_wp2_with fail
     refine (sketch_shift c1 f1 q0 (by omega) hbd.2).mono ?_
     rintro e w8 ⟨rfl, m2, rfl⟩
     have HFIN := Lib.hid (HP9.out m2)
     clear HP9
     go_wp2_with fail
     go_roundg (s.segs.length - (i + 1))
     case measure => omega
     case rel => exact ⟨i + 1, by simp, by omega, HFIN.out⟩
    ·have HS0 : Hid (RS K w W wr lo hh (ip : Int) (.slice A0 (s.points.length - 1) b0) (.slice A1 s.circles.length a1) (.slice A2 s.segs.length a2) (.slice A3 s.arcs.length a3) (.slice A4 s.chains.length a4) (.slice A5 s.cons.length a5) ((s.points.eraseIdx ip).map fun x => (x, false)) ((s.circles.map (lessR (ip : Int))).map fun x => (x, false)) (s.segs.map (lessG (ip : Int))) s.arcs (s.chains.map fun x => (x, false)) l) := by rw [← mix_end (f := lessG (ip : Int)) (l := s.segs) (i := i) (by omega)]; exact HS.out
     clear HS
     go_wp2_with fail
     clear y0 y1 y2 y3 y4 y5 q0 hlt hi
     go_loopg [72] s.arcs.length (fun gk x wr => ∃ i : Nat, x = .int .i64 (i : Int) ∧ i + gk = s.arcs.length ∧ Hid (RS K w W wr lo hh (ip : Int) (.slice A0 (s.points.length - 1) b0) (.slice A1 s.circles.length a1) (.slice A2 s.segs.length a2) (.slice A3 s.arcs.length a3) (.slice A4 s.chains.length a4) (.slice A5 s.cons.length a5) ((s.points.eraseIdx ip).map fun x => (x, false)) ((s.circles.map (lessR (ip : Int))).map fun x => (x, false)) (s.segs.map (lessG (ip : Int))) (mixL (lessA (ip : Int)) s.arcs i) (s.chains.map fun x => (x, false)) l))
     case atStart => exact ⟨0, rfl, by omega, by rw [mix_zero]; exact HS0.out⟩
     case round =>
      clear HS0
      obtain ⟨i, rfl, hi, HS⟩ := hrel
      obtain ⟨y0, y1, y2, y3, y4, y5⟩ := HS.out.box.1.six
      have q0 := HS.out.pt.1.2 0 _ rfl
      by_cases hlt : i < s.arcs.length
      ·have i1 : (i : Int) < (s.arcs.length : Int) := by omega
       have i0 : (0 : Int) ≤ (i : Int) := by omega
       obtain ⟨r, rfl, hn, hc, c0, f0, hput⟩ := HS.out.arc hlt
       have HPUT := Lib.hid hput
       have hbd := HBD.out.ar _ (List.getElem_mem hlt)
       clear hput HS hn
       generalize s.arcs[i].a = ga at *
       generalize s.arcs[i].b = gb at *
       go_wp2_with fail
       refine (sketch_shift c0 f0 q0 (by omega) hbd.1).mono ?_
       rintro e w9 ⟨rfl, m, hw9⟩
       obtain ⟨⟨_, hS9⟩, c1, f1, hP9⟩ := HPUT.out m w9 hw9
       clear y0 y1 y2 y3 y4 y5 q0 c0 f0 hw9 HPUT
       obtain ⟨y0, y1, y2, y3, y4, y5⟩ := hS9.box.1.six
       have q0 := hS9.pt.1.2 0 _ rfl
       have HP9 := Lib.hid hP9
       clear hP9 hS9
       go_wp2_with fail
       refine (sketch_shift c1 f1 q0 (by omega) hbd.2).mono ?_
       rintro e w8 ⟨rfl, m2, rfl⟩
       have HFIN := Lib.hid (HP9.out m2)
       clear HP9
       go_wp2_with fail
       go_roundg (s.arcs.length - (i + 1))
       case measure => omega
       case rel => exact ⟨i + 1, by simp, by omega, HFIN.out⟩
      ·have HS0 : Hid (RS K w W wr lo hh (ip : Int) (.slice A0 (s.points.length - 1) b0) (.slice A1 s.circles.length a1) (.slice A2 s.segs.length a2) (.slice A3 s.arcs.length a3) (.slice A4 s.chains.length a4) (.slice A5 s.cons.length a5) ((s.points.eraseIdx ip).map fun x => (x, false)) ((s.circles.map (lessR (ip : Int))).map fun x => (x, false)) (s.segs.map (lessG (ip : Int))) (s.arcs.map (lessA (ip : Int))) (s.chains.map fun x => (x, false)) l) := by rw [← mix_end (f := lessA (ip : Int)) (l := s.arcs) (i := i) (by omega)]; exact HS.out
       clear HS
       go_wp2_with fail
       clear y0 y1 y2 y3 y4 y5 q0 hlt hi
       go_loopg [93] s.cons.length (fun gk x wr => ∃ i : Nat, x = .int .i64 (i : Int) ∧ i + gk = s.cons.length ∧ Hid (RS K w W wr lo hh (ip : Int) (.slice A0 (s.points.length - 1) b0) (.slice A1 s.circles.length a1) (.slice A2 s.segs.length a2) (.slice A3 s.arcs.length a3) (.slice A4 s.chains.length a4) (.slice A5 s.cons.length a5) ((s.points.eraseIdx ip).map fun x => (x, false)) ((s.circles.map (lessR (ip : Int))).map fun x => (x, false)) (s.segs.map (lessG (ip : Int))) (s.arcs.map (lessA (ip : Int))) (s.chains.map fun x => (x, false)) (mixL (CX.less (ip : Int)) l i)))
       case atStart => exact ⟨0, rfl, by omega, by rw [mix_zero]; exact HS0.out⟩
       case round =>
        clear HS0
        obtain ⟨i, rfl, hi, HS⟩ := hrel
        obtain ⟨y0, y1, y2, y3, y4, y5⟩ := HS.out.box.1.six
        have q0 := HS.out.pt.1.2 0 _ rfl
        by_cases hlt : i < s.cons.length
        ·have i1 : (i : Int) < (s.cons.length : Int) := by omega
         have i0 : (0 : Int) ≤ (i : Int) := by omega
         have hil : i < l.length := by have := HLE.out; omega
         have hgx : l[i]? = some l[i] := List.getElem?_eq_getElem hil
         obtain ⟨r, B, bc, CA, ca, VA, va, rfl, hn, hc, hpv, c0, c1, c2, c3, c4, hrl, hBl⟩ := HS.out.con hil HAL.out
         have hvv := (HAL.out _ (List.getElem_mem hil)).2
         have hpl := HPB.out _ (List.getElem_mem hil)
         have hbd := HPN.out _ (List.getElem_mem hil)
         generalize l[i] = C at *
         have HPC := Lib.hid (And.intro hgx (And.intro hpv hvv))
         have HS2 : Hid (RS K w W wr lo hh (ip : Int) (.slice A0 (s.points.length - 1) b0) (.slice A1 s.circles.length a1) (.slice A2 s.segs.length a2) (.slice A3 s.arcs.length a3) (.slice A4 s.chains.length a4) (.slice (some ⟨r, 0, none⟩) s.cons.length a5) ((s.points.eraseIdx ip).map fun x => (x, false)) ((s.circles.map (lessR (ip : Int))).map fun x => (x, false)) (s.segs.map (lessG (ip : Int))) (s.arcs.map (lessA (ip : Int))) (s.chains.map fun x => (x, false)) ((mixL (CX.less (ip : Int)) l i).set i (C.mid (ip : Int) 0))) := by rw [RS.pstart hgx]; exact HS.out
         have HBL := Lib.hid hBl
         clear hgx hpv hvv HS hBl hn
         go_upto_region 28 with fail
         clear y0 y1 y2 y3 y4 y5 c0 c1 c2 c3 c4 q0
         obtain ⟨W0, hW0⟩ : ∃ W0, wr.alloc (.cells #[.int .i64 C.c.kind, .slice B C.c.points.length bc, .slice CA C.c.circles.length ca, .slice VA C.c.values.length va, .int .i64 C.c.side] 52) = W0 := ⟨_, rfl⟩
         have HP0 : Hid (BoxF W0 wr.heap.size [.int .i64 C.c.kind, .slice B C.c.points.length bc, .slice CA C.c.circles.length ca, .slice VA C.c.values.length va, .int .i64 C.c.side]) := by rw [← hW0]; exact BoxF.new _ _ _
         have HS3 := Lib.hid (HS2.out.move (X := W0) (by rw [← hW0]; exact Ext.alloc _ _))
         rw [hW0]
         clear hW0 HS2
         obtain ⟨g, hg⟩ : ∃ g, wr.heap.size = g := ⟨_, rfl⟩
         rw [hg] at HP0 HBL
         obtain ⟨p0, p1, p2, p3, p4⟩ := HP0.out.1.five
         try rw [hg]
         go_wp2_with fail
         clear p0 p1 p2 p3 p4
         go_loopg [100] C.c.points.length (fun gk2 x wr => ∃ k : Nat, x = .int .i64 (k : Int) ∧ k + gk2 = C.c.points.length ∧ Hid (RS K w W wr lo hh (ip : Int) (.slice A0 (s.points.length - 1) b0) (.slice A1 s.circles.length a1) (.slice A2 s.segs.length a2) (.slice A3 s.arcs.length a3) (.slice A4 s.chains.length a4) (.slice (some ⟨r, 0, none⟩) s.cons.length a5) ((s.points.eraseIdx ip).map fun x => (x, false)) ((s.circles.map (lessR (ip : Int))).map fun x => (x, false)) (s.segs.map (lessG (ip : Int))) (s.arcs.map (lessA (ip : Int))) (s.chains.map fun x => (x, false)) ((mixL (CX.less (ip : Int)) l i).set i (C.mid (ip : Int) k))) ∧ Hid (BoxF wr g [.int .i64 C.c.kind, .slice B C.c.points.length bc, .slice CA C.c.circles.length ca, .slice VA C.c.values.length va, .int .i64 C.c.side]))
         case atStart => exact ⟨0, rfl, by omega, HS3, HP0⟩
         case round =>
          clear HS3 HP0
          obtain ⟨k, rfl, hk, HS4, HP4⟩ := hrel
          obtain ⟨y0, y1, y2, y3, y4, y5⟩ := HS4.out.box.1.six
          have q0 := HS4.out.pt.1.2 0 _ rfl
          obtain ⟨p0, p1, p2, p3, p4⟩ := HP4.out.1.five
          by_cases hkl : k < C.c.points.length
          ·obtain ⟨b3, rfl, hbn, hbc, d0, e0, hput⟩ := HS4.out.pnt HPC.out.1 HPC.out.2.1 HPC.out.2.2 hkl
           have hbg : b3 < g := HBL.out b3 rfl
           have hx := hbd _ (List.getElem_mem hkl)
           have HPUT := Lib.hid hput
           clear hput HS4
           have k1 : (k : Int) < (C.c.points.length : Int) := by omega
           have k0 : (0 : Int) ≤ (k : Int) := by omega
           generalize C.c.points[k] = px at *
           go_wp2_with fail
           refine (sketch_shift d0 e0 q0 (by omega) hx).mono ?_
           rintro e w9 ⟨rfl, m, rfl⟩
           have HFIN := Lib.hid (HPUT.out m)
           have HP5 := Lib.hid ((HP4.out.ext (Ext.drewN _ m)).grown (grownBy_setCell _ ⟨b3, k, none⟩ (.int .i64 (lessI px (ip : Int)))) (by intro e; injection e with e; simp at e; omega))
           clear HPUT HP4
           go_wp2_with fail
           go_roundg (C.c.points.length - (k + 1))
           case measure => omega
           case rel => exact ⟨k + 1, by simp, by omega, HFIN, HP5⟩
          ·have HFIN : Hid (RS K w W wr lo hh (ip : Int) (.slice A0 (s.points.length - 1) b0) (.slice A1 s.circles.length a1) (.slice A2 s.segs.length a2) (.slice A3 s.arcs.length a3) (.slice A4 s.chains.length a4) (.slice (some ⟨r, 0, none⟩) s.cons.length a5) ((s.points.eraseIdx ip).map fun x => (x, false)) ((s.circles.map (lessR (ip : Int))).map fun x => (x, false)) (s.segs.map (lessG (ip : Int))) (s.arcs.map (lessA (ip : Int))) (s.chains.map fun x => (x, false)) (mixL (CX.less (ip : Int)) l (i + 1))) := by rw [← RS.pend HPC.out.1 (k := k) (by omega)]; exact HS4.out
           clear HS4
           go_wp2_with fail
           go_roundg (s.cons.length - (i + 1))
           case measure => omega
           case rel => exact ⟨i + 1, by simp, by omega, HFIN⟩
        ·have HS0 : Hid (RS K w W wr lo hh (ip : Int) (.slice A0 (s.points.length - 1) b0) (.slice A1 s.circles.length a1) (.slice A2 s.segs.length a2) (.slice A3 s.arcs.length a3) (.slice A4 s.chains.length a4) (.slice A5 s.cons.length a5) ((s.points.eraseIdx ip).map fun x => (x, false)) ((s.circles.map (lessR (ip : Int))).map fun x => (x, false)) (s.segs.map (lessG (ip : Int))) (s.arcs.map (lessA (ip : Int))) (s.chains.map fun x => (x, false)) (l.map (CX.less (ip : Int)))) := by rw [← mix_end (f := CX.less (ip : Int)) (l := l) (i := i) (by have := HLE.out; omega)]; exact HS.out
         clear HS
         obtain ⟨z0, z1, z2, z3, z4, z5⟩ := HS0.out.res.1.six
         have f0 := HS0.out.res.2 0
         have f1 := HS0.out.res.2 1
         have f2 := HS0.out.res.2 2
         have f3 := HS0.out.res.2 3
         have f4 := HS0.out.res.2 4
         have f5 := HS0.out.res.2 5
         go_wp2_with fail
         refine bodyPost_ret (v := .tuple #[.agg #[.slice A0 (s.points.length - 1) b0, .slice A1 s.circles.length a1, .slice A2 s.segs.length a2, .slice A3 s.arcs.length a3, .slice A4 s.chains.length a4, .slice A5 s.cons.length a5], .int .i64 0]) ?_ rfl ⟨_, rfl, ⟨_, _, _, _, _, _, rfl, ?_⟩, ?_⟩
         ·simp [results, Tryz.results26, go_sem, z0, z1, z2, z3, z4, z5]
         ·exact HEND.out _ HS0.out [_, _, _, _, _, _]
         ·exact Ext.sets (w.heap.size + 2) (by omega) [_, _, _, _, _, _] 0 _ HS0.out.ext
end Go.Proofs.YtonleohlplkglaaGreatDoor
