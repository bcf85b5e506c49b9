/- The state of RemovePoint of the program's sketch: a copy whose rows are shifted. -/
import Derived.Test.YtonleohlplkglaaGreatDoorWJ
import Derived.Test.YtonleohlplkglaaGreatDoorWL
import Derived.Test.YtonleohlplkglaaGreatDoorWI
namespace Go.Proofs.YtonleohlplkglaaGreatDoor
open Go Go.RowKit
/-- The first i elements are turned. -/
def mixL {α : Type} (f : α → α) (l : List α) (i : Nat) : List α := (l.take i).map f ++ l.drop i
section
variable {α : Type} {f : α → α} {l : List α} {i : Nat}
theorem mix_zero : mixL f l 0 = l := by simp [mixL]
theorem mix_end (h : l.length ≤ i) : mixL f l i = l.map f := by rw [mixL, List.take_of_length_le h, List.drop_eq_nil_of_le h, List.append_nil]
theorem mix_len : (mixL f l i).length = l.length := by rw [mixL, List.length_append, List.length_map, List.length_take, List.length_drop]; omega
theorem mix_get (h : i < l.length) : (mixL f l i)[i]? = some l[i] := by
 rw [mixL, List.getElem?_append_right (by rw [List.length_map, List.length_take]; omega), List.length_map, List.length_take, Nat.min_eq_left (by omega), Nat.sub_self, List.getElem?_drop, Nat.add_zero, List.getElem?_eq_getElem h]
theorem mix_at (h : i < l.length) : (mixL f l i)[i]'(by rw [mix_len]; exact h) = l[i] := by
 have := mix_get (f := f) h
 rw [List.getElem?_eq_getElem (by rw [mix_len]; exact h)] at this
 injection this
theorem mix_next (h : i < l.length) : (mixL f l i).set i (f l[i]) = mixL f l (i + 1) := by
 rw [mixL, mixL, List.set_append_right _ _ (by rw [List.length_map, List.length_take]; omega), List.length_map, List.length_take, Nat.min_eq_left (by omega), Nat.sub_self, List.drop_eq_getElem_cons h, List.set_cons_zero, List.take_succ_eq_append_getElem h, List.map_append, List.append_assoc]
 rfl
end
section
variable {K : Nat} {w0 : World} {lo hh : Nat} {w w' : World} {v0 v1 v2 v3 v4 v5 : Value} {lp : List (PtI × Bool)} {lr : List (RdI × Bool)} {sg : List SgI} {ar : List ArI} {lc : List (List PcI × Bool)} {l : List CX}
theorem ClS.repl0 (h : ClS K w0 lo hh w v0 v1 v2 v3 v4 v5 lp lr sg ar lc l) {r : Nat} (hg : w.grownBy w' (some r)) (hv : v0.ownBlock = some r) {v0' : Value} {lp' : List (PtI × Bool)} (hv' : ∀ b, v0'.ownBlock = some b → b = r) (hn : RowS (Sx hh l) 40 8 (Fl PtR w0) lo hh w' v0' lp') :
  ClS K w0 lo hh w' v0' v1 v2 v3 v4 v5 lp' lr sg ar lc l := by
 obtain ⟨hlo, hhi, -⟩ := h.pts.lt r hv
 have n : ∀ r', some r = some r' → ¬ Sx hh l r' := fun r' e => Sx.not (by have : r = r' := Option.some.inj e; omega)
 have d : ∀ (j : Nat) b, j ≠ 0 → [v0, v1, v2, v3, v4, v5][j]? = some b → ∀ r', some r = some r' → b.ownBlock ≠ some r' := fun j b hj hb r' e => h.dst 0 j v0 b r' (by omega) rfl hb (by rw [hv]; exact e)
 refine ⟨Nat.le_trans h.hi hg.size, hn, h.rds.far hg (d 1 _ (by decide) rfl) n, h.sgs.far hg (d 2 _ (by decide) rfl) n, h.ars.far hg (d 3 _ (by decide) rfl) n, h.chs.far hg (d 4 _ (by decide) rfl) n, h.cns.far hg (d 5 _ (by decide) rfl) n, h.prow_far hg (by omega), ?_, h.dis, h.hot⟩
 intro i j a b x hij hi hj ha
 rcases i with _ | i
 ·rcases j with _ | j
  ·omega
  ·have e : v0' = a := by injection hi
   subst e
   have := hv' x ha
   subst this
   exact h.dst 0 (j + 1) v0 b x (by omega) rfl hj hv
 ·rcases j with _ | j
  ·have e : v0' = b := by injection hj
   subst e
   intro hb
   have := hv' x hb
   subst this
   exact h.dst (i + 1) 0 a v0 x (by omega) hi rfl ha hv
  ·exact h.dst (i + 1) (j + 1) a b x hij hi hj ha
theorem ClS.repl1 (h : ClS K w0 lo hh w v0 v1 v2 v3 v4 v5 lp lr sg ar lc l) {r : Nat} (hg : w.grownBy w' (some r)) (hv : v1.ownBlock = some r) {lr' : List (RdI × Bool)} (hn : RowS (Sx hh l) 66 5 (Fl RdR w0) lo hh w' v1 lr') :
  ClS K w0 lo hh w' v0 v1 v2 v3 v4 v5 lp lr' sg ar lc l := by
 obtain ⟨hlo, hhi, -⟩ := h.rds.lt r hv
 have n : ∀ r', some r = some r' → ¬ Sx hh l r' := fun r' e => Sx.not (by have : r = r' := Option.some.inj e; omega)
 have d : ∀ (j : Nat) b, j ≠ 1 → [v0, v1, v2, v3, v4, v5][j]? = some b → ∀ r', some r = some r' → b.ownBlock ≠ some r' := fun j b hj hb r' e => h.dst 1 j v1 b r' (by omega) rfl hb (by rw [hv]; exact e)
 exact ⟨Nat.le_trans h.hi hg.size, h.pts.far hg (d 0 _ (by decide) rfl) n, hn, h.sgs.far hg (d 2 _ (by decide) rfl) n, h.ars.far hg (d 3 _ (by decide) rfl) n, h.chs.far hg (d 4 _ (by decide) rfl) n, h.cns.far hg (d 5 _ (by decide) rfl) n, h.prow_far hg (by omega), h.dst, h.dis, h.hot⟩
theorem ClS.repl2 (h : ClS K w0 lo hh w v0 v1 v2 v3 v4 v5 lp lr sg ar lc l) {r : Nat} (hg : w.grownBy w' (some r)) (hv : v2.ownBlock = some r) {sg' : List SgI} (hn : RowS (Sx hh l) 42 2 SgR lo hh w' v2 sg') :
  ClS K w0 lo hh w' v0 v1 v2 v3 v4 v5 lp lr sg' ar lc l := by
 obtain ⟨hlo, hhi, -⟩ := h.sgs.lt r hv
 have n : ∀ r', some r = some r' → ¬ Sx hh l r' := fun r' e => Sx.not (by have : r = r' := Option.some.inj e; omega)
 have d : ∀ (j : Nat) b, j ≠ 2 → [v0, v1, v2, v3, v4, v5][j]? = some b → ∀ r', some r = some r' → b.ownBlock ≠ some r' := fun j b hj hb r' e => h.dst 2 j v2 b r' (by omega) rfl hb (by rw [hv]; exact e)
 exact ⟨Nat.le_trans h.hi hg.size, h.pts.far hg (d 0 _ (by decide) rfl) n, h.rds.far hg (d 1 _ (by decide) rfl) n, hn, h.ars.far hg (d 3 _ (by decide) rfl) n, h.chs.far hg (d 4 _ (by decide) rfl) n, h.cns.far hg (d 5 _ (by decide) rfl) n, h.prow_far hg (by omega), h.dst, h.dis, h.hot⟩
theorem ClS.repl3 (h : ClS K w0 lo hh w v0 v1 v2 v3 v4 v5 lp lr sg ar lc l) {r : Nat} (hg : w.grownBy w' (some r)) (hv : v3.ownBlock = some r) {ar' : List ArI} (hn : RowS (Sx hh l) 81 4 ArR lo hh w' v3 ar') :
  ClS K w0 lo hh w' v0 v1 v2 v3 v4 v5 lp lr sg ar' lc l := by
 obtain ⟨hlo, hhi, -⟩ := h.ars.lt r hv
 have n : ∀ r', some r = some r' → ¬ Sx hh l r' := fun r' e => Sx.not (by have : r = r' := Option.some.inj e; omega)
 have d : ∀ (j : Nat) b, j ≠ 3 → [v0, v1, v2, v3, v4, v5][j]? = some b → ∀ r', some r = some r' → b.ownBlock ≠ some r' := fun j b hj hb r' e => h.dst 3 j v3 b r' (by omega) rfl hb (by rw [hv]; exact e)
 exact ⟨Nat.le_trans h.hi hg.size, h.pts.far hg (d 0 _ (by decide) rfl) n, h.rds.far hg (d 1 _ (by decide) rfl) n, h.sgs.far hg (d 2 _ (by decide) rfl) n, hn, h.chs.far hg (d 4 _ (by decide) rfl) n, h.cns.far hg (d 5 _ (by decide) rfl) n, h.prow_far hg (by omega), h.dst, h.dis, h.hot⟩
/-- A circle's centre. -/
theorem ClS.put_ce (h : ClS K w0 lo hh w v0 v1 v2 v3 v4 v5 lp lr sg ar lc l) {r n c k : Nat} (hv : v1 = .slice (some ⟨r, 0, none⟩) n c) (hk : k < lr.length) (hf : lr[k].2 = false) (x : Int) :
  ClS K w0 lo hh (w.setCells r (k * 5) [.int .i64 x]) v0 v1 v2 v3 v4 v5 lp (lr.set k (⟨x, lr[k].1.radius⟩, false)) sg ar lc l := by
 obtain ⟨hlo, hhi, -⟩ := h.rds.lt r (by rw [hv]; rfl)
 have hp := h.rds
 rw [hv] at hp
 have hp' := hp.put (j0 := 0) (us := [.int .i64 x]) (x' := (⟨x, lr[k].1.radius⟩, false)) hk (by simp) (Sx.not (by omega)) (fun ds g1 g2 ds' g3 g4 g5 => by
  intro w'' hk'
  have h1 := g2 w'' hk'
  unfold Fl at h1 ⊢
  rw [hf] at h1
  obtain ⟨u, u', e, k1, k2⟩ := h1
  have e0 := g5 0 _ rfl
  have e1 := g4 1 (by simp)
  have e2 := g4 2 (by simp)
  have e3 := g4 3 (by simp)
  have e4 := g4 4 (by simp)
  rw [e] at e1 e2 e3 e4
  refine ⟨u, u', ?_, k1, k2⟩
  match ds', g3 with
  | [x0, x1, x2, x3, x4], _ => simp at e0 e1 e2 e3 e4; rw [e0, e1, e2, e3, e4])
 rw [Nat.add_zero, ← hv] at hp'
 exact h.repl1 (grownBy_sets r _ _ w) (by rw [hv]; rfl) hp'
theorem ClS.put_sa (h : ClS K w0 lo hh w v0 v1 v2 v3 v4 v5 lp lr sg ar lc l) {r n c k : Nat} (hv : v2 = .slice (some ⟨r, 0, none⟩) n c) (hk : k < sg.length) (x : Int) :
  ClS K w0 lo hh (w.setCells r (k * 2) [.int .i64 x]) v0 v1 v2 v3 v4 v5 lp lr (sg.set k ⟨x, sg[k].b⟩) ar lc l := by
 obtain ⟨hlo, hhi, -⟩ := h.sgs.lt r (by rw [hv]; rfl)
 have hp := h.sgs
 rw [hv] at hp
 have hp' := hp.put (j0 := 0) (us := [.int .i64 x]) (x' := ⟨x, sg[k].b⟩) hk (by simp) (Sx.not (by omega)) (fun ds g1 g2 ds' g3 g4 g5 => by
  intro w'' hk'
  have e := g2 w'' hk'
  have e0 := g5 0 _ rfl
  have e1 := g4 1 (by simp)
  rw [show ds = _ from e] at e1
  match ds', g3 with
  | [x0, x1], _ => simp at e0 e1; rw [e0, e1]; rfl)
 rw [Nat.add_zero, ← hv] at hp'
 exact h.repl2 (grownBy_sets r _ _ w) (by rw [hv]; rfl) hp'
theorem ClS.put_sb (h : ClS K w0 lo hh w v0 v1 v2 v3 v4 v5 lp lr sg ar lc l) {r n c k : Nat} (hv : v2 = .slice (some ⟨r, 0, none⟩) n c) (hk : k < sg.length) (x : Int) :
  ClS K w0 lo hh (w.setCells r (k * 2 + 1) [.int .i64 x]) v0 v1 v2 v3 v4 v5 lp lr (sg.set k ⟨sg[k].a, x⟩) ar lc l := by
 obtain ⟨hlo, hhi, -⟩ := h.sgs.lt r (by rw [hv]; rfl)
 have hp := h.sgs
 rw [hv] at hp
 have hp' := hp.put (j0 := 1) (us := [.int .i64 x]) (x' := ⟨sg[k].a, x⟩) hk (by simp) (Sx.not (by omega)) (fun ds g1 g2 ds' g3 g4 g5 => by
  intro w'' hk'
  have e := g2 w'' hk'
  have e0 := g4 0 (by simp)
  have e1 := g5 0 _ rfl
  rw [show ds = _ from e] at e0
  match ds', g3 with
  | [x0, x1], _ => simp at e0 e1; rw [e0, e1]; rfl)
 rw [← hv] at hp'
 exact h.repl2 (grownBy_sets r _ _ w) (by rw [hv]; rfl) hp'
theorem ClS.put_aa (h : ClS K w0 lo hh w v0 v1 v2 v3 v4 v5 lp lr sg ar lc l) {r n c k : Nat} (hv : v3 = .slice (some ⟨r, 0, none⟩) n c) (hk : k < ar.length) (x : Int) :
  ClS K w0 lo hh (w.setCells r (k * 4 + 1) [.int .i64 x]) v0 v1 v2 v3 v4 v5 lp lr sg (ar.set k ⟨ar[k].circle, x, ar[k].b, ar[k].cw⟩) lc l := by
 obtain ⟨hlo, hhi, -⟩ := h.ars.lt r (by rw [hv]; rfl)
 have hp := h.ars
 rw [hv] at hp
 have hp' := hp.put (j0 := 1) (us := [.int .i64 x]) (x' := ⟨ar[k].circle, x, ar[k].b, ar[k].cw⟩) hk (by simp) (Sx.not (by omega)) (fun ds g1 g2 ds' g3 g4 g5 => by
  intro w'' hk'
  have e := g2 w'' hk'
  have e0 := g4 0 (by simp)
  have e1 := g5 0 _ rfl
  have e2 := g4 2 (by simp)
  have e3 := g4 3 (by simp)
  rw [show ds = _ from e] at e0 e2 e3
  match ds', g3 with
  | [x0, x1, x2, x3], _ => simp at e0 e1 e2 e3; rw [e0, e1, e2, e3]; rfl)
 rw [← hv] at hp'
 exact h.repl3 (grownBy_sets r _ _ w) (by rw [hv]; rfl) hp'
theorem ClS.put_ab (h : ClS K w0 lo hh w v0 v1 v2 v3 v4 v5 lp lr sg ar lc l) {r n c k : Nat} (hv : v3 = .slice (some ⟨r, 0, none⟩) n c) (hk : k < ar.length) (x : Int) :
  ClS K w0 lo hh (w.setCells r (k * 4 + 2) [.int .i64 x]) v0 v1 v2 v3 v4 v5 lp lr sg (ar.set k ⟨ar[k].circle, ar[k].a, x, ar[k].cw⟩) lc l := by
 obtain ⟨hlo, hhi, -⟩ := h.ars.lt r (by rw [hv]; rfl)
 have hp := h.ars
 rw [hv] at hp
 have hp' := hp.put (j0 := 2) (us := [.int .i64 x]) (x' := ⟨ar[k].circle, ar[k].a, x, ar[k].cw⟩) hk (by simp) (Sx.not (by omega)) (fun ds g1 g2 ds' g3 g4 g5 => by
  intro w'' hk'
  have e := g2 w'' hk'
  have e0 := g4 0 (by simp)
  have e1 := g4 1 (by simp)
  have e2 := g5 0 _ rfl
  have e3 := g4 3 (by simp)
  rw [show ds = _ from e] at e0 e1 e3
  match ds', g3 with
  | [x0, x1, x2, x3], _ => simp at e0 e1 e2 e3; rw [e0, e1, e2, e3]; rfl)
 rw [← hv] at hp'
 exact h.repl3 (grownBy_sets r _ _ w) (by rw [hv]; rfl) hp'
/-- A point of a constraint. -/
def CX.px (x : CX) (k : Nat) (y : Int) : CX := { x with c := { x.c with points := x.c.points.set k y } }
theorem ClS.put_px (h : ClS K w0 lo hh w v0 v1 v2 v3 v4 v5 lp lr sg ar lc l) {i k b n c : Nat} {x : CX} (hi : l[i]? = some x) (hp : x.pv = some (.slice (some ⟨b, 0, none⟩) n c)) (hv : x.vv = none) (hk : k < x.c.points.length) (y : Int) :
  ClS K w0 lo hh (w.setCells b k [.int .i64 y]) v0 v1 v2 v3 v4 v5 lp lr sg ar lc (l.set i (x.px k y)) := by
 have hil := (List.getElem?_eq_some_iff.1 hi).1
 have hrow := h.prow i x _ hi hp
 obtain ⟨hlo, hhi, hlt⟩ := hrow.lt b rfl
 have hg := grownBy_sets b [.int .i64 y] k w
 have n0 : ∀ r', some b = some r' → ¬ Sx hh l r' := fun r' e hs => by
  have e' : b = r' := Option.some.inj e
  subst e'
  exact (hs.2 x (mem_of_getElem? hi)).1 _ hp rfl
 have f : ∀ r', some b = some r' → r' < lo ∨ hh ≤ r' := fun r' e => .inr (by have : b = r' := Option.some.inj e; omega)
 have get : ∀ (j : Nat) z, (l.set i (x.px k y))[j]? = some z → (j = i ∧ z = x.px k y) ∨ (j ≠ i ∧ l[j]? = some z) := by
  intro j z hj
  by_cases hji : j = i
  ·subst hji
   rw [List.getElem?_set_self hil] at hj
   injection hj with hj
   exact .inl ⟨rfl, hj.symm⟩
  ·rw [List.getElem?_set_ne (by omega)] at hj
   exact .inr ⟨hji, hj⟩
 have get2 : ∀ (j : Nat) z, (l.set i (x.px k y))[j]? = some z → ∃ z', l[j]? = some z' ∧ z'.pv = z.pv ∧ z'.vv = z.vv := by
  intro j z hj
  rcases get j z hj with ⟨rfl, rfl⟩ | ⟨-, hj⟩
  ·exact ⟨x, hi, rfl, rfl⟩
  ·exact ⟨z, hj, rfl, rfl⟩
 have hS : ∀ (w : World) j, j < w.heap.size → Sx hh l j → Sx hh (l.set i (x.px k y)) j := by
  intro w j _ hs
  refine ⟨hs.1, fun z hz => ?_⟩
  rcases List.mem_or_eq_of_mem_set hz with h6 | h6
  ·exact hs.2 z h6
  ·subst h6
   exact hs.2 x (mem_of_getElem? hi)
 have hs1 := hrow.put (j0 := 0) (us := [.int .i64 y]) (x' := y) hk (by simp) (fun h => h) (fun ds g1 g2 ds' g3 g4 g5 => by
  intro w'' _
  have e0 := g5 0 _ rfl
  match ds', g3 with
  | [x0], _ => simp at e0; rw [e0]; rfl)
 rw [Nat.mul_one, Nat.add_zero] at hs1
 refine ⟨Nat.le_trans h.hi hg.size, (h.pts.far' hg f n0).mono (hS _), (h.rds.far' hg f n0).mono (hS _), (h.sgs.far' hg f n0).mono (hS _), (h.ars.far' hg f n0).mono (hS _), (h.chs.far' hg f n0).mono (hS _), ?_, ?_, h.dst, ?_, ?_⟩
 ·refine (h.cns.far' hg f n0).re (by rw [List.length_set]) (fun j z z' hz hz' ds hR => ?_)
  rcases get j z' hz' with ⟨rfl, rfl⟩ | ⟨-, hz'⟩
  ·rw [hi] at hz
   injection hz with hz
   subst hz
   refine (hR.mono (hS _)).imp (fun w'' _ hh => ?_)
   obtain ⟨pv, cv, vv, e, g⟩ := hh
   refine ⟨pv, cv, vv, e, ?_⟩
   rw [hp, hv] at g
   show match (x.px k y).pv with | none => _ | some p => _
   rw [show (x.px k y).pv = x.pv from rfl, show (x.px k y).vv = x.vv from rfl, hp, hv]
   exact g
  ·rw [hz] at hz'
   injection hz' with hz'
   subst hz'
   exact hR.mono (hS _)
 ·intro j z p hj hpz
  rcases get j z hj with ⟨rfl, rfl⟩ | ⟨hji, hj⟩
  ·have e : p = .slice (some ⟨b, 0, none⟩) n c := by
    have : x.pv = some p := hpz
    rw [hp] at this
    injection this with this
    exact this.symm
   subst e
   have := hs1.bounds (Nat.le_refl _) hg.size
   exact this
  ·exact ((h.prow j z p hj hpz).far hg (fun r' e hb => by
    have e' : b = r' := Option.some.inj e
    subst e'
    exact h.dis j i z x p _ b hji hj hi hpz hp hb rfl) (fun _ _ h => h)).bounds (Nat.le_refl _) hg.size
 ·intro a b' z z' p q r hab ha hb hp' hq hr
  obtain ⟨y1, g1, g2, -⟩ := get2 a z ha
  obtain ⟨y2, k1, k2, -⟩ := get2 b' z' hb
  exact h.dis a b' y1 y2 p q r hab g1 k1 (g2.trans hp') (k2.trans hq) hr
 ·intro a b' z z' p q r ha hb hp' hq hr
  obtain ⟨y1, g1, g2, -⟩ := get2 a z ha
  obtain ⟨y2, k1, -, k3⟩ := get2 b' z' hb
  exact h.hot a b' y1 y2 p q r g1 k1 (g2.trans hp') (k3.trans hq) hr
end
end Go.Proofs.YtonleohlplkglaaGreatDoor
namespace Go.Proofs.YtonleohlplkglaaGreatDoor
open Go Go.RowKit
/-- All blocks but two boxes and a row. -/
def Ex (g : Nat) (v : Value) (k : Nat) : Prop := (k ≠ g ∧ k + 1 ≠ g) ∧ v.ownBlock ≠ some k
section
variable {α : Type} {T sz lo hi g : Nat} {R : World → List Value → α → Prop} {w w' : World} {v v' : Value} {l l' : List α}
/-- Ahead of an append: a row as the law on append wants it. -/
theorem RowS.rowOf (h : RowS (Ex g v) T sz R lo hi w v l) : RowOf T sz (fun w1 ds x => On (fun k => Ex g v k ∧ k ≠ w.heap.size) (fun w => R w ds x) w1) lo w v l := by
 obtain ⟨xs, ho, -, hel⟩ := h
 refine ⟨xs, ho, fun k x hk => ?_⟩
 obtain ⟨ds, h1, h2, h3⟩ := hel k x hk
 refine ⟨ds, h1, h2, fun w1 hg => ?_⟩
 exact (h3.mono (S' := fun k => Ex g v k ∧ k ≠ w.heap.size) (fun k hk hs => ⟨hs, by omega⟩)).keep (grownBy.keep hg (fun r hr hs => hs.1.2 hr))
/-- Behind it. -/
theorem RowS.of_app (h : RowOf T sz (fun w1 ds x => On (fun k => Ex g v k ∧ k ≠ w.heap.size) (fun w => R w ds x) w1) lo w' v' l') (hat : v'.ownBlock = v.ownBlock ∨ v'.ownBlock = some w.heap.size) : RowS (Ex g v') T sz R lo w'.heap.size w' v' l' := by
 have hlt := h.lt
 obtain ⟨xs, ho, hel⟩ := h
 refine ⟨xs, ho, fun r hr => (hlt r hr).2, fun k x hk => ?_⟩
 obtain ⟨ds, h1, h2, h3⟩ := hel k x hk
 refine ⟨ds, h1, h2, h3.out.mono (fun k _ hs => ⟨hs.1.1, fun e => ?_⟩)⟩
 rcases hat with h4 | h4
 ·exact hs.1.2 (by rw [← h4, e])
 ·rw [h4] at e
  exact hs.2 (Option.some.inj e).symm
/-- A slice of one element, just made. -/
theorem one_src {S : Nat → Prop} {row : Option Nat} {b c : Nat} {ds : List Value} {x : α} (hc : CellsAt w b ds) (hl : ds.length = sz) (hc1 : 1 ≤ c) (ho : On S (fun w => R w ds x) w) (hr : ∀ r, row = some r → ¬ S r) : ArrAt sz (Off row (fun w1 ds x => On S (fun w => R w ds x) w1)) w (.slice (some ⟨b, 0, none⟩) 1 c) [x] := by
 refine ⟨some ⟨b, 0, none⟩, c, rfl, hc1, by simp, fun _ => ⟨b, 0, rfl, hc.1, fun k y hk => ?_⟩⟩
 rcases k with _ | k
 ·simp at hk
  subst hk
  exact ⟨ds, hl, fun j u hj => by rw [Nat.zero_mul, Nat.zero_add, Nat.zero_add]; exact hc.2 j u hj, fun w1 hg => ho.keep (grownBy.keep hg hr)⟩
 ·simp at hk
theorem RowS.box (h : RowS (Ex g v) T sz R lo hi w v l) (hg : g < lo) (u : Value) (i : Nat) : RowS (Ex g v) T sz R lo hi (w.setCell ⟨g, i, none⟩ u) v l :=
 h.far (row := some g) (grownBy_setCell _ _ _) (fun r e hb => by have e' : g = r := Option.some.inj e; have := (h.lt r hb).1; omega) (fun r e hs => hs.1.1 (Option.some.inj e).symm)
theorem RowS.nil {S : Nat → Prop} : RowS S T sz R lo hi w (.slice none 0 0) ([] : List α) := ⟨[], World.ownsRow_nil _ _ _ _, (fun r hr => by cases hr), fun k x h => by simp at h⟩
end
end Go.Proofs.YtonleohlplkglaaGreatDoor
namespace Go.Proofs.YtonleohlplkglaaGreatDoor
open Go Go.RowKit
/-- Numbers of points that are not too great. -/
structure Bnd (s : SkI) : Prop where
 rd : ∀ c ∈ s.circles, c.center ≤ 1000000
 sg : ∀ c ∈ s.segs, c.a ≤ 1000000 ∧ c.b ≤ 1000000
 ar : ∀ c ∈ s.arcs, c.a ≤ 1000000 ∧ c.b ≤ 1000000
 cn : ∀ c ∈ s.cons, ∀ x ∈ c.points, x ≤ 1000000
structure WS (K : Nat) (w W wr : World) (g : Nat) (o0 o1 o2 o3 v4 o5 : Value) (m0 m1 m2 m3 m4 : Nat) (l0 : List PtI) (l1 : List RdI) (l2 : List SgI) (l3 : List ArI) (l5 : List CI) : Prop where
 box : BoxF wr g [o0, o1, o2, o3, v4, o5]
 keep : Keep (fun k => k ≠ g) W wr
 big : W.heap.size ≤ m0 ∧ m0 ≤ m1 ∧ m1 ≤ m2 ∧ m2 ≤ m3 ∧ m3 ≤ m4 ∧ m4 ≤ wr.heap.size
 r0 : RowS No 40 8 (fun _ => PtR w) m0 m1 wr o0 l0
 r1 : RowS No 66 5 (fun _ => RdR w) m1 m2 wr o1 l1
 r2 : RowS No 42 2 (fun _ => SgR w) m2 m3 wr o2 l2
 r3 : RowS No 81 4 (fun _ => ArR w) m3 m4 wr o3 l3
 r5 : RowS (Ex g o5) 52 5 (ConR K) m4 wr.heap.size wr o5 l5
section
variable {α : Type} {T sz lo hi g : Nat} {R0 : List Value → α → Prop} {w w' : World} {v v' : Value} {l l' : List α}
theorem RowS.rowC (h : RowS No T sz (fun _ => R0) lo hi w v l) : RowOf T sz (fun _ => R0) lo w v l := by
 obtain ⟨xs, ho, -, hel⟩ := h
 refine ⟨xs, ho, fun k x hk => ?_⟩
 obtain ⟨ds, h1, h2, h3⟩ := hel k x hk
 exact ⟨ds, h1, h2, fun _ _ => h3.out⟩
theorem RowS.boxN {S : Nat → Prop} {R : World → List Value → α → Prop} (h : RowS S T sz R lo hi w v l) (hg : g < lo) (hS : ¬ S g) (u : Value) (i : Nat) : RowS S T sz R lo hi (w.setCell ⟨g, i, none⟩ u) v l :=
 h.far (row := some g) (grownBy_setCell _ _ _) (fun r e hb => by have e' : g = r := Option.some.inj e; have := (h.lt r hb).1; omega) (fun r e hs => by have e' : g = r := Option.some.inj e; rw [e'] at hS; exact hS hs)
theorem keep_grown {a w w' : World} {row : Option Nat} (h : Keep (fun k => k ≠ g) a w) (hg : w.grownBy w' row) (hr : ∀ r, row = some r → a.heap.size ≤ r) : Keep (fun k => k ≠ g) a w' :=
 ⟨hg.os.trans h.os, hg.tape.trans h.tape, hg.output.trans h.output, Nat.le_trans h.size hg.size, fun k hk hs => (hg.block k (Nat.lt_of_lt_of_le hk h.size) (fun e => by have := hr k e.symm; omega)).trans (h.block k hk hs)⟩
end
theorem Ext.of_keep {w W wr : World} {g : Nat} (hE : Ext w W) (hk : Keep (fun k => k ≠ g) W wr) (hg : w.heap.size ≤ g) : Ext w wr :=
 ⟨hk.os.trans hE.os, hk.tape.trans hE.tape, hk.output.trans hE.output, Nat.le_trans hE.size hk.size, fun k hlt => (hk.block k (Nat.lt_of_lt_of_le hlt hE.size) (by omega)).trans (hE.block k hlt)⟩
section
variable {K : Nat} {w W wr X w' : World} {g : Nat} {o0 o1 o2 o3 v4 o5 v' : Value} {m0 m1 m2 m3 m4 : Nat} {l0 : List PtI} {l1 : List RdI} {l2 : List SgI} {l3 : List ArI} {l5 : List CI}
theorem WS.move (h : WS K w W wr g o0 o1 o2 o3 v4 o5 m0 m1 m2 m3 m4 l0 l1 l2 l3 l5) (hx : Ext wr X) : WS K w W X g o0 o1 o2 o3 v4 o5 m0 m1 m2 m3 m4 l0 l1 l2 l3 l5 :=
 ⟨h.box.ext hx, h.keep.pext hx, ⟨h.big.1, h.big.2.1, h.big.2.2.1, h.big.2.2.2.1, h.big.2.2.2.2.1, Nat.le_trans h.big.2.2.2.2.2 hx.size⟩, h.r0.ext hx, h.r1.ext hx, h.r2.ext hx, h.r3.ext hx, (h.r5.ext hx).bounds (Nat.le_refl _) hx.size⟩
theorem WS.app0 {o1 o2 o3 o5 : Value} (h : WS K w W X g o0 o1 o2 o3 v4 o5 m0 m1 m2 m3 m4 l0 [] [] [] []) (hgw : g < W.heap.size) (h1 : o1.ownBlock = none) (h2 : o2.ownBlock = none) (h3 : o3.ownBlock = none) (h5 : o5.ownBlock = none) {l' : List PtI}
  (hr : RowOf 40 8 (fun _ => PtR w) m0 w' v' l') (hg : X.grownBy w' o0.ownBlock) :
  WS K w W (w'.setCell ⟨g, 0, none⟩ v') g v' o1 o2 o3 v4 o5 m0 w'.heap.size w'.heap.size w'.heap.size w'.heap.size l' [] [] [] [] := by
 obtain ⟨b0, b1, b2, b3, b4, b5⟩ := h.big
 have hlt := h.r0.lt
 have hne : o0.ownBlock ≠ some g := fun e => by have := (hlt g e).1; omega
 have hs : (w'.setCell ⟨g, 0, none⟩ v').heap.size = w'.heap.size := by simp [World.setCell]
 have nil : ∀ {β : Type} {S : Nat → Prop} {T sz lo hi : Nat} {R : World → List Value → β → Prop} {v : Value} (lo' hi' : Nat), v.ownBlock = none → RowS S T sz R lo hi X v ([] : List β) → RowS S T sz R lo' hi' (w'.setCell ⟨g, 0, none⟩ v') v ([] : List β) := by
  intro β S T sz lo hi R v lo' hi' hv hh
  obtain ⟨xs, ho, -, -⟩ := hh
  refine ⟨xs, ⟨ho.1, ?_⟩, (fun r hr => by rw [hv] at hr; cases hr), fun k x hk => by simp at hk⟩
  rcases ho.2 with h6 | ⟨g', cap, cur, h6, -⟩
  ·exact .inl h6
  ·rw [h6] at hv; cases hv
 have hn : RowS No 40 8 (fun _ => PtR w) m0 w'.heap.size w' v' l' := RowS.of_const hr (fun _ _ _ h => h) (Nat.le_refl _)
 exact ⟨(h.box.grown hg (fun e => hne e)).set_ v', (keep_grown h.keep hg (fun r e => by have := (hlt r e).1; omega)).pset _ _ (fun _ hh => hh rfl), ⟨b0, by have := hg.size; omega, Nat.le_refl _, Nat.le_refl _, Nat.le_refl _, by rw [hs]; exact Nat.le_refl _⟩, hn.boxN (by omega) (fun h => h) _ _, nil _ _ h1 h.r1, nil _ _ h2 h.r2, nil _ _ h3 h.r3, nil _ _ h5 h.r5⟩
theorem WS.app1 {o2 o3 o5 : Value} (h : WS K w W X g o0 o1 o2 o3 v4 o5 m0 m1 m2 m3 m4 l0 l1 [] [] []) (hgw : g < W.heap.size) (h2 : o2.ownBlock = none) (h3 : o3.ownBlock = none) (h5 : o5.ownBlock = none) {l' : List RdI}
  (hr : RowOf 66 5 (fun _ => RdR w) m1 w' v' l') (hg : X.grownBy w' o1.ownBlock) :
  WS K w W (w'.setCell ⟨g, 1, none⟩ v') g o0 v' o2 o3 v4 o5 m0 m1 w'.heap.size w'.heap.size w'.heap.size l0 l' [] [] [] := by
 obtain ⟨b0, b1, b2, b3, b4, b5⟩ := h.big
 have hlt := h.r1.lt
 have hne : o1.ownBlock ≠ some g := fun e => by have := (hlt g e).1; omega
 have hs : (w'.setCell ⟨g, 1, none⟩ v').heap.size = w'.heap.size := by simp [World.setCell]
 have f : ∀ {lo hi : Nat}, hi ≤ m1 → ∀ r', o1.ownBlock = some r' → r' < lo ∨ hi ≤ r' := fun hl r' e => .inr (by have := (hlt r' e).1; omega)
 have nn : ∀ r', o1.ownBlock = some r' → ¬ No r' := fun _ _ h => h
 have nil : ∀ {β : Type} {S : Nat → Prop} {T sz lo hi : Nat} {R : World → List Value → β → Prop} {v : Value} (lo' hi' : Nat), v.ownBlock = none → RowS S T sz R lo hi X v ([] : List β) → RowS S T sz R lo' hi' (w'.setCell ⟨g, 1, none⟩ v') v ([] : List β) := by
  intro β S T sz lo hi R v lo' hi' hv hh
  obtain ⟨xs, ho, -, -⟩ := hh
  refine ⟨xs, ⟨ho.1, ?_⟩, (fun r hr => by rw [hv] at hr; cases hr), fun k x hk => by simp at hk⟩
  rcases ho.2 with h6 | ⟨g', cap, cur, h6, -⟩
  ·exact .inl h6
  ·rw [h6] at hv; cases hv
 have hn : RowS No 66 5 (fun _ => RdR w) m1 w'.heap.size w' v' l' := RowS.of_const hr (fun _ _ _ h => h) (Nat.le_refl _)
 exact ⟨(h.box.grown hg (fun e => hne e)).set_ v', (keep_grown h.keep hg (fun r e => by have := (hlt r e).1; omega)).pset _ _ (fun _ hh => hh rfl), ⟨b0, b1, by have := hg.size; omega, Nat.le_refl _, Nat.le_refl _, by rw [hs]; exact Nat.le_refl _⟩, (h.r0.far' hg (f (Nat.le_refl _)) nn).boxN (by omega) (fun h => h) _ _, hn.boxN (by omega) (fun h => h) _ _, nil _ _ h2 h.r2, nil _ _ h3 h.r3, nil _ _ h5 h.r5⟩
theorem WS.app2 {o3 o5 : Value} (h : WS K w W X g o0 o1 o2 o3 v4 o5 m0 m1 m2 m3 m4 l0 l1 l2 [] []) (hgw : g < W.heap.size) (h3 : o3.ownBlock = none) (h5 : o5.ownBlock = none) {l' : List SgI}
  (hr : RowOf 42 2 (fun _ => SgR w) m2 w' v' l') (hg : X.grownBy w' o2.ownBlock) :
  WS K w W (w'.setCell ⟨g, 2, none⟩ v') g o0 o1 v' o3 v4 o5 m0 m1 m2 w'.heap.size w'.heap.size l0 l1 l' [] [] := by
 obtain ⟨b0, b1, b2, b3, b4, b5⟩ := h.big
 have hlt := h.r2.lt
 have hne : o2.ownBlock ≠ some g := fun e => by have := (hlt g e).1; omega
 have hs : (w'.setCell ⟨g, 2, none⟩ v').heap.size = w'.heap.size := by simp [World.setCell]
 have f : ∀ {lo hi : Nat}, hi ≤ m2 → ∀ r', o2.ownBlock = some r' → r' < lo ∨ hi ≤ r' := fun hl r' e => .inr (by have := (hlt r' e).1; omega)
 have nn : ∀ r', o2.ownBlock = some r' → ¬ No r' := fun _ _ h => h
 have nil : ∀ {β : Type} {S : Nat → Prop} {T sz lo hi : Nat} {R : World → List Value → β → Prop} {v : Value} (lo' hi' : Nat), v.ownBlock = none → RowS S T sz R lo hi X v ([] : List β) → RowS S T sz R lo' hi' (w'.setCell ⟨g, 2, none⟩ v') v ([] : List β) := by
  intro β S T sz lo hi R v lo' hi' hv hh
  obtain ⟨xs, ho, -, -⟩ := hh
  refine ⟨xs, ⟨ho.1, ?_⟩, (fun r hr => by rw [hv] at hr; cases hr), fun k x hk => by simp at hk⟩
  rcases ho.2 with h6 | ⟨g', cap, cur, h6, -⟩
  ·exact .inl h6
  ·rw [h6] at hv; cases hv
 have hn : RowS No 42 2 (fun _ => SgR w) m2 w'.heap.size w' v' l' := RowS.of_const hr (fun _ _ _ h => h) (Nat.le_refl _)
 exact ⟨(h.box.grown hg (fun e => hne e)).set_ v', (keep_grown h.keep hg (fun r e => by have := (hlt r e).1; omega)).pset _ _ (fun _ hh => hh rfl), ⟨b0, b1, b2, by have := hg.size; omega, Nat.le_refl _, by rw [hs]; exact Nat.le_refl _⟩, (h.r0.far' hg (f (by omega)) nn).boxN (by omega) (fun h => h) _ _, (h.r1.far' hg (f (Nat.le_refl _)) nn).boxN (by omega) (fun h => h) _ _, hn.boxN (by omega) (fun h => h) _ _, nil _ _ h3 h.r3, nil _ _ h5 h.r5⟩
theorem WS.app3 {o5 : Value} (h : WS K w W X g o0 o1 o2 o3 v4 o5 m0 m1 m2 m3 m4 l0 l1 l2 l3 []) (hgw : g < W.heap.size) (h5 : o5.ownBlock = none) {l' : List ArI}
  (hr : RowOf 81 4 (fun _ => ArR w) m3 w' v' l') (hg : X.grownBy w' o3.ownBlock) :
  WS K w W (w'.setCell ⟨g, 3, none⟩ v') g o0 o1 o2 v' v4 o5 m0 m1 m2 m3 w'.heap.size l0 l1 l2 l' [] := by
 obtain ⟨b0, b1, b2, b3, b4, b5⟩ := h.big
 have hlt := h.r3.lt
 have hne : o3.ownBlock ≠ some g := fun e => by have := (hlt g e).1; omega
 have hs : (w'.setCell ⟨g, 3, none⟩ v').heap.size = w'.heap.size := by simp [World.setCell]
 have f : ∀ {lo hi : Nat}, hi ≤ m3 → ∀ r', o3.ownBlock = some r' → r' < lo ∨ hi ≤ r' := fun hl r' e => .inr (by have := (hlt r' e).1; omega)
 have nn : ∀ r', o3.ownBlock = some r' → ¬ No r' := fun _ _ h => h
 have nil : ∀ {β : Type} {S : Nat → Prop} {T sz lo hi : Nat} {R : World → List Value → β → Prop} {v : Value} (lo' hi' : Nat), v.ownBlock = none → RowS S T sz R lo hi X v ([] : List β) → RowS S T sz R lo' hi' (w'.setCell ⟨g, 3, none⟩ v') v ([] : List β) := by
  intro β S T sz lo hi R v lo' hi' hv hh
  obtain ⟨xs, ho, -, -⟩ := hh
  refine ⟨xs, ⟨ho.1, ?_⟩, (fun r hr => by rw [hv] at hr; cases hr), fun k x hk => by simp at hk⟩
  rcases ho.2 with h6 | ⟨g', cap, cur, h6, -⟩
  ·exact .inl h6
  ·rw [h6] at hv; cases hv
 have hn : RowS No 81 4 (fun _ => ArR w) m3 w'.heap.size w' v' l' := RowS.of_const hr (fun _ _ _ h => h) (Nat.le_refl _)
 exact ⟨(h.box.grown hg (fun e => hne e)).set_ v', (keep_grown h.keep hg (fun r e => by have := (hlt r e).1; omega)).pset _ _ (fun _ hh => hh rfl), ⟨b0, b1, b2, b3, by have := hg.size; omega, by rw [hs]; exact Nat.le_refl _⟩, (h.r0.far' hg (f (by omega)) nn).boxN (by omega) (fun h => h) _ _, (h.r1.far' hg (f (by omega)) nn).boxN (by omega) (fun h => h) _ _, (h.r2.far' hg (f (Nat.le_refl _)) nn).boxN (by omega) (fun h => h) _ _, hn.boxN (by omega) (fun h => h) _ _, nil _ _ h5 h.r5⟩
theorem WS.app5 (h : WS K w W X g o0 o1 o2 o3 v4 o5 m0 m1 m2 m3 m4 l0 l1 l2 l3 l5) (hgw : g < W.heap.size) {l' : List CI}
  (hr : RowS (Ex g v') 52 5 (ConR K) m4 w'.heap.size w' v' l') (hg : X.grownBy w' o5.ownBlock) :
  WS K w W (w'.setCell ⟨g, 5, none⟩ v') g o0 o1 o2 o3 v4 v' m0 m1 m2 m3 m4 l0 l1 l2 l3 l' := by
 obtain ⟨b0, b1, b2, b3, b4, b5⟩ := h.big
 have hlt := h.r5.lt
 have hne : o5.ownBlock ≠ some g := fun e => by have := (hlt g e).1; omega
 have hs : (w'.setCell ⟨g, 5, none⟩ v').heap.size = w'.heap.size := by simp [World.setCell]
 have f : ∀ {lo hi : Nat}, hi ≤ m4 → ∀ r', o5.ownBlock = some r' → r' < lo ∨ hi ≤ r' := fun hl r' e => .inr (by have := (hlt r' e).1; omega)
 have nn : ∀ r', o5.ownBlock = some r' → ¬ No r' := fun _ _ h => h
 exact ⟨(h.box.grown hg (fun e => hne e)).set_ v', (keep_grown h.keep hg (fun r e => by have := (hlt r e).1; omega)).pset _ _ (fun _ hh => hh rfl), ⟨b0, b1, b2, b3, b4, by rw [hs]; have := hg.size; omega⟩, (h.r0.far' hg (f (by omega)) nn).boxN (by omega) (fun h => h) _ _, (h.r1.far' hg (f (by omega)) nn).boxN (by omega) (fun h => h) _ _, (h.r2.far' hg (f (by omega)) nn).boxN (by omega) (fun h => h) _ _, (h.r3.far' hg (f (Nat.le_refl _)) nn).boxN (by omega) (fun h => h) _ _, by rw [hs]; exact hr.box (by omega) _ _⟩
theorem arr_const {α : Type} {sz : Nat} {R : World → List Value → α → Prop} (hR : Stable R) {w0 w1 : World} {v : Value} {xs : List α} (h : ArrAt sz (fun _ => R w0) w1 v xs) (hx : Ext w0 w1) : ArrAt sz R w1 v xs := h.mono (fun cs x _ hr => hR _ _ cs x hx hr)
theorem WS.fin {s : SkI} {p : Int} (h : WS K w W wr (w.heap.size + 2) o0 o1 o2 o3 v4 o5 m0 m1 m2 m3 m4 (ptsW s.points p) (s.circles.map (lessR p)) (s.segs.map (lessG p)) (s.arcs.map (lessA p)) (s.cons.map (lessC p))) (hE : Ext w wr) (hz : W.heap.size = w.heap.size + 3) (hch : ArrAt 1 ChR w v4 s.chains)
  (b0 : (ptsW s.points p).length ≤ 1000) (b1 : s.circles.length ≤ 1000) (b2 : s.segs.length ≤ 1000) (b3 : s.arcs.length ≤ 1000) (b5 : s.cons.length ≤ 1000) (us : List Value) : SkAt K (wr.setCells (w.heap.size + 1) 0 us) o0 o1 o2 o3 v4 o5 (withoutL s p) := by
 obtain ⟨c0, c1, c2, c3, c4, c5⟩ := h.big
 have hg := grownBy_sets (w.heap.size + 1) us 0 wr
 have hE9 : Ext w (wr.setCells (w.heap.size + 1) 0 us) := Ext.sets _ (by omega) _ _ _ hE
 have f : ∀ {lo hi : Nat}, W.heap.size ≤ lo → ∀ r', some (w.heap.size + 1) = some r' → r' < lo ∨ hi ≤ r' := fun hl r' e => .inl (by have : w.heap.size + 1 = r' := Option.some.inj e; omega)
 have nn : ∀ r', some (w.heap.size + 1) = some r' → ¬ No r' := fun _ _ h => h
 refine ⟨arr_const PtR.stable ((h.r0.far' hg (f c0) nn).data b0) hE9, arr_const RdR.stable ((h.r1.far' hg (f (by omega)) nn).data (by rw [List.length_map]; exact b1)) hE9, arr_const SgR.stable ((h.r2.far' hg (f (by omega)) nn).data (by rw [List.length_map]; exact b2)) hE9, arr_const ArR.stable ((h.r3.far' hg (f (by omega)) nn).data (by rw [List.length_map]; exact b3)) hE9, hch.ext ChR.stable hE9, ?_⟩
 exact (h.r5.far' hg (f (by omega)) (fun r' e hs => hs.1.2 (by have : w.heap.size + 1 = r' := Option.some.inj e; omega))).data (by rw [List.length_map]; exact b5)
end
end Go.Proofs.YtonleohlplkglaaGreatDoor
