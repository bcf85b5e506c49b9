/- clone of the program's sketch: its states. -/
import Derived.Test.YtonleohlplkglaaGreatDoorWK
import Derived.Test.YtonleohlplkglaaGreatDoorWI
import Derived.Deep.RegionLaw
namespace Go.Proofs.YtonleohlplkglaaGreatDoor
open Go Go.RowKit
/-- What is asked of a sketch that is copied. -/
structure CloneOK (K : Nat) (s : SkI) : Prop where
 small : SmallS K s
 l0 : s.points.length ≤ 1000
 l1 : s.circles.length ≤ 1000
 l2 : s.segs.length ≤ 1000
 l3 : s.arcs.length ≤ 1000
 l4 : s.chains.length ≤ 1000
 l5 : s.cons.length ≤ 1000
 chs : ∀ c ∈ s.chains, c.length ≤ 1000
 cns : ∀ c ∈ s.cons, c.points.length ≤ 1000 ∧ c.circles.length ≤ 1000 ∧ c.values.length ≤ 1000
abbrev No : Nat → Prop := fun _ => False
abbrev zero6 : List Value := [.slice none 0 0, .slice none 0 0, .slice none 0 0, .slice none 0 0, .slice none 0 0, .slice none 0 0]
def Apart (u v : Value) : Prop := ∀ a, u.ownBlock = some a → v.ownBlock ≠ some a
theorem Apart.symm {u v : Value} (h : Apart u v) : Apart v u := fun a h1 h2 => h a h2 h1
theorem apart_row {α β : Type} {S S' : Nat → Prop} {T T' sz sz' lo hi lo' hi' : Nat} {R : World → List Value → α → Prop} {R' : World → List Value → β → Prop} {w w' : World} {v v' : Value} {l : List α} {l' : List β} (h : RowS S T sz R lo hi w v l) (h' : RowS S' T' sz' R' lo' hi' w' v' l') (hl : hi ≤ lo') : Apart v v' := fun a h1 h2 => by
 have := h.lt a h1
 have := h'.lt a h2
 omega
/-- Behind the first four clones. -/
structure St1 (K : Nat) (w wx : World) (s : SkI) (v0 v1 v2 v3 v4 v5 : Value) (lo : Nat) : Prop where
 box : BoxF wx w.heap.size [v0, v1, v2, v3, v4, v5]
 res : BoxF wx (w.heap.size + 1) zero6
 ext : Ext w wx
 low : w.heap.size + 2 ≤ lo
 loh : lo ≤ wx.heap.size
 r0 : RowS No 40 8 (fun _ => PtR w) lo wx.heap.size wx v0 s.points
 r1 : RowS No 66 5 (fun _ => RdR w) lo wx.heap.size wx v1 s.circles
 r2 : RowS No 42 2 (fun _ => SgR w) lo wx.heap.size wx v2 s.segs
 r3 : RowS No 81 4 (fun _ => ArR w) lo wx.heap.size wx v3 s.arcs
 ap : Apart v0 v1 ∧ Apart v0 v2 ∧ Apart v0 v3 ∧ Apart v1 v2 ∧ Apart v1 v3 ∧ Apart v2 v3
theorem RowS.offbox {α : Type} {T sz lo hi : Nat} {R : World → List Value → α → Prop} {w w' : World} {v : Value} {l : List α} {g : Nat} (h : RowS No T sz R lo hi w v l) (hg : w.grownBy w' (some g)) (hl : g < lo) : RowS No T sz R lo hi w' v l :=
 h.far' hg (fun r' e => .inl (by have : g = r' := Option.some.inj e; omega)) (fun _ _ h => h)
theorem st1_mk {K : Nat} {w W w5 : World} {s : SkI} {u0 u1 u2 u3 v0 v1 v2 v3 v4 v5 : Value} (hB : BoxF W w.heap.size [u0, u1, u2, u3, v4, v5]) (hR : BoxF W (w.heap.size + 1) zero6) (hE : Ext w W) (hz : w.heap.size + 2 ≤ W.heap.size) (hx : Ext W w5)
  (h0 : RowS No 40 8 (fun _ => PtR w) W.heap.size w5.heap.size w5 v0 s.points)
  (h1 : RowS No 66 5 (fun _ => RdR w) W.heap.size w5.heap.size w5 v1 s.circles)
  (h2 : RowS No 42 2 (fun _ => SgR w) W.heap.size w5.heap.size w5 v2 s.segs)
  (h3 : RowS No 81 4 (fun _ => ArR w) W.heap.size w5.heap.size w5 v3 s.arcs)
  (ap : Apart v0 v1 ∧ Apart v0 v2 ∧ Apart v0 v3 ∧ Apart v1 v2 ∧ Apart v1 v3 ∧ Apart v2 v3) :
  St1 K w (w5.setCells w.heap.size 0 [v0, v1, v2, v3]) s v0 v1 v2 v3 v4 v5 W.heap.size := by
 have hg := grownBy_sets w.heap.size [v0, v1, v2, v3] 0 w5
 have hs := hg.size
 refine ⟨BoxF.sets _ 0 w5 _ (hB.ext hx) (by simp), (hR.ext hx).grown hg (by simp), Ext.sets _ (Nat.le_refl _) _ _ _ (hE.trans hx), hz, Nat.le_trans hx.size hs, ?_, ?_, ?_, ?_, ap⟩
 ·exact (h0.offbox hg (by omega)).bounds (Nat.le_refl _) hs
 ·exact (h1.offbox hg (by omega)).bounds (Nat.le_refl _) hs
 ·exact (h2.offbox hg (by omega)).bounds (Nat.le_refl _) hs
 ·exact (h3.offbox hg (by omega)).bounds (Nat.le_refl _) hs
/-- The state in the loops. -/
structure CLS (K : Nat) (w wr : World) (s : SkI) (lo hh : Nat) (v0 v1 v2 v3 v4 v5 : Value) (lp : List (PtI × Bool)) (lr : List (RdI × Bool)) (lc : List (List PcI × Bool)) (l : List CX) : Prop where
 box : BoxF wr w.heap.size [v0, v1, v2, v3, v4, v5]
 res : BoxF wr (w.heap.size + 1) zero6
 ext : Ext w wr
 low : w.heap.size + 2 ≤ lo
 lhh : lo ≤ hh
 cls : ClS K w lo hh wr v0 v1 v2 v3 v4 v5 lp lr s.segs s.arcs lc l
 tp : lp.map (·.1) = s.points
 tr : lr.map (·.1) = s.circles
 tc : lc.map (·.1) = s.chains
 tl : l.map (·.c) = s.cons
theorem On.no_const {S : Nat → Prop} {p : Prop} {w : World} (h : On No (fun _ => p) w) : On S (fun _ => p) w := fun _ _ => h.out
theorem RowS.start {α : Type} {S : Nat → Prop} {T sz lo hi : Nat} {R : World → List Value → α → Prop} {w0 w : World} {v : Value} {l : List α} (h : RowS No T sz (fun _ => R w0) lo hi w v l) : RowS S T sz (Fl R w0) lo hi w v (l.map fun x => (x, true)) := by
 have h1 : RowS S T sz (fun _ => R w0) lo hi w v l := h.re rfl (fun k x x' hx hx' ds hR => by
  rw [hx] at hx'
  injection hx' with hx'
  subst hx'
  exact hR.no_const)
 exact h1.imp (fun _ _ _ h => h)
theorem st2_mk {K : Nat} {w W w3 : World} {s : SkI} {u4 u5 v0 v1 v2 v3 v4 v5 : Value} {lo : Nat} (h : St1 K w W s v0 v1 v2 v3 u4 u5 lo) (hx : Ext W w3)
  (h4 : RowS No 43 1 (fun _ => ChR w) W.heap.size w3.heap.size w3 v4 s.chains)
  (h5 : RowS No 52 5 (fun _ => ConR K w) W.heap.size w3.heap.size w3 v5 s.cons) (ap : Apart v4 v5) :
  CLS K w (w3.setCells w.heap.size 4 [v4, v5]) s lo w3.heap.size v0 v1 v2 v3 v4 v5 (s.points.map fun x => (x, true)) (s.circles.map fun x => (x, true)) (s.chains.map fun x => (x, true)) (s.cons.map fun c => ⟨c, none, none⟩) := by
 have hg := grownBy_sets w.heap.size [v4, v5] 4 w3
 have hs := hx.size
 have k0 := h.low
 have k1 := h.loh
 have hnone : ∀ (i : Nat) (x : CX), (s.cons.map fun c => (⟨c, none, none⟩ : CX))[i]? = some x → x.pv = none ∧ x.vv = none := by
  intro i x hx'
  rw [List.getElem?_map] at hx'
  obtain ⟨c, -, rfl⟩ := Option.map_eq_some_iff.1 hx'
  exact ⟨rfl, rfl⟩
 obtain ⟨a01, a02, a03, a12, a13, a23⟩ := h.ap
 have a04 := apart_row h.r0 h4 (Nat.le_refl _)
 have a05 := apart_row h.r0 h5 (Nat.le_refl _)
 have a14 := apart_row h.r1 h4 (Nat.le_refl _)
 have a15 := apart_row h.r1 h5 (Nat.le_refl _)
 have a24 := apart_row h.r2 h4 (Nat.le_refl _)
 have a25 := apart_row h.r2 h5 (Nat.le_refl _)
 have a34 := apart_row h.r3 h4 (Nat.le_refl _)
 have a35 := apart_row h.r3 h5 (Nat.le_refl _)
 refine ⟨BoxF.sets _ 4 w3 _ (h.box.ext hx) (by simp), (h.res.ext hx).grown hg (by simp), Ext.sets _ (Nat.le_refl _) _ _ _ (h.ext.trans hx), k0, Nat.le_trans k1 hs, ⟨by rw [size_sets]; exact Nat.le_refl _, ?_, ?_, ?_, ?_, ?_, ?_, ?_, ?_, ?_, ?_⟩, ?_, ?_, ?_, ?_⟩
 ·exact (((h.r0.ext hx).offbox hg (by omega)).bounds (Nat.le_refl _) hs).start
 ·exact (((h.r1.ext hx).offbox hg (by omega)).bounds (Nat.le_refl _) hs).start
 ·exact (((h.r2.ext hx).offbox hg (by omega)).bounds (Nat.le_refl _) hs).re rfl (fun k x x' hx hx' ds hR => by
   rw [hx] at hx'
   injection hx' with hx'
   subst hx'
   exact fun _ _ => hR.out)
 ·exact (((h.r3.ext hx).offbox hg (by omega)).bounds (Nat.le_refl _) hs).re rfl (fun k x x' hx hx' ds hR => by
   rw [hx] at hx'
   injection hx' with hx'
   subst hx'
   exact fun _ _ => hR.out)
 ·exact ((h4.offbox hg (by omega)).bounds k1 (Nat.le_refl _)).start
 ·have h1 := (h5.offbox hg (by omega)).bounds k1 (Nat.le_refl _)
  exact h1.re (by rw [List.length_map]) (fun k x x' hx hx' ds hR => by
   rw [List.getElem?_map, hx] at hx'
   injection hx' with hx'
   subst hx'
   intro w'' _
   obtain ⟨pv, cv, vv, g1, g2, g3, g4⟩ := hR.out
   exact ⟨pv, cv, vv, g1, g2, g3, g4⟩)
 ·intro i x p hi hp
  rw [(hnone i x hi).1] at hp; cases hp
 ·intro i j a b r hij hi hj ha
  match i, j, hi, hj with
  | 0, 0, _, _ | 1, 1, _, _ | 2, 2, _, _ | 3, 3, _, _ | 4, 4, _, _ | 5, 5, _, _ => exact absurd rfl hij
  | 0, 1, hi, hj => (cases hi; cases hj; exact a01 r ha)
  | 0, 2, hi, hj => (cases hi; cases hj; exact a02 r ha)
  | 0, 3, hi, hj => (cases hi; cases hj; exact a03 r ha)
  | 0, 4, hi, hj => (cases hi; cases hj; exact a04 r ha)
  | 0, 5, hi, hj => (cases hi; cases hj; exact a05 r ha)
  | 1, 2, hi, hj => (cases hi; cases hj; exact a12 r ha)
  | 1, 3, hi, hj => (cases hi; cases hj; exact a13 r ha)
  | 1, 4, hi, hj => (cases hi; cases hj; exact a14 r ha)
  | 1, 5, hi, hj => (cases hi; cases hj; exact a15 r ha)
  | 2, 3, hi, hj => (cases hi; cases hj; exact a23 r ha)
  | 2, 4, hi, hj => (cases hi; cases hj; exact a24 r ha)
  | 2, 5, hi, hj => (cases hi; cases hj; exact a25 r ha)
  | 3, 4, hi, hj => (cases hi; cases hj; exact a34 r ha)
  | 3, 5, hi, hj => (cases hi; cases hj; exact a35 r ha)
  | 4, 5, hi, hj => (cases hi; cases hj; exact ap r ha)
  | 1, 0, hi, hj => (cases hi; cases hj; exact a01.symm r ha)
  | 2, 0, hi, hj => (cases hi; cases hj; exact a02.symm r ha)
  | 3, 0, hi, hj => (cases hi; cases hj; exact a03.symm r ha)
  | 4, 0, hi, hj => (cases hi; cases hj; exact a04.symm r ha)
  | 5, 0, hi, hj => (cases hi; cases hj; exact a05.symm r ha)
  | 2, 1, hi, hj => (cases hi; cases hj; exact a12.symm r ha)
  | 3, 1, hi, hj => (cases hi; cases hj; exact a13.symm r ha)
  | 4, 1, hi, hj => (cases hi; cases hj; exact a14.symm r ha)
  | 5, 1, hi, hj => (cases hi; cases hj; exact a15.symm r ha)
  | 3, 2, hi, hj => (cases hi; cases hj; exact a23.symm r ha)
  | 4, 2, hi, hj => (cases hi; cases hj; exact a24.symm r ha)
  | 5, 2, hi, hj => (cases hi; cases hj; exact a25.symm r ha)
  | 4, 3, hi, hj => (cases hi; cases hj; exact a34.symm r ha)
  | 5, 3, hi, hj => (cases hi; cases hj; exact a35.symm r ha)
  | 5, 4, hi, hj => (cases hi; cases hj; exact ap.symm r ha)
  | i + 6, _, hi, _ => simp at hi
  | _, j + 6, _, hj => simp at hj
 ·intro i j x y p q r _ hi _ hp
  rw [(hnone i x hi).1] at hp; cases hp
 ·intro i j x y p q r hi _ hp
  rw [(hnone i x hi).1] at hp; cases hp
 ·rw [List.map_map]; exact List.map_id' _
 ·rw [List.map_map]; exact List.map_id' _
 ·rw [List.map_map]; exact List.map_id' _
 ·rw [List.map_map]; exact List.map_id' _
section
variable {K : Nat} {w wr w' : World} {s : SkI} {lo hh : Nat} {v0 v1 v2 v3 v4 v5 : Value} {lp : List (PtI × Bool)} {lr : List (RdI × Bool)} {lc : List (List PcI × Bool)} {l : List CX}
theorem CLS.move (h : CLS K w wr s lo hh v0 v1 v2 v3 v4 v5 lp lr lc l) (hx : Ext wr w') : CLS K w w' s lo hh v0 v1 v2 v3 v4 v5 lp lr lc l :=
 ⟨h.box.ext hx, h.res.ext hx, h.ext.trans hx, h.low, h.lhh, h.cls.ext hx, h.tp, h.tr, h.tc, h.tl⟩
theorem CLS.pt (h : CLS K w wr s lo hh v0 v1 v2 v3 v4 v5 lp lr lc l) (hx : Ext wr w') {r n c k : Nat} (hv : v0 = .slice (some ⟨r, 0, none⟩) n c) (hk : k < lp.length) {us : List Value} (hu : us.length = 8) (ho : On (From wr.heap.size) (fun w => PtR w us lp[k].1) w') (hl : ∀ (i : Nat) x, l[i]? = some x → x.pv = none ∧ x.vv = none) :
  CLS K w (w'.setCells r (k * 8) us) s lo hh v0 v1 v2 v3 v4 v5 (lp.set k (lp[k].1, false)) lr lc l := by
 have h' := h.move hx
 have hr := h.cls.pts.lt r (by rw [hv]; rfl)
 have hlow := h.low
 have hhi := h.cls.hi
 have hg := grownBy_sets r us (k * 8) w'
 exact ⟨h'.box.grown hg (by simp; omega), h'.res.grown hg (by simp; omega), Ext.sets r (by omega) _ _ _ h'.ext, h.low, h.lhh, h'.cls.put_pt hv hk hu (ho.mono (fun j _ hj => ⟨Nat.le_trans hhi hj, fun x hx' => by
  obtain ⟨i, hi⟩ := List.getElem?_of_mem hx'
  exact ⟨fun p e => (by rw [(hl i x hi).1] at e; cases e), fun p e => (by rw [(hl i x hi).2] at e; cases e)⟩⟩)), (set_fst hk).trans h.tp, h.tr, h.tc, h.tl⟩
theorem CLS.rd (h : CLS K w wr s lo hh v0 v1 v2 v3 v4 v5 lp lr lc l) (hx : Ext wr w') {r n c k : Nat} (hv : v1 = .slice (some ⟨r, 0, none⟩) n c) (hk : k < lr.length) {A A' : Option Addr} {c1 c1' : Nat}
  (o1 : On (From wr.heap.size) (fun w => Words w (.slice A lr[k].1.radius.num.mag.length c1) lr[k].1.radius.num.mag) w') (o2 : On (From wr.heap.size) (fun w => Words w (.slice A' lr[k].1.radius.den.mag.length c1') lr[k].1.radius.den.mag) w') (hl : ∀ (i : Nat) x, l[i]? = some x → x.pv = none ∧ x.vv = none) :
  CLS K w (w'.setCells r (k * 5 + 1) [.bool lr[k].1.radius.num.neg, .slice A lr[k].1.radius.num.mag.length c1, .bool lr[k].1.radius.den.neg, .slice A' lr[k].1.radius.den.mag.length c1']) s lo hh v0 v1 v2 v3 v4 v5 lp (lr.set k (lr[k].1, false)) lc l := by
 have h' := h.move hx
 have hr := h.cls.rds.lt r (by rw [hv]; rfl)
 have hlow := h.low
 have hhi := h.cls.hi
 have hm : ∀ j, j < w'.heap.size → From wr.heap.size j → Sx hh l j := fun j _ hj => ⟨Nat.le_trans hhi hj, fun x hx' => by
  obtain ⟨i, hi⟩ := List.getElem?_of_mem hx'
  exact ⟨fun p e => (by rw [(hl i x hi).1] at e; cases e), fun p e => (by rw [(hl i x hi).2] at e; cases e)⟩⟩
 have hg := grownBy_sets r [.bool lr[k].1.radius.num.neg, .slice A lr[k].1.radius.num.mag.length c1, .bool lr[k].1.radius.den.neg, .slice A' lr[k].1.radius.den.mag.length c1'] (k * 5 + 1) w'
 exact ⟨h'.box.grown hg (by simp; omega), h'.res.grown hg (by simp; omega), Ext.sets r (by omega) _ _ _ h'.ext, h.low, h.lhh, h'.cls.put_rd hv hk rfl rfl (o1.mono hm) (o2.mono hm), h.tp, (set_fst hk).trans h.tr, h.tc, h.tl⟩
theorem CLS.ch (h : CLS K w wr s lo hh v0 v1 v2 v3 v4 v5 lp lr lc l) (hx : Ext wr w') {r n c k : Nat} (hv : v4 = .slice (some ⟨r, 0, none⟩) n c) (hk : k < lc.length) {u : Value} (ho : On (From wr.heap.size) (fun w => ArrAt 3 PcR w u lc[k].1) w') (hl : ∀ (i : Nat) x, l[i]? = some x → x.pv = none ∧ x.vv = none) :
  CLS K w (w'.setCells r k [u]) s lo hh v0 v1 v2 v3 v4 v5 lp lr (lc.set k (lc[k].1, false)) l := by
 have h' := h.move hx
 have hr := h.cls.chs.lt r (by rw [hv]; rfl)
 have hlow := h.low
 have hhi := h.cls.hi
 have hg := grownBy_sets r [u] k w'
 exact ⟨h'.box.grown hg (by simp; omega), h'.res.grown hg (by simp; omega), Ext.sets r (by omega) _ _ _ h'.ext, h.low, h.lhh, h'.cls.put_ch hv hk (ho.mono (fun j _ hj => ⟨Nat.le_trans hhi hj, fun x hx' => by
  obtain ⟨i, hi⟩ := List.getElem?_of_mem hx'
  exact ⟨fun p e => (by rw [(hl i x hi).1] at e; cases e), fun p e => (by rw [(hl i x hi).2] at e; cases e)⟩⟩)), h.tp, h.tr, (set_fst hk).trans h.tc, h.tl⟩
theorem CLS.at_pt (h : CLS K w wr s lo hh v0 v1 v2 v3 v4 v5 lp lr lc l) {A : Option Addr} {n c k : Nat} (hv : v0 = .slice A n c) (hk : k < lp.length) :
  ∃ r u v u' v', A = some ⟨r, 0, none⟩ ∧ r < wr.heap.size ∧ n ≤ c ∧ n = lp.length ∧ (∀ j x, [Value.bool lp[k].1.x.num.neg, u, .bool lp[k].1.x.den.neg, v, .bool lp[k].1.y.num.neg, u', .bool lp[k].1.y.den.neg, v'][j]? = some x → wr.cell? ⟨r, k * 8 + j, none⟩ = some x) ∧ (∀ j, wr.frozen? ⟨r, j, none⟩ = false) ∧
   Words wr u lp[k].1.x.num.mag ∧ Words wr v lp[k].1.x.den.mag ∧ Words wr u' lp[k].1.y.num.mag ∧ Words wr v' lp[k].1.y.den.mag := by
 have hp := h.cls.pts
 rw [hv] at hp
 obtain ⟨r, ds, e1, -, -, h3, h4, h5, h6, h7, h8, h9⟩ := hp.at_ hk
 have h10 : PtR wr ds lp[k].1 := by
  have h0 := h9.out
  unfold Fl at h0
  split at h0
  ·exact PtR.stable _ _ _ _ h.ext h0
  ·exact h0
 obtain ⟨u, v, u', v', rfl, g1, g2, g3, g4⟩ := h10
 exact ⟨r, u, v, u', v', e1, h3, h5, h4, h7, h8, g1, g2, g3, g4⟩
theorem CLS.at_rd (h : CLS K w wr s lo hh v0 v1 v2 v3 v4 v5 lp lr lc l) {A : Option Addr} {n c k : Nat} (hv : v1 = .slice A n c) (hk : k < lr.length) :
  ∃ r u v, A = some ⟨r, 0, none⟩ ∧ r < wr.heap.size ∧ n ≤ c ∧ n = lr.length ∧ (∀ j x, [Value.int .i64 lr[k].1.center, .bool lr[k].1.radius.num.neg, u, .bool lr[k].1.radius.den.neg, v][j]? = some x → wr.cell? ⟨r, k * 5 + j, none⟩ = some x) ∧ (∀ j, wr.frozen? ⟨r, j, none⟩ = false) ∧
   Words wr u lr[k].1.radius.num.mag ∧ Words wr v lr[k].1.radius.den.mag := by
 have hp := h.cls.rds
 rw [hv] at hp
 obtain ⟨r, ds, e1, -, -, h3, h4, h5, h6, h7, h8, h9⟩ := hp.at_ hk
 have h10 : RdR wr ds lr[k].1 := by
  have h0 := h9.out
  unfold Fl at h0
  split at h0
  ·exact RdR.stable _ _ _ _ h.ext h0
  ·exact h0
 obtain ⟨u, v, rfl, g1, g2⟩ := h10
 exact ⟨r, u, v, e1, h3, h5, h4, h7, h8, g1, g2⟩
theorem CLS.at_ch (h : CLS K w wr s lo hh v0 v1 v2 v3 v4 v5 lp lr lc l) {A : Option Addr} {n c k : Nat} (hv : v4 = .slice A n c) (hk : k < lc.length) :
  ∃ r u, A = some ⟨r, 0, none⟩ ∧ r < wr.heap.size ∧ n ≤ c ∧ n = lc.length ∧ wr.cell? ⟨r, k, none⟩ = some u ∧ (∀ j, wr.frozen? ⟨r, j, none⟩ = false) ∧ ArrAt 3 PcR wr u lc[k].1 := by
 have hp := h.cls.chs
 rw [hv] at hp
 obtain ⟨r, ds, e1, -, -, h3, h4, h5, h6, h7, h8, h9⟩ := hp.at_ hk
 have h10 : ChR wr ds lc[k].1 := by
  have h0 := h9.out
  unfold Fl at h0
  split at h0
  ·exact ChR.stable _ _ _ _ h.ext h0
  ·exact h0
 obtain ⟨u, rfl, g1⟩ := h10
 have := h7 0 u rfl
 rw [Nat.mul_one] at this
 exact ⟨r, u, e1, h3, h5, h4, this, h8, g1⟩
theorem mem_fst {α : Type} {lx : List (α × Bool)} {xs : List α} {i : Nat} (h : lx.map (·.1) = xs) (hi : i < lx.length) : lx[i].1 ∈ xs := by
 rw [← h]; exact List.mem_map.2 ⟨lx[i], List.getElem_mem hi, rfl⟩
theorem len_fst {α : Type} {lx : List (α × Bool)} {xs : List α} (h : lx.map (·.1) = xs) : lx.length = xs.length := by rw [← h, List.length_map]
theorem flag_next {α : Type} {lx : List (α × Bool)} {i : Nat} (hi : i < lx.length) (h : ∀ (j : Nat) x, j < i → lx[j]? = some x → x.2 = false) : ∀ (j : Nat) x, j < i + 1 → (lx.set i (lx[i].1, false))[j]? = some x → x.2 = false := by
 intro j x hj hx
 by_cases hji : j = i
 ·subst hji
  rw [List.getElem?_set_self hi] at hx
  injection hx with hx
  rw [← hx]
 ·rw [List.getElem?_set_ne (by omega)] at hx
  exact h j x (by omega) hx
theorem flag_all {α : Type} {lx : List (α × Bool)} {i : Nat} (hi : lx.length ≤ i) (h : ∀ (j : Nat) x, j < i → lx[j]? = some x → x.2 = false) : ∀ x ∈ lx, x.2 = false := by
 intro x hx
 obtain ⟨j, hj⟩ := List.getElem?_of_mem hx
 exact h j x (by have := (List.getElem?_eq_some_iff.1 hj).1; omega) hj
theorem clone_piece {v : Value} {c : List PcI} {w : World} (h : ArrAt 3 PcR w v c) (hl : c.length ≤ 1000000) :
  Calls Tryz.prog 119 #[v] w (Ret w fun r w' => ∃ B d, r = .slice B c.length d ∧ On (From w.heap.size) (fun w => ArrAt 3 PcR w (.slice B c.length d) c) w') := by
 refine (clone_Piece (h.old (Ext.refl w)) (one_pc w) hl).mono ?_
 rintro e w' ⟨r, rfl, hr, hx⟩
 obtain ⟨B, d, rfl⟩ := hr.form
 have hlt := hr.lt
 have h1 : RowS (From w.heap.size) 45 3 PcR w.heap.size w'.heap.size w' (.slice B c.length d) c := RowS.of_const hr (fun _ _ _ h => h) (Nat.le_refl _)
 exact ⟨_, rfl, ⟨B, d, rfl, h1.arr hl (fun r hr' => (hlt r hr').1) (fun k _ hk => hk)⟩, hx⟩
theorem clone_ints {v : Value} {c : List Int} {w : World} (h : Ints w v c) (hl : c.length ≤ 1000000) :
  Calls Tryz.prog 120 #[v] w (Ret w fun r w' => ∃ B d, r = .slice B c.length d ∧ RowS No 3 1 IntR w.heap.size w'.heap.size w' (.slice B c.length d) c) := by
 refine (clone_Int (h.old (Ext.refl w)) (one_it w) hl).mono ?_
 rintro e w' ⟨r, rfl, hr, hx⟩
 obtain ⟨B, d, rfl⟩ := hr.form
 exact ⟨_, rfl, ⟨B, d, rfl, RowS.of_const hr (fun _ _ _ h => h) (Nat.le_refl _)⟩, hx⟩
theorem clone_exprs {K : Nat} {v : Value} {c : List EI} {w w0 : World} (h : ArrAt 7 (fun _ => ExprR K w0) w v c) (hl : c.length ≤ 1000000) :
  Calls Tryz.prog 121 #[v] w (Ret w fun r w' => ∃ B d, r = .slice B c.length d ∧ RowS No 69 7 (fun _ => ExprR K w0) w.heap.size w'.heap.size w' (.slice B c.length d) c) := by
 refine (clone_Expr h (one_ex w0) hl).mono ?_
 rintro e w' ⟨r, rfl, hr, hx⟩
 obtain ⟨B, d, rfl⟩ := hr.form
 exact ⟨_, rfl, ⟨B, d, rfl, RowS.of_const hr (fun _ _ _ h => h) (Nat.le_refl _)⟩, hx⟩
end
end Go.Proofs.YtonleohlplkglaaGreatDoor
namespace Go.Proofs.YtonleohlplkglaaGreatDoor
open Go Go.RowKit
/-- How far the constraints are copied. -/
def Done (l : List CX) (i : Nat) : Prop := ∀ (j : Nat) x, l[j]? = some x → x.vv = none ∧ (j < i → x.pv ≠ none) ∧ (i ≤ j → x.pv = none)
section
variable {K : Nat} {w wr w' : World} {s : SkI} {lo hh : Nat} {v0 v1 v2 v3 v4 v5 : Value} {lp : List (PtI × Bool)} {lr : List (RdI × Bool)} {lc : List (List PcI × Bool)} {l : List CX}
theorem CLS.at_cn (h : CLS K w wr s lo hh v0 v1 v2 v3 v4 v5 lp lr lc l) {A : Option Addr} {n c k : Nat} (hv : v5 = .slice A n c) (hk : k < l.length) (hd : Done l k) :
  ∃ r pv cv vv, A = some ⟨r, 0, none⟩ ∧ r < wr.heap.size ∧ n ≤ c ∧ n = l.length ∧ (∀ j x, [Value.int .i64 l[k].c.kind, pv, cv, vv, .int .i64 l[k].c.side][j]? = some x → wr.cell? ⟨r, k * 5 + j, none⟩ = some x) ∧ (∀ j, wr.frozen? ⟨r, j, none⟩ = false) ∧
   Ints w pv l[k].c.points ∧ Ints w cv l[k].c.circles ∧ ArrAt 7 (ExprR K) w vv l[k].c.values := by
 have hp := h.cls.cns
 rw [hv] at hp
 obtain ⟨r, ds, e1, -, -, h3, h4, h5, h6, h7, h8, h9⟩ := hp.at_ hk
 obtain ⟨pv, cv, vv, rfl, h10⟩ := h9.out
 rw [(hd k _ (List.getElem?_eq_getElem hk)).2.2 (Nat.le_refl _)] at h10
 exact ⟨r, pv, cv, vv, e1, h3, h5, h4, h7, h8, h10⟩
theorem CLS.at_cx (h : CLS K w wr s lo hh v0 v1 v2 v3 v4 v5 lp lr lc l) {A : Option Addr} {n c k : Nat} (hv : v5 = .slice A n c) {cc : CI} {pv vv : Value} (hk : l[k]? = some ⟨cc, some pv, some vv⟩) :
  ∃ r, A = some ⟨r, 0, none⟩ ∧ r < wr.heap.size ∧ wr.cell? ⟨r, k * 5 + 3, none⟩ = some vv := by
 have hp := h.cls.cns
 rw [hv] at hp
 have hkl := (List.getElem?_eq_some_iff.1 hk).1
 obtain ⟨r, ds, e1, -, -, h3, h4, h5, h6, h7, h8, h9⟩ := hp.at_ hkl
 rw [(List.getElem?_eq_some_iff.1 hk).2] at h9
 obtain ⟨p, cv, q, rfl, -, -, h10⟩ := h9.out
 exact ⟨r, e1, h3, by rw [h7 3 _ rfl]; exact congrArg some h10⟩
theorem CLS.cn (h : CLS K w wr s lo hh v0 v1 v2 v3 v4 v5 lp lr lc l) (hx : Ext wr w') {r n c k : Nat} (hv : v5 = .slice (some ⟨r, 0, none⟩) n c) (hk : k < l.length) (hd : Done l k) {pv cv vv : Value}
  (hp : RowS No 3 1 IntR wr.heap.size w'.heap.size w' pv l[k].c.points) (hc : RowS No 3 1 IntR wr.heap.size w'.heap.size w' cv l[k].c.circles) (hvv : RowS No 69 7 (fun _ => ExprR K w) wr.heap.size w'.heap.size w' vv l[k].c.values)
  (a1 : Apart pv cv) (a2 : Apart pv vv) (a3 : Apart cv vv) (hcl : l[k].c.circles.length ≤ 1000) :
  CLS K w (w'.setCells r (k * 5 + 1) [pv, cv, vv]) s lo hh v0 v1 v2 v3 v4 v5 lp lr lc (l.set k ⟨l[k].c, some pv, some vv⟩) ∧
   RowS (Sx hh (l.set k ⟨l[k].c, some pv, some vv⟩)) 69 7 (Fl (ExprR K) w) hh (w'.setCells r (k * 5 + 1) [pv, cv, vv]).heap.size (w'.setCells r (k * 5 + 1) [pv, cv, vv]) vv (l[k].c.values.map fun x => (x, true)) := by
 have h' := h.move hx
 have hr := h.cls.cns.lt r (by rw [hv]; rfl)
 have hlow := h.low
 have hhi := h.cls.hi
 have hg := grownBy_sets r [pv, cv, vv] (k * 5 + 1) w'
 have hcr := hc.lt
 have hho : On (Sx hh (l.set k ⟨l[k].c, some pv, some vv⟩)) (fun w => Ints w cv l[k].c.circles) w' := hc.arr (by omega) (fun b hb => by
  refine ⟨by have := (hcr b hb).1; omega, fun x hx' => ?_⟩
  rcases List.mem_or_eq_of_mem_set hx' with h6 | h6
  ·obtain ⟨i, hi⟩ := List.getElem?_of_mem h6
   refine ⟨fun p e e' => ?_, fun q e => by rw [(hd i x hi).1] at e; cases e⟩
   have := (h.cls.prow i x p hi e).lt b e'
   have := (hcr b hb).1
   omega
  ·subst h6
   refine ⟨fun p e e' => ?_, fun q e e' => ?_⟩
   ·injection e with e; subst e; exact a1 b e' hb
   ·injection e with e; subst e; exact a3 b hb e') (fun k _ hk => hk.elim)
 refine ⟨⟨h'.box.grown hg (by simp; omega), h'.res.grown hg (by simp; omega), Ext.sets r (by omega) _ _ _ h'.ext, h.low, h.lhh, h.cls.put_cn hx hv hk hp (fun b hb => (hvv.lt b hb).1) (fun b hb => a2 b hb) (fun i x hi => (hd i x hi).1) ((hd k _ (List.getElem?_eq_getElem hk)).2.2 (Nat.le_refl _)) hho, h.tp, h.tr, h.tc, ?_⟩, ?_⟩
 ·rw [List.map_set, ← h.tl]
  have : l[k].c = (l.map (·.c))[k]'(by simpa using hk) := by simp
  rw [this, List.set_getElem_self]
 ·have h1 := hvv.far hg (fun r' e hb => by
   have e' : r = r' := Option.some.inj e
   have := (hvv.lt r' hb).1
   omega) (fun _ _ h => h)
  exact (h1.start).bounds hhi hg.size
/-- A value is stored. -/
theorem CLS.hot (h : CLS K w wr s lo hh v0 v1 v2 v3 v4 v5 lp lr lc l) (hx : Ext wr w') {k i q n c : Nat} {cc : CI} {pv : Value} (hk : l[k]? = some ⟨cc, some pv, some (.slice (some ⟨q, 0, none⟩) n c)⟩) (hone : ∀ (j : Nat) x, l[j]? = some x → j ≠ k → x.vv = none) {lx : List (EI × Bool)}
  (hr : RowS (Sx hh l) 69 7 (Fl (ExprR K) w) hh wr.heap.size wr (.slice (some ⟨q, 0, none⟩) n c) lx) (hi : i < lx.length) {us : List Value} (hu : us.length = 7) (ho : On (From wr.heap.size) (fun w => ExprR K w us lx[i].1) w') :
  CLS K w (w'.setCells q (i * 7) us) s lo hh v0 v1 v2 v3 v4 v5 lp lr lc l ∧ RowS (Sx hh l) 69 7 (Fl (ExprR K) w) hh (w'.setCells q (i * 7) us).heap.size (w'.setCells q (i * 7) us) (.slice (some ⟨q, 0, none⟩) n c) (lx.set i (lx[i].1, false)) := by
 have h' := h.move hx
 have hlow := h.low
 have hhi := h.cls.hi
 have hq := hr.lt q rfl
 have hg := grownBy_sets q us (i * 7) w'
 have hc5 := h.lhh
 have hn : ¬ Sx hh l q := fun hs => (hs.2 _ (mem_of_getElem? hk)).2 _ rfl rfl
 refine ⟨⟨h'.box.grown hg (by simp; omega), h'.res.grown hg (by simp; omega), Ext.sets q (by omega) _ _ _ h'.ext, h.low, h.lhh, h'.cls.far_hot hk rfl rfl hq.1 hg, h.tp, h.tr, h.tc, h.tl⟩, ?_⟩
 have hr' := (hr.ext hx).bounds (Nat.le_refl _) hx.size
 have hp := hr'.put (j0 := 0) (us := us) (x' := (lx[i].1, false)) hi (by omega) hn (fun ds g1 g2 ds' g3 g4 g5 => by
  have : ds' = us := by
   apply List.ext_getElem?
   intro j
   rcases Nat.lt_or_ge j us.length with h6 | h6
   ·rw [List.getElem?_eq_getElem h6]
    have := g5 j _ (List.getElem?_eq_getElem h6)
    rwa [Nat.zero_add] at this
   ·rw [List.getElem?_eq_none h6, List.getElem?_eq_none (by omega)]
  rw [this]
  refine (ho.mono (fun b _ hb => ⟨Nat.le_trans hhi hb, fun x hx' => ?_⟩)).imp (fun _ _ h => h)
  obtain ⟨j, hj⟩ := List.getElem?_of_mem hx'
  refine ⟨fun p e e' => ?_, fun p e e' => ?_⟩
  ·have h6 := (h.cls.prow j x p hj e).lt b e'
   have : wr.heap.size ≤ b := hb
   omega
  ·by_cases hjk : j = k
   ·subst hjk
    rw [hk] at hj
    injection hj with hj
    subst hj
    injection e with e
    subst e
    have e2 : q = b := Option.some.inj e'
    have : wr.heap.size ≤ b := hb
    omega
   ·rw [hone j x hj hjk] at e; cases e)
 rw [Nat.add_zero] at hp
 exact hp.bounds (Nat.le_refl _) hg.size
theorem CLS.cool (h : CLS K w wr s lo hh v0 v1 v2 v3 v4 v5 lp lr lc l) {k : Nat} {cc : CI} {pv vv : Value} (hk : l[k]? = some ⟨cc, some pv, some vv⟩) (hone : ∀ (j : Nat) x, l[j]? = some x → j ≠ k → x.vv = none) {lx : List (EI × Bool)}
  (hr : RowS (Sx hh l) 69 7 (Fl (ExprR K) w) hh wr.heap.size wr vv lx) (hlx : lx.map (·.1) = cc.values) (hf : ∀ x ∈ lx, x.2 = false) (hl : cc.values.length ≤ 1000) :
  CLS K w wr s lo hh v0 v1 v2 v3 v4 v5 lp lr lc (l.set k ⟨cc, some pv, none⟩) := by
 have hkl := (List.getElem?_eq_some_iff.1 hk).1
 have h1 : RowS (Sx hh l) 69 7 (ExprR K) hh wr.heap.size wr vv cc.values := hr.re (by rw [← hlx, List.length_map]) (fun k x x' hx hx' ds hR => by
  rw [← hlx, List.getElem?_map, hx] at hx'
  injection hx' with hx'
  subst hx'
  exact hR.imp (fun w'' _ hh => by unfold Fl at hh; rw [hf x (mem_of_getElem? hx)] at hh; exact hh))
 have hqr := hr.lt
 have ho : On (Sx hh (l.set k ⟨cc, some pv, none⟩)) (fun w => ArrAt 7 (ExprR K) w vv cc.values) wr := h1.arr (by omega) (fun b hb => by
  refine ⟨(hqr b hb).1, fun x hx' => ?_⟩
  rcases List.mem_or_eq_of_mem_set hx' with h6 | h6
  ·obtain ⟨j, hj⟩ := List.getElem?_of_mem h6
   refine ⟨fun p e e' => h.cls.hot j k x _ p vv b hj hk e rfl e' hb, fun p e => ?_⟩
   obtain ⟨j', hj'⟩ := List.getElem?_of_mem hx'
   by_cases hjk : j' = k
   ·subst hjk
    rw [List.getElem?_set_self hkl] at hj'
    injection hj' with hj'
    subst hj'
    cases e
   ·rw [List.getElem?_set_ne (by omega)] at hj'
    rw [hone j' x hj' hjk] at e
    cases e
  ·subst h6
   refine ⟨fun p e e' => ?_, fun p e => by cases e⟩
   injection e with e
   subst e
   exact h.cls.hot k k _ _ pv vv b hk hk rfl rfl e' hb) (fun b _ hb => ⟨hb.1, fun x hx' => by
  rcases List.mem_or_eq_of_mem_set hx' with h6 | h6
  ·exact hb.2 x h6
  ·subst h6
   exact ⟨fun p e => (hb.2 _ (mem_of_getElem? hk)).1 p e, fun p e => by cases e⟩⟩)
 refine ⟨h.box, h.res, h.ext, h.low, h.lhh, h.cls.cool hk ho, h.tp, h.tr, h.tc, ?_⟩
 rw [List.map_set, ← h.tl]
 have : cc = (l.map (·.c))[k]'(by simpa using hkl) := by
  have := (List.getElem?_eq_some_iff.1 hk).2
  simp [this]
 rw [this, List.set_getElem_self]
theorem Done.hot {i : Nat} (hd : Done l i) {c : CI} {pv vv : Value} : ∀ (j : Nat) x, (l.set i ⟨c, some pv, some vv⟩)[j]? = some x → j ≠ i → x.vv = none := by
 intro j x hj hji
 rw [List.getElem?_set_ne (by omega)] at hj
 exact (hd j x hj).1
theorem Done.next {i : Nat} (hd : Done l i) (hi : i < l.length) {c : CI} {pv : Value} {vv : Option Value} : Done ((l.set i ⟨c, some pv, vv⟩).set i ⟨c, some pv, none⟩) (i + 1) := by
 intro j x hj
 rw [List.set_set] at hj
 by_cases hji : j = i
 ·subst hji
  rw [List.getElem?_set_self hi] at hj
  injection hj with hj
  subst hj
  exact ⟨rfl, fun _ => by simp, fun h => by omega⟩
 ·rw [List.getElem?_set_ne (by omega)] at hj
  obtain ⟨h1, h2, h3⟩ := hd j x hj
  exact ⟨h1, fun h => h2 (by omega), fun h => h3 (by omega)⟩
theorem len_c {l : List CX} {xs : List CI} (h : l.map (·.c) = xs) : l.length = xs.length := by rw [← h, List.length_map]
theorem mem_c {l : List CX} {xs : List CI} {i : Nat} (h : l.map (·.c) = xs) (hi : i < l.length) : l[i].c ∈ xs := by
 rw [← h]; exact List.mem_map.2 ⟨l[i], List.getElem_mem hi, rfl⟩
theorem ClS.off {w0 : World} {sg : List SgI} {ar : List ArI} (h : ClS K w0 lo hh wr v0 v1 v2 v3 v4 v5 lp lr sg ar lc l) {g : Nat} (hg : wr.grownBy w' (some g)) (hl : g < lo) (hlh : lo ≤ hh) : ClS K w0 lo hh w' v0 v1 v2 v3 v4 v5 lp lr sg ar lc l := by
 have f : ∀ r', some g = some r' → r' < lo ∨ hh ≤ r' := fun r' e => .inl (by have : g = r' := Option.some.inj e; omega)
 have n : ∀ r', some g = some r' → ¬ Sx hh l r' := fun r' e => Sx.not (by have : g = r' := Option.some.inj e; omega)
 exact ⟨Nat.le_trans h.hi hg.size, h.pts.far' hg f n, h.rds.far' hg f n, h.sgs.far' hg f n, h.ars.far' hg f n, h.chs.far' hg f n, h.cns.far' hg f n, h.prow_far hg (by omega), h.dst, h.dis, h.hot⟩
end
end Go.Proofs.YtonleohlplkglaaGreatDoor
namespace Go.Proofs.YtonleohlplkglaaGreatDoor
open Go Go.RowKit
section
variable {α : Type} {S : Nat → Prop} {T sz lo hi : Nat} {R : World → List Value → α → Prop} {w0 w : World} {v : Value}
theorem RowS.unflag {l : List α} (h : RowS S T sz (Fl R w0) lo hi w v (l.map fun x => (x, false))) : RowS S T sz R lo hi w v l :=
 h.re (by rw [List.length_map]) (fun k x x' hx hx' ds hR => by
  rw [List.getElem?_map, hx'] at hx
  injection hx with hx
  subst hx
  exact hR.imp (fun _ _ hh => hh))
theorem RowS.data {l : List α} (h : RowS S T sz R lo hi w v l) (hl : l.length ≤ 1000) : ArrAt sz R w v l := (h.arr (S' := fun _ => True) (by omega) (fun _ _ => trivial) (fun _ _ _ => trivial)).out
end
theorem sk_of_rows {K : Nat} {w0 w : World} {S : Nat → Prop} {lo hh hx : Nat} {v0 v1 v2 v3 v4 v5 : Value} {ps : List PtI} {rs : List RdI} {sg : List SgI} {ar : List ArI} {cs : List (List PcI)} {l : List CX}
  (h0 : RowS S 40 8 (Fl PtR w0) lo hh w v0 (ps.map fun x => (x, false))) (h1 : RowS S 66 5 (Fl RdR w0) lo hh w v1 (rs.map fun x => (x, false))) (h2 : RowS S 42 2 SgR lo hh w v2 sg) (h3 : RowS S 81 4 ArR lo hh w v3 ar)
  (h4 : RowS S 43 1 (Fl ChR w0) lo hh w v4 (cs.map fun x => (x, false))) (h5 : RowS S 52 5 (ConX K w0) lo hh w v5 l) (hp : ∀ (i : Nat) x p, l[i]? = some x → x.pv = some p → RowS (fun _ => False) 3 1 IntR hx w.heap.size w p x.c.points) (hl : ∀ x ∈ l, x.pv ≠ none ∧ x.vv = none)
  (b0 : ps.length ≤ 1000) (b1 : rs.length ≤ 1000) (b2 : sg.length ≤ 1000) (b3 : ar.length ≤ 1000) (b4 : cs.length ≤ 1000) (b5 : l.length ≤ 1000) (b6 : ∀ x ∈ l, x.c.points.length ≤ 1000) : SkAt K w v0 v1 v2 v3 v4 v5 ⟨ps, rs, sg, ar, cs, l.map (·.c)⟩ := by
 refine ⟨h0.unflag.data b0, h1.unflag.data b1, h2.data b2, h3.data b3, h4.unflag.data b4, ?_⟩
 have h6 : RowS (fun _ => True) 52 5 (ConR K) lo hh w v5 (l.map (·.c)) := h5.re (by rw [List.length_map]) (fun k x x' hx hx' ds hR => by
  rw [List.getElem?_map, hx] at hx'
  injection hx' with hx'
  subst hx'
  intro w' hk
  obtain ⟨pv, cv, vv, e, hh⟩ := hR w' (hk.mono (fun _ _ _ => trivial))
  obtain ⟨g1, g2⟩ := hl x (mem_of_getElem? hx)
  cases hpv : x.pv with
  | none => exact absurd hpv g1
  | some p =>
   rw [hpv, g2] at hh
   obtain ⟨rfl, k1, k2⟩ := hh
   have hr := hp k x pv hx hpv
   refine ⟨pv, cv, vv, e, ?_, k1, k2⟩
   exact ((hr.keep (hk.mono (fun _ _ h => h.elim)) (fun r hr' => hk.block r (hr.lt r hr').2.2 trivial)).data (b6 x (mem_of_getElem? hx))))
 exact h6.data (by rw [List.length_map]; exact b5)
theorem eraseIdx_map {α β : Type} (f : α → β) : ∀ (l : List α) (i : Nat), (l.eraseIdx i).map f = (l.map f).eraseIdx i
 | [], i => by simp
 | a :: l, 0 => by simp
 | a :: l, i + 1 => by simp [eraseIdx_map f l i]
end Go.Proofs.YtonleohlplkglaaGreatDoor
namespace Go.Proofs.YtonleohlplkglaaGreatDoor
open Go Go.RowKit
section
variable {α : Type} {S : Nat → Prop} {T sz lo hi : Nat} {R : World → List Value → α → Prop} {w : World} {l : List α}
theorem ownsRow_shorter {base n n' : Nat} {A : Option Addr} {c : Nat} {xs : List Value} (h : w.ownsRow base T sz (.slice A n c) n xs) (hA : A ≠ none) (hn : n' ≤ n) : w.ownsRow base T sz (.slice A n' c) n' (xs.take (n' * sz)) := by
 have hm : n' * sz ≤ n * sz := Nat.mul_le_mul_right sz hn
 refine ⟨by rw [List.length_take, h.1]; omega, ?_⟩
 rcases h.2 with ⟨h1, -⟩ | ⟨g, cap, cur, h1, h2, h3, h4, h5, h6, h7⟩
 ·injection h1 with e1; exact absurd e1 hA
 ·injection h1 with e1 e2 e3
  subst e3
  refine .inr ⟨g, c, cur, by rw [e1], h2, h3, by omega, h5, h6, ?_⟩
  rw [← h7, List.take_take, Nat.min_eq_left hm]
theorem ownsRow_set' {base n r o : Nat} {A : Option Addr} {m c : Nat} {xs : List Value} (h : w.ownsRow base T sz (.slice A m c) n xs) (hr : A = some ⟨r, 0, none⟩) (ho : n * sz ≤ o) (u : Value) : (w.setCell ⟨r, o, none⟩ u).ownsRow base T sz (.slice A m c) n xs := by
 refine ⟨h.1, ?_⟩
 rcases h.2 with h1 | ⟨g, cap, cur, h1, h2, h3, h4, h5, h6, h7⟩
 ·exact .inl h1
 ·injection h1 with e1 e2 e3
  rw [hr] at e1
  injection e1 with e1
  injection e1 with e1 _ _
  subst e1 e2 e3
  refine .inr ⟨r, c, cur.setIfInBounds o u, by rw [hr], h2, ?_, h4, h5, by rw [Array.size_setIfInBounds]; exact h6, ?_⟩
  ·simp [World.setCell, Array.getElem?_modify, h3]
  ·rw [Array.toList_setIfInBounds, List.take_set, h7, List.set_eq_of_length_le (by rw [h.1]; exact ho)]
theorem ownsRow_sets' {base n r : Nat} {A : Option Addr} {m c : Nat} (hr : A = some ⟨r, 0, none⟩) : ∀ (us : List Value) (o : Nat) (w : World) (xs : List Value), w.ownsRow base T sz (.slice A m c) n xs → n * sz ≤ o → (w.setCells r o us).ownsRow base T sz (.slice A m c) n xs
 | [], _, _, _, h, _ => h
 | u :: us, o, w, xs, h, ho => ownsRow_sets' hr us (o + 1) _ xs (ownsRow_set' h hr ho u) (by omega)
theorem row_there {base n r : Nat} {m c : Nat} {xs : List Value} (h : w.ownsRow base T sz (.slice (some ⟨r, 0, none⟩) m c) n xs) : ∀ t, t < n * sz → (w.cell? ⟨r, t, none⟩) = xs[t]? ∧ (w.cell? ⟨r, t, none⟩).isSome = true ∧ w.frozen? ⟨r, t, none⟩ = false := by
 intro t ht
 rcases h.2 with ⟨h1, -⟩ | ⟨g, cap, cur, h1, h2, h3, h4, h5, h6, h7⟩
 ·cases h1
 ·injection h1 with e1 e2 e3
  injection e1 with e1
  injection e1 with e1 _ _
  subst e1
  have e : w.cell? ⟨r, t, none⟩ = xs[t]? := by
   rw [← h7, List.getElem?_take_of_lt ht, cell_of_row w r _ cur _ _ h3]
   simp
  refine ⟨e, ?_, by simp [World.frozen?, h3]⟩
  rw [e, List.getElem?_eq_getElem (by rw [h.1]; exact ht)]
  rfl
theorem RowS.delete {r n cap i : Nat} (h : RowS S T sz R lo hi w (.slice (some ⟨r, 0, none⟩) n cap) l) (hil : i < l.length) (hr : ¬ S r) (hone : ∀ w ds x, R w ds x → ∀ u ∈ ds, u.oneCell' = true) :
  ∃ news : List Value, news.length = (l.length - (i + 1)) * sz ∧ (∀ t u, news[t]? = some u → w.cell? ⟨r, (i + 1) * sz + t, none⟩ = some u) ∧ (∀ u ∈ news, u.oneCell' = true) ∧ (∀ t, t < news.length → (w.cell? ⟨r, i * sz + t, none⟩).isSome = true ∧ w.frozen? ⟨r, i * sz + t, none⟩ = false) ∧
   (∀ t, t < sz → ((w.setCells r (i * sz) news).cell? ⟨r, (l.length - 1) * sz + t, none⟩).isSome = true ∧ (w.setCells r (i * sz) news).frozen? ⟨r, (l.length - 1) * sz + t, none⟩ = false) ∧
   ∀ zs : List Value, RowS S T sz R lo hi ((w.setCells r (i * sz) news).setCells r ((l.length - 1) * sz) zs) (.slice (some ⟨r, 0, none⟩) (l.length - 1) cap) (l.eraseIdx i) ∧ w.grownBy ((w.setCells r (i * sz) news).setCells r ((l.length - 1) * sz) zs) (some r) := by
 have hn : n = l.length := h.len
 subst hn
 obtain ⟨xs, ho, hh, hel⟩ := h
 have hxl := ho.1
 have hp : (i + 1) * sz ≤ l.length * sz := Nat.mul_le_mul_right sz hil
 have hp1 : (i + 1) * sz = i * sz + sz := by rw [Nat.add_mul, Nat.one_mul]
 have hq : (l.length - 1) * sz + sz = l.length * sz := by
  have : l.length = (l.length - 1) + 1 := by omega
  rw [show l.length * sz = ((l.length - 1) + 1) * sz by rw [← this], Nat.add_mul, Nat.one_mul]
 have hd : (l.length - (i + 1)) * sz = l.length * sz - (i + 1) * sz := Nat.sub_mul _ _ _
 have hnl : (xs.drop ((i + 1) * sz)).length = (l.length - (i + 1)) * sz := by rw [List.length_drop, hxl, hd]
 obtain ⟨ys, g1, g2, g3⟩ := ownsRow_sets rfl (xs.drop ((i + 1) * sz)) (i * sz) w xs ho (by rw [hnl, hd]; omega)
 refine ⟨xs.drop ((i + 1) * sz), hnl, fun t u ht => ?_, fun u hu => ?_, fun t ht => ?_, fun t ht => ?_, fun zs => ⟨?_, ?_⟩⟩
 ·have htl := (List.getElem?_eq_some_iff.1 ht).1
  rw [hnl, hd] at htl
  rw [(row_there ho _ (by omega)).1]
  rwa [List.getElem?_drop] at ht
 ·obtain ⟨t, ht⟩ := List.getElem?_of_mem hu
  have htl := (List.getElem?_eq_some_iff.1 ht).1
  rw [hnl, hd] at htl
  rw [List.getElem?_drop] at ht
  have hpos : 0 < sz := by
   rcases Nat.eq_zero_or_pos sz with h0 | h0
   ·rw [h0] at htl; simp at htl
   ·exact h0
  have hk : ((i + 1) * sz + t) / sz < l.length := (Nat.div_lt_iff_lt_mul hpos).2 (by omega)
  obtain ⟨ds, d1, d2, d3⟩ := hel _ _ (List.getElem?_eq_getElem hk)
  have hm := Nat.mod_lt ((i + 1) * sz + t) hpos
  have := d2 (((i + 1) * sz + t) % sz) _ (List.getElem?_eq_getElem (by omega))
  rw [Nat.div_add_mod' ((i + 1) * sz + t) sz, ht] at this
  injection this with this
  rw [this]
  exact hone _ _ _ d3.out _ (List.getElem_mem _)
 ·rw [hnl, hd] at ht
  exact (row_there ho _ (by omega)).2
 ·exact (row_there g1 _ (by omega)).2
 ·have h1 := ownsRow_shorter g1 (by simp) (show l.length - 1 ≤ l.length by omega)
  have h2 := ownsRow_sets' rfl zs ((l.length - 1) * sz) _ _ h1 (Nat.le_refl _)
  have hK : Keep S w ((w.setCells r (i * sz) (xs.drop ((i + 1) * sz))).setCells r ((l.length - 1) * sz) zs) := Keep.sets r (fun _ => hr) _ _ _ (Keep.sets r (fun _ => hr) _ _ w (Keep.refl _ _))
  have hle : (l.eraseIdx i).length = l.length - 1 := by rw [List.length_eraseIdx, if_pos hil]
  refine ⟨_, by rw [hle]; exact h2, hh, fun k x hx => ?_⟩
  have hkl := (List.getElem?_eq_some_iff.1 hx).1
  rw [hle] at hkl
  rw [List.getElem?_eraseIdx] at hx
  have hkk : k * sz + sz ≤ (l.length - 1) * sz := by
   have := Nat.mul_le_mul_right sz (show k + 1 ≤ l.length - 1 by omega)
   rwa [Nat.add_mul, Nat.one_mul] at this
  split at hx
  ·next hki =>
   obtain ⟨ds, d1, d2, d3⟩ := hel k x hx
   refine ⟨ds, d1, fun j u hj => ?_, d3.keep hK⟩
   have hjl := (List.getElem?_eq_some_iff.1 hj).1
   have hki' : k * sz + sz ≤ i * sz := by
    have := Nat.mul_le_mul_right sz (show k + 1 ≤ i from hki)
    rwa [Nat.add_mul, Nat.one_mul] at this
   rw [List.getElem?_take_of_lt (by omega), g2 _ (.inl (by omega))]
   exact d2 j u hj
  ·next hki =>
   obtain ⟨ds, d1, d2, d3⟩ := hel (k + 1) x hx
   refine ⟨ds, d1, fun j u hj => ?_, d3.keep hK⟩
   have hjl := (List.getElem?_eq_some_iff.1 hj).1
   have hki' : i * sz ≤ k * sz := Nat.mul_le_mul_right sz (by omega)
   have h6 := d2 j u hj
   rw [List.getElem?_take_of_lt (by omega)]
   have h7 := g3 (k * sz - i * sz + j) u (by
    rw [List.getElem?_drop, ← h6]
    congr 1
    have h8 : (k + 1) * sz = k * sz + sz := by rw [Nat.add_mul, Nat.one_mul]
    rw [hp1, h8]
    omega)
   rwa [show i * sz + (k * sz - i * sz + j) = k * sz + j by omega] at h7
 ·have h1 := grownBy_sets r (xs.drop ((i + 1) * sz)) (i * sz) w
  have h2 := grownBy_sets r zs ((l.length - 1) * sz) (w.setCells r (i * sz) (xs.drop ((i + 1) * sz)))
  exact ⟨h2.os.trans h1.os, h2.tape.trans h1.tape, h2.output.trans h1.output, Nat.le_trans h1.size h2.size, fun k hk hne => (h2.block k (Nat.lt_of_lt_of_le hk h1.size) hne).trans (h1.block k hk hne)⟩
end
end Go.Proofs.YtonleohlplkglaaGreatDoor
namespace Go.Proofs.YtonleohlplkglaaGreatDoor
open Go Go.RowKit
/-- clear of one element. -/
theorem run_clear_one {P : Program} (w : World) (t e ty : TypeId) (z : Value) (ht : P.underlying t = some (.slice e)) (hv : ∀ w, (zeroValue e).run P w = .ok z w) (zs : List Value) (hz : (Builtin.zeroCells z.cells 1).toList = zs) (h1 : ∀ u ∈ zs, u.oneCell' = true) (b o c : Nat)
  (hc : ∀ j, j < zs.length → (w.cell? ⟨b, o + j, none⟩).isSome = true) (hf : ∀ j, j < zs.length → w.frozen? ⟨b, o + j, none⟩ = false) :
  (Builtin.clear_ #[t] ty #[.slice (some ⟨b, o, none⟩) 1 c]).run P w = .ok (.tuple #[]) (w.setCells b o zs) := by
 have hst := run_storeCells_cells (P := P) b o zs 0 w (by simpa using hc) (by simpa using hf) h1
 simp only [Nat.add_zero] at hst
 simp [Builtin.clear_, run_underlying ht, hv, hz, hst]
set_option maxRecDepth 100000 in
set_option maxHeartbeats 3200000 in
theorem delete_Point {α : Type} {S : Nat → Prop} {lo hi : Nat} {R : World → List Value → α → Prop} {w : World} {l : List α} {r n cap i : Nat} (h : RowS S 40 8 R lo hi w (.slice (some ⟨r, 0, none⟩) n cap) l) (hi' : i < l.length) (hr : ¬ S r) (hone : ∀ w ds x, R w ds x → ∀ u ∈ ds, u.oneCell' = true) (hl : l.length ≤ 1000) :
  Calls Tryz.prog 73 #[.slice (some ⟨r, 0, none⟩) n cap, .int .i64 (i : Int), .int .i64 ((i : Int) + 1)] w fun e w' => ∃ c, e = .returned (.slice (some ⟨r, 0, none⟩) (l.length - 1) c) ∧ RowS S 40 8 R lo hi w' (.slice (some ⟨r, 0, none⟩) (l.length - 1) c) (l.eraseIdx i) ∧ w.grownBy w' (some r) := by
 have hn : n = l.length := h.len
 subst hn
 have hcap : l.length ≤ cap := by
  obtain ⟨r', ds, -, -, -, -, -, h6, -⟩ := h.at_ hi'
  exact h6
 have h' := h.ext (Ext.drew w)
 obtain ⟨news, n1, n2, n3, n4, n5, n6⟩ := h'.delete hi' hr hone
 obtain ⟨Ad, hA, hsrc⟩ : ∃ Ad : Addr, (if cap = i + 1 then (some ⟨r, 0, none⟩ : Option Addr) else some ⟨r, (i + 1) * 8, none⟩) = some Ad ∧ Hid (∀ t u, news[t]? = some u → w.drew.cell? (Ad.add t) = some u) := by
  by_cases hc : cap = i + 1
  ·refine ⟨⟨r, 0, none⟩, by simp [hc], fun t u hu => ?_⟩
   have h0 : news.length = 0 := by rw [n1, show l.length - (i + 1) = 0 by omega, Nat.zero_mul]
   rw [List.length_eq_zero_iff.1 h0] at hu
   simp at hu
  ·refine ⟨⟨r, (i + 1) * 8, none⟩, by simp [hc], fun t u hu => ?_⟩
   rw [Addr.add_lit]
   exact n2 t u hu
 have S1 : Hid (news.length = (l.length - (i + 1)) * 8) := n1
 have S2 : Hid (∀ u ∈ news, u.oneCell' = true) := n3
 have S3 : Hid (∀ t, t < news.length → (w.drew.cell? ⟨r, 0 + i * 8 + t, none⟩).isSome = true ∧ w.drew.frozen? ⟨r, 0 + i * 8 + t, none⟩ = false) := by
  intro t ht
  rw [Nat.zero_add]
  exact n4 t ht
 obtain ⟨W1, hW1⟩ : ∃ W1, W1 = w.drew.setCells r (0 + i * 8) news := ⟨_, rfl⟩
 have HFIN : Hid (RowS S 40 8 R lo hi (W1.setCells r ((l.length - 1) * 8) [.bool false, .slice none 0 0, .bool false, .slice none 0 0, .bool false, .slice none 0 0, .bool false, .slice none 0 0]) (.slice (some ⟨r, 0, none⟩) (l.length - 1) cap) (l.eraseIdx i) ∧ w.grownBy (W1.setCells r ((l.length - 1) * 8) [.bool false, .slice none 0 0, .bool false, .slice none 0 0, .bool false, .slice none 0 0, .bool false, .slice none 0 0]) (some r)) := by
  rw [hW1, Nat.zero_add]
  obtain ⟨k1, k2⟩ := n6 [.bool false, .slice none 0 0, .bool false, .slice none 0 0, .bool false, .slice none 0 0, .bool false, .slice none 0 0]
  exact ⟨k1, ⟨k2.os, k2.tape, k2.output, k2.size, k2.block⟩⟩
 have hcl : ∀ ty c, (Builtin.clear_ #[22] ty #[.slice (some ⟨r, (l.length - 1) * 8, none⟩) 1 c]).run Tryz.prog W1 = .ok (.tuple #[]) (W1.setCells r ((l.length - 1) * 8) [.bool false, .slice none 0 0, .bool false, .slice none 0 0, .bool false, .slice none 0 0, .bool false, .slice none 0 0]) := by
  intro ty c
  refine run_clear_one W1 22 40 ty (.agg #[.bool false, .slice none 0 0, .bool false, .slice none 0 0, .bool false, .slice none 0 0, .bool false, .slice none 0 0]) Tryz.underlying22 Tryz.zeroValue40 [.bool false, .slice none 0 0, .bool false, .slice none 0 0, .bool false, .slice none 0 0, .bool false, .slice none 0 0] (by kernel_rfl) (by intro u hu; simp only [List.mem_cons, List.not_mem_nil, or_false] at hu; rcases hu with rfl | rfl | rfl | rfl | rfl | rfl | rfl | rfl <;> rfl) r _ c ?_ ?_
  ·intro j hj
   rw [hW1, Nat.zero_add]
   exact (n5 j hj).1
  ·intro j hj
   rw [hW1, Nat.zero_add]
   exact (n5 j hj).2
 have HW : Hid (W1 = w.drew.setCells r (0 + i * 8) news) := hW1
 have hne : ((i : Int) == (i : Int) + 1) = false := by simp; omega
 have hic : i ≤ cap := by omega
 have hjc : i + 1 ≤ cap := by omega
 have hjl : i + 1 ≤ l.length := by omega
 obtain ⟨i0, hi0, hz0, hz1, hz2⟩ := info_parts inf_Point
 clear h h' n1 n2 n3 n4 n5 n6 hW1 hone hr
 generalize l.length = n at *
 have hcl' : ∀ ty, (Builtin.clear_ #[22] ty #[.slice (some ⟨r, (i + (n - (i + 1))) * 8, none⟩) (n - (i + (n - (i + 1)))) (cap - (i + (n - (i + 1))))]).run Tryz.prog W1 = .ok (.tuple #[]) (W1.setCells r ((n - 1) * 8) [.bool false, .slice none 0 0, .bool false, .slice none 0 0, .bool false, .slice none 0 0, .bool false, .slice none 0 0]) := by
  intro ty
  rw [show i + (n - (i + 1)) = n - 1 by omega, show n - (n - 1) = 1 by omega]
  exact hcl ty _
 clear hcl
 have hj0 : (0 : Int) ≤ (i : Int) + 1 := by omega
 have hj1 : (i : Int) + 1 ≤ (n : Int) := by omega
 go_enter Tryz.func73, Tryz.ntmps73
 go_wp2_with fail
 go_region_law (refine step_append_room rfl (.tmp 22) (.tmp 25) 22 rfl 40 i0 8 Tryz.underlying22 hi0 hz1 r 0 i cap (by simp [Act.eval, Act.put]) Ad (n - (i + 1)) (cap - (i + 1)) news (by simp [Act.eval, Act.put]) S1.out hsrc.out S2.out (by omega) S3.out ?_; rw [← HW.out])
 go_wp2_with fail
 go_ret
 exact ⟨cap, congrArg (fun m => Ending.returned (.slice (some ⟨r, 0, none⟩) m cap)) (show i + (n - (i + 1)) = n - 1 by omega), HFIN.out.1, HFIN.out.2⟩
end Go.Proofs.YtonleohlplkglaaGreatDoor
