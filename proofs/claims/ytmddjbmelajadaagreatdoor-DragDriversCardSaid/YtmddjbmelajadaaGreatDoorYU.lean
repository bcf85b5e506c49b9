/- slices.Clone of slices of structs, numbers and words: a row of the call's own with the same elements. -/
import Derived.Test.YtmddjbmelajadaaGreatDoorYH
import Derived.Test.YtmddjbmelajadaaGreatDoorYT
import Derived.Test.YtmddjbmelajadaaGreatDoorYF
import Derived.Deep.RegionHeld3
namespace Go.Proofs.YtmddjbmelajadaaGreatDoor
open Go Go.RowKit
end Go.Proofs.YtmddjbmelajadaaGreatDoor
namespace Go.Proofs.YtmddjbmelajadaaGreatDoor
open Go Go.RowKit
/-- From the base on. -/
abbrev From (b : Nat) : Nat → Prop := fun k => b ≤ k
/-- What a copy of a rational reads as. -/
def RatOn (S : Nat → Prop) (q : QI) (r : Value) (w' : World) : Prop := ∃ A c A' c', r = .agg #[.bool q.num.neg, .slice A q.num.mag.length c, .bool q.den.neg, .slice A' q.den.mag.length c'] ∧ On S (fun w => Words w (.slice A q.num.mag.length c) q.num.mag) w' ∧ On S (fun w => Words w (.slice A' q.den.mag.length c') q.den.mag) w'
theorem RatOn.mono {S S' : Nat → Prop} {q : QI} {r : Value} {w : World} (h : RatOn S q r w) (hs : ∀ k, k < w.heap.size → S k → S' k) : RatOn S' q r w := by
 obtain ⟨A, c, A', c', h1, h2, h3⟩ := h
 exact ⟨A, c, A', c', h1, h2.mono hs, h3.mono hs⟩
theorem RatOn.keep {S : Nat → Prop} {q : QI} {r : Value} {w w' : World} (h : RatOn S q r w) (hk : Keep S w w') : RatOn S q r w' := by
 obtain ⟨A, c, A', c', h1, h2, h3⟩ := h
 exact ⟨A, c, A', c', h1, h2.keep hk, h3.keep hk⟩
end Go.Proofs.YtmddjbmelajadaaGreatDoor
namespace Go.Proofs.YtmddjbmelajadaaGreatDoor
open Go Go.RowKit
/-- An element that is still the old one (as it lay in w0), or that has been copied. -/
def Fl {α : Type} (R : World → List Value → α → Prop) (w0 w : World) (ds : List Value) (x : α × Bool) : Prop := if x.2 then R w0 ds x.1 else R w ds x.1
/-- A constraint; the points' own row, if it has been copied; the values' own row, while they are being copied. -/
structure CX where
 c : CI
 pv : Option Value
 vv : Option Value
def ConX (K : Nat) (w0 w : World) (ds : List Value) (x : CX) : Prop := ∃ pv cv vv, ds = [.int .i64 x.c.kind, pv, cv, vv, .int .i64 x.c.side] ∧
 match x.pv with
 | none => Ints w0 pv x.c.points ∧ Ints w0 cv x.c.circles ∧ ArrAt 7 (ExprR K) w0 vv x.c.values
 | some p => pv = p ∧ Ints w cv x.c.circles ∧ match x.vv with
  | none => ArrAt 7 (ExprR K) w vv x.c.values
  | some q => vv = q
/-- The blocks on which copies may depend. -/
def Sx (hi : Nat) (l : List CX) (k : Nat) : Prop := hi ≤ k ∧ ∀ x ∈ l, (∀ p, x.pv = some p → p.ownBlock ≠ some k) ∧ (∀ q, x.vv = some q → q.ownBlock ≠ some k)
structure ClS (K : Nat) (w0 : World) (lo hh : Nat) (w : World) (v0 v1 v2 v3 v4 v5 : Value) (lp : List (PtI × Bool)) (lr : List (RdI × Bool)) (sg : List SgI) (ar : List ArI) (lc : List (List PcI × Bool)) (l : List CX) : Prop where
 hi : hh ≤ w.heap.size
 pts : RowS (Sx (hh) l) 70 8 (Fl PtR w0) lo hh w v0 lp
 rds : RowS (Sx (hh) l) 84 5 (Fl RdR w0) lo hh w v1 lr
 sgs : RowS (Sx (hh) l) 132 2 SgR lo hh w v2 sg
 ars : RowS (Sx (hh) l) 136 4 ArR lo hh w v3 ar
 chs : RowS (Sx (hh) l) 140 1 (Fl ChR w0) lo hh w v4 lc
 cns : RowS (Sx (hh) l) 72 5 (ConX K w0) lo hh w v5 l
 prow : ∀ (i : Nat) x p, l[i]? = some x → x.pv = some p → RowS (fun _ => False) 3 1 IntR (hh) w.heap.size w p x.c.points
 dst : ∀ (i j : Nat) a b r, i ≠ j → [v0, v1, v2, v3, v4, v5][i]? = some a → [v0, v1, v2, v3, v4, v5][j]? = some b → a.ownBlock = some r → b.ownBlock ≠ some r
 dis : ∀ (i j : Nat) x y p q r, i ≠ j → l[i]? = some x → l[j]? = some y → x.pv = some p → y.pv = some q → p.ownBlock = some r → q.ownBlock ≠ some r
 hot : ∀ (i j : Nat) x y p q r, l[i]? = some x → l[j]? = some y → x.pv = some p → y.vv = some q → p.ownBlock = some r → q.ownBlock ≠ some r
section
variable {α : Type} {S S' : Nat → Prop} {T sz lo hi : Nat} {R : World → List Value → α → Prop} {w w' : World} {v : Value} {l : List α}
theorem grownBy.keep {row : Option Nat} (hg : w.grownBy w' row) (hS : ∀ r, row = some r → ¬ S r) : Keep S w w' :=
 ⟨hg.os, hg.tape, hg.output, hg.size, fun k hk hs => hg.block k hk (by intro e; exact hS k e.symm hs)⟩
theorem RowS.far {row : Option Nat} (h : RowS S T sz R lo hi w v l) (hg : w.grownBy w' row) (hr : ∀ r, row = some r → v.ownBlock ≠ some r) (hS : ∀ r, row = some r → ¬ S r) : RowS S T sz R lo hi w' v l :=
 h.keep (grownBy.keep hg hS) (fun r hv => hg.block r (h.lt r hv).2.2 (by intro e; exact hr r e.symm hv))
theorem grownBy_sets (r : Nat) : ∀ (us : List Value) (o : Nat) (w : World), w.grownBy (w.setCells r o us) (some r)
 | us, o, w => by
  have h1 := Keep.sets (S := fun k => k ≠ r) (a := w) r (fun _ h => h rfl) us o w (Keep.refl _ _)
  exact ⟨h1.os, h1.tape, h1.output, h1.size, fun k hk hne => h1.block k hk (by intro e; exact hne (by rw [e]))⟩
end
section
variable {K : Nat} {w0 : World} {lo hh : Nat} {w w' : World} {v0 v1 v2 v3 v4 v5 : Value} {lp : List (PtI × Bool)} {lr : List (RdI × Bool)} {sg : List SgI} {ar : List ArI} {lc : List (List PcI × Bool)} {l : List CX}
theorem ClS.ext (h : ClS K w0 lo hh w v0 v1 v2 v3 v4 v5 lp lr sg ar lc l) (hx : Ext w w') : ClS K w0 lo hh w' v0 v1 v2 v3 v4 v5 lp lr sg ar lc l where
 hi := Nat.le_trans h.hi hx.size
 pts := h.pts.ext hx
 rds := h.rds.ext hx
 sgs := h.sgs.ext hx
 ars := h.ars.ext hx
 chs := h.chs.ext hx
 cns := h.cns.ext hx
 prow := fun i x p h1 h2 => ((h.prow i x p h1 h2).ext hx).bounds (Nat.le_refl _) hx.size
 dst := h.dst
 dis := h.dis
 hot := h.hot
theorem Sx.not {hi k : Nat} {l : List CX} (h : k < hi) : ¬ Sx hi l k := fun h' => by have := h'.1; omega
theorem mem_of_getElem? {α : Type} {l : List α} {i : Nat} {x : α} (h : l[i]? = some x) : x ∈ l := List.mem_of_getElem? h
end
end Go.Proofs.YtmddjbmelajadaaGreatDoor
namespace Go.Proofs.YtmddjbmelajadaaGreatDoor
open Go Go.RowKit
theorem CellsAt.two {w : World} {g : Nat} {a b : Value} (k : CellsAt w g [a, b]) : w.cell? ⟨g, 0, none⟩ = some a ∧ w.cell? ⟨g, 1, none⟩ = some b := ⟨k.2 0 _ rfl, k.2 1 _ rfl⟩
/-- Two boxes, one behind the other. -/
theorem boxes {w : World} {cs ds : List Value} {T : TypeId} : ∃ W, (w.alloc (.cells cs.toArray T)).alloc (.cells ds.toArray T) = W ∧ CellsAt W w.heap.size cs ∧ CellsAt W (w.heap.size + 1) ds ∧ Ext w W := by
 refine ⟨_, rfl, (CellsAt.new _ _ _).ext (Ext.alloc _ _), ?_, (Ext.alloc _ _).palloc _⟩
 have := CellsAt.new (w.alloc (.cells cs.toArray T)) ds T
 rwa [World.size_alloc] at this
end Go.Proofs.YtmddjbmelajadaaGreatDoor
namespace Go.Proofs.YtmddjbmelajadaaGreatDoor
open Go Go.RowKit
end Go.Proofs.YtmddjbmelajadaaGreatDoor
namespace Go.Proofs.YtmddjbmelajadaaGreatDoor
open Go Go.RowKit
/-- A block of the call's own, which may be stored into. -/
def BoxF (w : World) (g : Nat) (cs : List Value) : Prop := CellsAt w g cs ∧ ∀ j, w.frozen? ⟨g, j, none⟩ = false
theorem BoxF.new (w : World) (cs : List Value) (T : TypeId) : BoxF (w.alloc (.cells cs.toArray T)) w.heap.size cs := ⟨CellsAt.new _ _ _, fun j => by simp [go_sem]⟩
theorem BoxF.ext {w w' : World} {g : Nat} {cs : List Value} (h : BoxF w g cs) (hx : Ext w w') : BoxF w' g cs := ⟨h.1.ext hx, fun j => (Below.frozen hx h.1.1).trans (h.2 j)⟩
theorem BoxF.grown {w w' : World} {g : Nat} {cs : List Value} {row : Option Nat} (h : BoxF w g cs) (hg : w.grownBy w' row) (hr : row ≠ some g) : BoxF w' g cs :=
 ⟨⟨Nat.lt_of_lt_of_le h.1.1 hg.size, fun i v hi => (World.cell?_of_block (hg.block g h.1.1 (fun e => hr e.symm))).trans (h.1.2 i v hi)⟩, fun j => (World.frozen?_of_block (hg.block g h.1.1 (fun e => hr e.symm))).trans (h.2 j)⟩
theorem BoxF.set_ {w : World} {g i : Nat} {cs : List Value} (h : BoxF w g cs) (u : Value) : BoxF (w.setCell ⟨g, i, none⟩ u) g (cs.set i u) := by
 refine ⟨⟨by simpa [World.setCell] using h.1.1, fun j v hj => ?_⟩, fun j => by rw [World.frozen?_setCell]; exact h.2 j⟩
 by_cases hij : i = j
 ·subst hij
  have hl := (List.getElem?_eq_some_iff.1 hj).1
  rw [List.length_set] at hl
  rw [List.getElem?_set_self hl] at hj
  injection hj with hj
  subst hj
  exact World.cell?_setCell_same _ _ _ (h.1.2 i _ (List.getElem?_eq_getElem hl))
 ·rw [List.getElem?_set_ne hij] at hj
  rw [cell_set_off hij]
  exact h.1.2 j v hj
theorem BoxF.sets {g : Nat} : ∀ (us : List Value) (o : Nat) (w : World) (cs : List Value), BoxF w g cs → o + us.length ≤ cs.length → BoxF (w.setCells g o us) g (cs.take o ++ us ++ cs.drop (o + us.length))
 | [], o, w, cs, h, _ => by
  have e : cs.take o ++ [] ++ cs.drop (o + ([] : List Value).length) = cs := by simp
  rw [e]; exact h
 | u :: us, o, w, cs, h, hl => by
  have := BoxF.sets us (o + 1) _ _ (h.set_ (i := o) u) (by simp at hl ⊢; omega)
  rw [World.setCells]
  have e : (cs.set o u).take (o + 1) ++ us ++ (cs.set o u).drop (o + 1 + us.length) = cs.take o ++ (u :: us) ++ cs.drop (o + (u :: us).length) := by
   have hlo : o < cs.length := by simp at hl; omega
   rw [List.take_succ_eq_append_getElem (by rw [List.length_set]; exact hlo), List.take_set, List.getElem_set_self, List.drop_set_of_lt (by omega)]
   rw [List.set_eq_of_length_le (by rw [List.length_take]; omega)]
   simp [Nat.add_assoc, Nat.add_comm 1]
  rw [e] at this
  exact this
theorem RowS.sliceAt {α : Type} {S S' : Nat → Prop} {T sz lo hi : Nat} {R : World → List Value → α → Prop} {w : World} {v : Value} {l : List α} (h : RowS S T sz R lo hi w v l) (hl : l.length ≤ 1000000) (hS : ∀ r, v.ownBlock = some r → S' r) (hSS : ∀ k, k < w.heap.size → S k → S' k) : On S' (fun w => SliceAt sz R w v l) w := by
 have hc : ∀ A c, v = .slice A l.length c → c ≤ maxLen := by
  intro A c hv
  obtain ⟨xs, ho, -⟩ := h
  rcases ho.2 with ⟨rfl, hn⟩ | ⟨g, cap, cur, rfl, hb, hg, hcap, hcm, hcs, htk⟩
  ·injection hv with _ _ e; rw [← e]; exact Nat.zero_le _
  ·injection hv with _ _ e; rw [← e]; exact hcm
 refine (h.arr hl hS hSS).imp fun w' _ ⟨A, c, hv, h1, h2, h3⟩ => ⟨A, c, hv, h1, hc A c hv, h3⟩
/-- From b on, but for a slice's own block. -/
def Sq (b : Nat) (v : Value) (k : Nat) : Prop := b ≤ k ∧ v.ownBlock ≠ some k
/-- The state of cloneExpr behind its two clones. -/
structure CEs (K : Nat) (w wr : World) (q : QI) (op : Int) (nm : ByteArray) (A1 A2 A : Option Addr) (c1 c2 c n : Nat) (args : List EI) (lx : List (EI × Bool)) : Prop where
 box : BoxF wr w.heap.size [.int .i64 op, .bool q.num.neg, .slice A1 q.num.mag.length c1, .bool q.den.neg, .slice A2 q.den.mag.length c2, .string nm, .slice A n c]
 res : BoxF wr (w.heap.size + 1) [.int .i64 0, .bool false, .slice none 0 0, .bool false, .slice none 0 0, .string ⟨#[]⟩, .slice none 0 0]
 num : On (Sq (w.heap.size + 2) (.slice A n c)) (fun w => Words w (.slice A1 q.num.mag.length c1) q.num.mag) wr
 den : On (Sq (w.heap.size + 2) (.slice A n c)) (fun w => Words w (.slice A2 q.den.mag.length c2) q.den.mag) wr
 row : RowS (Sq (w.heap.size + 2) (.slice A n c)) 67 7 (Fl (ExprR K) w) (w.heap.size + 2) wr.heap.size wr (.slice A n c) lx
 ext : Ext w wr
 len : lx.map (·.1) = args
theorem set_fst {α : Type} {lx : List (α × Bool)} {i : Nat} (hi : i < lx.length) : (lx.set i (lx[i].1, false)).map (·.1) = lx.map (·.1) := by
 rw [List.map_set]
 have : lx[i].1 = (lx.map (·.1))[i]'(by simpa using hi) := by simp
 rw [this, List.set_getElem_self]
theorem CEs.move {K : Nat} {w wr w3 : World} {q : QI} {op : Int} {nm : ByteArray} {A1 A2 A : Option Addr} {c1 c2 c n : Nat} {args : List EI} {lx : List (EI × Bool)} (h : CEs K w wr q op nm A1 A2 A c1 c2 c n args lx) (hx : Ext wr w3) : CEs K w w3 q op nm A1 A2 A c1 c2 c n args lx :=
 ⟨h.box.ext hx, h.res.ext hx, h.num.ext hx, h.den.ext hx, (h.row.ext hx).bounds (Nat.le_refl _) hx.size, h.ext.trans hx, h.len⟩
theorem CEs.put {K : Nat} {w wr w3 : World} {q : QI} {op : Int} {nm : ByteArray} {A1 A2 : Option Addr} {c1 c2 c n r i : Nat} {args : List EI} {lx : List (EI × Bool)} (h : CEs K w wr q op nm A1 A2 (some ⟨r, 0, none⟩) c1 c2 c n args lx) (hx : Ext wr w3) (hi : i < lx.length) {us : List Value} (hu : us.length = 7)
  (ho : On (From wr.heap.size) (fun w => ExprR K w us lx[i].1) w3) : CEs K w (w3.setCells r (i * 7) us) q op nm A1 A2 (some ⟨r, 0, none⟩) c1 c2 c n args (lx.set i (lx[i].1, false)) := by
 obtain ⟨hlo, hhi, hlt⟩ := h.row.lt r rfl
 have hg := grownBy_sets r us (i * 7) w3
 have hS : ¬ Sq (w.heap.size + 2) (.slice (some ⟨r, 0, none⟩) n c) r := fun h => h.2 rfl
 have hn : ∀ r', some r = some r' → ¬ Sq (w.heap.size + 2) (.slice (some ⟨r, 0, none⟩) n c) r' := fun r' e => by injection e with e; subst e; exact hS
 have h3 := h.move hx
 have hp := h3.row.put (j0 := 0) (us := us) (x' := (lx[i].1, false)) hi (by omega) hS (fun ds g1 g2 ds' g3 g4 g5 => by
  have : ds' = us := by
   apply List.ext_getElem?
   intro j
   rcases Nat.lt_or_ge j us.length with h6 | h6
   ·rw [List.getElem?_eq_getElem h6]
    have := g5 j _ (List.getElem?_eq_getElem h6)
    rwa [Nat.zero_add] at this
   ·rw [List.getElem?_eq_none h6, List.getElem?_eq_none (by omega)]
  rw [this]
  exact (ho.mono (fun k _ hk => ⟨by have : wr.heap.size ≤ k := hk; omega, fun e => absurd (show r = k from Option.some.inj e) (by have : wr.heap.size ≤ k := hk; omega)⟩)).imp (fun _ _ h => h))
 rw [Nat.add_zero] at hp
 exact ⟨h3.box.grown hg (by simp; omega), h3.res.grown hg (by simp; omega), h3.num.keep (grownBy.keep hg hn), h3.den.keep (grownBy.keep hg hn), hp.bounds (Nat.le_refl _) hg.size, Ext.sets r (by omega) _ _ _ h3.ext, (set_fst hi).trans h.len⟩
/-- What the copy reads as. -/
theorem CEs.done {K : Nat} {w wr : World} {q : QI} {op : Int} {nm : ByteArray} {A1 A2 A : Option Addr} {c1 c2 c n : Nat} {args : List EI} {lx : List (EI × Bool)} (h : CEs K w wr q op nm A1 A2 A c1 c2 c n args lx) (hf : ∀ (j : Nat) x, lx[j]? = some x → x.2 = false) (hl : args.length ≤ 1000000) (us : List Value) :
  On (From w.heap.size) (fun w => Words w (.slice A1 q.num.mag.length c1) q.num.mag) (wr.setCells (w.heap.size + 1) 0 us) ∧ On (From w.heap.size) (fun w => Words w (.slice A2 q.den.mag.length c2) q.den.mag) (wr.setCells (w.heap.size + 1) 0 us) ∧ On (From w.heap.size) (fun w => SliceAt 7 (ExprR K) w (.slice A n c) args) (wr.setCells (w.heap.size + 1) 0 us) := by
 have hg := grownBy_sets (w.heap.size + 1) us 0 wr
 have hn : ∀ r', some (w.heap.size + 1) = some r' → ¬ Sq (w.heap.size + 2) (.slice A n c) r' := fun r' e h => by injection e with e; have := h.1; omega
 have hm : ∀ k, k < (wr.setCells (w.heap.size + 1) 0 us).heap.size → Sq (w.heap.size + 2) (.slice A n c) k → From w.heap.size k := fun k _ hk => Nat.le_trans (Nat.le_add_right _ _) hk.1
 have h1 : RowS (Sq (w.heap.size + 2) (.slice A n c)) 67 7 (ExprR K) (w.heap.size + 2) wr.heap.size wr (.slice A n c) args := h.row.re (by rw [← h.len, List.length_map]) (fun k x x' hx hx' ds hR => by
  rw [← h.len, List.getElem?_map, hx] at hx'
  injection hx' with hx'
  subst hx'
  exact hR.imp (fun w'' _ hh => by unfold Fl at hh; rw [hf k x hx] at hh; exact hh))
 have h2 := h1.far hg (fun r' e hb => by injection e with e; have := (h1.lt r' hb).1; omega) hn
 exact ⟨(h.num.keep (grownBy.keep hg hn)).mono hm, (h.den.keep (grownBy.keep hg hn)).mono hm, h2.sliceAt hl (fun r hr => by have := (h2.lt r hr).1; exact Nat.le_trans (Nat.le_add_right _ _) this) hm⟩
end Go.Proofs.YtmddjbmelajadaaGreatDoor
namespace Go.Proofs.YtmddjbmelajadaaGreatDoor
open Go Go.RowKit
theorem ExprR.shape {K : Nat} {w : World} {cs : List Value} {e : EI} (h : ExprR K w cs e) : ∃ op b1 A1 n1 c1 b2 A2 n2 c2 nm A n c, cs = [.int .i64 op, .bool b1, .slice A1 n1 c1, .bool b2, .slice A2 n2 c2, .string nm, .slice A n c] := by
 cases K with
 | zero => exact h.elim
 | succ K =>
  obtain ⟨u, v, sl, rfl, hu, hv, A, c, rfl, -⟩ := h
  obtain ⟨A1, c1, rfl, -⟩ := hu.form
  obtain ⟨A2, c2, rfl, -⟩ := hv.form
  exact ⟨_, _, _, _, _, _, _, _, _, _, _, _, _, rfl⟩
end Go.Proofs.YtmddjbmelajadaaGreatDoor
