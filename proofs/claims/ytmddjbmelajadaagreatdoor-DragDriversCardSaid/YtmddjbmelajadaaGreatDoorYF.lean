/- Rows, Of of the reference's layer 25. -/
import Derived.Test.YtmddjbmelajadaaGreatDoorYE
import Derived.Deep.RegionWith
import Derived.Deep.AppendLies
import Derived.Deep.RegionLaw
import Derived.Lib.SliceRun
import Derived.Shelf.Abstract
namespace Go.Proofs.YtmddjbmelajadaaGreatDoor
open Go Go.RowKit
/-- A row of the table of kinds. -/
structure KR where
 name : ByteArray
 p : Int
 c : Int
 n : Int
 v : Int
 q : Int
 side : Bool
def KR.cells (r : KR) : List Value := [.string r.name, .int .i64 r.p, .int .i64 r.c, .int .i64 r.n, .int .i64 r.v, .int .i64 r.q, .bool r.side]
def kTab : List KR :=
 [⟨⟨#[102, 105, 120]⟩, 1, 0, 2, 1, 2, false⟩,
  ⟨⟨#[100, 105, 115, 116, 97, 110, 99, 101]⟩, 2, 0, 1, 2, 1, false⟩,
  ⟨⟨#[105, 110, 99, 105, 100, 101, 110, 116]⟩, 3, 0, 0, 0, 1, false⟩,
  ⟨⟨#[111, 102, 102, 115, 101, 116]⟩, 3, 0, 1, 2, 1, true⟩,
  ⟨⟨#[97, 110, 103, 108, 101]⟩, 4, 0, 1, 3, 1, false⟩,
  ⟨⟨#[112, 97, 114, 97, 108, 108, 101, 108]⟩, 4, 0, 0, 0, 1, false⟩,
  ⟨⟨#[112, 101, 114, 112, 101, 110, 100, 105, 99, 117, 108, 97, 114]⟩, 4, 0, 0, 0, 1, false⟩,
  ⟨⟨#[101, 113, 117, 97, 108]⟩, 4, 0, 0, 0, 1, false⟩,
  ⟨⟨#[109, 105, 100, 112, 111, 105, 110, 116]⟩, 3, 0, 0, 0, 2, false⟩,
  ⟨⟨#[115, 121, 109, 109, 101, 116, 114, 105, 99]⟩, 4, 0, 0, 0, 2, false⟩,
  ⟨⟨#[104, 111, 114, 105, 122, 111, 110, 116, 97, 108]⟩, 2, 0, 0, 0, 1, false⟩,
  ⟨⟨#[118, 101, 114, 116, 105, 99, 97, 108]⟩, 2, 0, 0, 0, 1, false⟩,
  ⟨⟨#[111, 110, 99, 105, 114, 99, 108, 101]⟩, 1, 1, 0, 0, 1, false⟩,
  ⟨⟨#[114, 97, 100, 105, 117, 115]⟩, 0, 1, 1, 2, 1, false⟩,
  ⟨⟨#[115, 97, 109, 101, 114, 97, 100, 105, 117, 115]⟩, 0, 2, 0, 0, 1, false⟩,
  ⟨⟨#[116, 97, 110, 103, 101, 110, 116, 108, 105, 110, 101]⟩, 2, 1, 0, 0, 1, true⟩,
  ⟨⟨#[116, 97, 110, 103, 101, 110, 116, 99, 105, 114, 99, 108, 101]⟩, 0, 2, 0, 0, 1, true⟩]
end Go.Proofs.YtmddjbmelajadaaGreatDoor
namespace Go.Proofs.YtmddjbmelajadaaGreatDoor
open Go Go.RowKit
end Go.Proofs.YtmddjbmelajadaaGreatDoor
namespace Go.Proofs.YtmddjbmelajadaaGreatDoor
open Go Go.RowKit
/-- A slice of elements of 'sz' cells each, with a bound on its capacity. -/
def ArrAt {α : Type} (sz : Nat) (R : World → List Value → α → Prop) (w : World) (v : Value) (xs : List α) : Prop :=
 ∃ (A : Option Addr) (c : Nat), v = .slice A xs.length c ∧ xs.length ≤ c ∧ xs.length ≤ 35184372088832 ∧
  (xs ≠ [] → ∃ b off : Nat, A = some ⟨b, off, none⟩ ∧ b < w.heap.size ∧
   ∀ k x, xs[k]? = some x → ∃ cs : List Value, cs.length = sz ∧ (∀ j u, cs[j]? = some u → w.cell? ⟨b, off + (k * sz + j), none⟩ = some u) ∧ R w cs x)
theorem ArrAt.ext {α : Type} {sz : Nat} {R : World → List Value → α → Prop} (hR : Stable R) {w w' : World} {v : Value} {xs : List α} (h : ArrAt sz R w v xs) (hx : Ext w w') : ArrAt sz R w' v xs := by
 obtain ⟨A, c, hv, hl, hm, hc⟩ := h
 refine ⟨A, c, hv, hl, hm, fun hne => ?_⟩
 obtain ⟨b, off, hA, hb, hk⟩ := hc hne
 refine ⟨b, off, hA, Nat.lt_of_lt_of_le hb hx.size, fun k x hkx => ?_⟩
 obtain ⟨cs, hcs, hcell, hr⟩ := hk k x hkx
 exact ⟨cs, hcs, fun j u hj => (hx.cell (p := ⟨b, off + (k * sz + j), none⟩) hb).trans (hcell j u hj), hR _ _ _ _ hx hr⟩
theorem ArrAt.form {α : Type} {sz : Nat} {R : World → List Value → α → Prop} {w : World} {v : Value} {xs : List α} (h : ArrAt sz R w v xs) : ∃ A c, v = .slice A xs.length c ∧ xs.length ≤ c ∧ xs.length ≤ 35184372088832 := by
 obtain ⟨A, c, hv, hl, hm, _⟩ := h; exact ⟨A, c, hv, hl, hm⟩
/-- The place of a slice that is not empty, and one of its elements. -/
theorem ArrAt.at_ {α : Type} {sz : Nat} {R : World → List Value → α → Prop} {w : World} {A : Option Addr} {n c : Nat} {xs : List α} (h : ArrAt sz R w (.slice A n c) xs) {k : Nat} (hk : k < xs.length) :
  ∃ b off, A = some ⟨b, off, none⟩ ∧ b < w.heap.size ∧ ∃ cs : List Value, cs.length = sz ∧ (∀ j u, cs[j]? = some u → w.cell? ⟨b, off + (k * sz + j), none⟩ = some u) ∧ R w cs xs[k] := by
 obtain ⟨A', c', hv, hl, hm, hc⟩ := h
 obtain ⟨rfl, rfl, rfl⟩ : A = A' ∧ n = xs.length ∧ c = c' := by injection hv with h1 h2 h3; exact ⟨h1, h2, h3⟩
 obtain ⟨b, off, rfl, hb, hel⟩ := hc (by intro e; rw [e] at hk; simp at hk)
 obtain ⟨cs, h1, h2, h3⟩ := hel k _ (List.getElem?_eq_getElem hk)
 exact ⟨b, off, rfl, hb, cs, h1, h2, h3⟩
theorem ArrAt.len {α : Type} {sz : Nat} {R : World → List Value → α → Prop} {w : World} {A : Option Addr} {n c : Nat} {xs : List α} (h : ArrAt sz R w (.slice A n c) xs) : n = xs.length ∧ n ≤ c ∧ n ≤ 35184372088832 := by
 obtain ⟨A', c', hv, hl, hm, hc⟩ := h
 obtain ⟨rfl, rfl, rfl⟩ : A = A' ∧ n = xs.length ∧ c = c' := by injection hv with h1 h2 h3; exact ⟨h1, h2, h3⟩
 exact ⟨rfl, hl, hm⟩
def IntR (_ : World) (cs : List Value) (x : Int) : Prop := cs = [.int .i64 x]
theorem IntR.stable : Stable IntR := fun _ _ _ _ _ h => h
/-- A slice of numbers. -/
abbrev Ints (w : World) (v : Value) (xs : List Int) : Prop := ArrAt 1 IntR w v xs
theorem ints_cells {w : World} {A : Option Addr} {n c : Nat} {xs : List Int} (h : Ints w (.slice A n c) xs) {k : Nat} (hk : k < xs.length) :
  ∃ b off, A = some ⟨b, off, none⟩ ∧ b < w.heap.size ∧ ∀ j (hj : j < xs.length), w.cell? ⟨b, off + j, none⟩ = some (.int .i64 xs[j]) := by
 obtain ⟨A', c', hv, hl, hm, hc⟩ := h
 obtain ⟨rfl, rfl, rfl⟩ : A = A' ∧ n = xs.length ∧ c = c' := by injection hv with h1 h2 h3; exact ⟨h1, h2, h3⟩
 obtain ⟨b, off, rfl, hb, hel⟩ := hc (by intro e; rw [e] at hk; simp at hk)
 refine ⟨b, off, rfl, hb, fun j hj => ?_⟩
 obtain ⟨cs, h1, h2, h3⟩ := hel j _ (List.getElem?_eq_getElem hj)
 rw [h3] at h2
 simpa using h2 0 _ rfl
end Go.Proofs.YtmddjbmelajadaaGreatDoor
namespace Go.Proofs.YtmddjbmelajadaaGreatDoor
open Go Go.RowKit
/-- A constraint, whatever its fields are. -/
structure CI where
 kind : Int
 points : List Int
 circles : List Int
 values : List EI
 side : Int
def ConR (k : Nat) (w : World) (cs : List Value) (c : CI) : Prop :=
 ∃ pv cv vv, cs = [.int .i64 c.kind, pv, cv, vv, .int .i64 c.side] ∧ Ints w pv c.points ∧ Ints w cv c.circles ∧ ArrAt 7 (ExprR k) w vv c.values
theorem ConR.stable (k : Nat) : Stable (ConR k) := fun w w' cs c hx => by
 rintro ⟨pv, cv, vv, h1, h2, h3, h4⟩
 exact ⟨pv, cv, vv, h1, h2.ext IntR.stable hx, h3.ext IntR.stable hx, h4.ext (ExprR.stable k) hx⟩
end Go.Proofs.YtmddjbmelajadaaGreatDoor
namespace Go.Proofs.YtmddjbmelajadaaGreatDoor
open Go Go.RowKit
structure PtI where
 x : QI
 y : QI
structure RdI where
 center : Int
 radius : QI
structure SgI where
 a : Int
 b : Int
structure ArI where
 circle : Int
 a : Int
 b : Int
 cw : Bool
structure PcI where
 arc : Bool
 index : Int
 back : Bool
/-- A sketch, whatever its fields are. -/
structure SkI where
 points : List PtI
 circles : List RdI
 segs : List SgI
 arcs : List ArI
 chains : List (List PcI)
 cons : List CI
def PtR (w : World) (cs : List Value) (p : PtI) : Prop := ∃ u v u' v', cs = [.bool p.x.num.neg, u, .bool p.x.den.neg, v, .bool p.y.num.neg, u', .bool p.y.den.neg, v'] ∧ Words w u p.x.num.mag ∧ Words w v p.x.den.mag ∧ Words w u' p.y.num.mag ∧ Words w v' p.y.den.mag
theorem PtR.stable : Stable PtR := fun w w' cs p hx => by
 rintro ⟨u, v, u', v', h, h1, h2, h3, h4⟩
 exact ⟨u, v, u', v', h, h1.ext hx, h2.ext hx, h3.ext hx, h4.ext hx⟩
def RdR (w : World) (cs : List Value) (p : RdI) : Prop := ∃ u v, cs = [.int .i64 p.center, .bool p.radius.num.neg, u, .bool p.radius.den.neg, v] ∧ Words w u p.radius.num.mag ∧ Words w v p.radius.den.mag
theorem RdR.stable : Stable RdR := fun w w' cs p hx => by
 rintro ⟨u, v, h, h1, h2⟩
 exact ⟨u, v, h, h1.ext hx, h2.ext hx⟩
def SgR (_ : World) (cs : List Value) (p : SgI) : Prop := cs = [.int .i64 p.a, .int .i64 p.b]
theorem SgR.stable : Stable SgR := fun _ _ _ _ _ h => h
def ArR (_ : World) (cs : List Value) (p : ArI) : Prop := cs = [.int .i64 p.circle, .int .i64 p.a, .int .i64 p.b, .bool p.cw]
theorem ArR.stable : Stable ArR := fun _ _ _ _ _ h => h
def PcR (_ : World) (cs : List Value) (p : PcI) : Prop := cs = [.bool p.arc, .int .i64 p.index, .bool p.back]
theorem PcR.stable : Stable PcR := fun _ _ _ _ _ h => h
def ChR (w : World) (cs : List Value) (c : List PcI) : Prop := ∃ v, cs = [v] ∧ ArrAt 3 PcR w v c
theorem ChR.stable : Stable ChR := fun w w' cs p hx => by
 rintro ⟨v, h, h1⟩
 exact ⟨v, h, h1.ext PcR.stable hx⟩
/-- A sketch's six slices. -/
structure SkAt (K : Nat) (w : World) (v0 v1 v2 v3 v4 v5 : Value) (s : SkI) : Prop where
 points : ArrAt 8 PtR w v0 s.points
 circles : ArrAt 5 RdR w v1 s.circles
 segs : ArrAt 2 SgR w v2 s.segs
 arcs : ArrAt 4 ArR w v3 s.arcs
 chains : ArrAt 1 ChR w v4 s.chains
 cons : ArrAt 5 (ConR K) w v5 s.cons
theorem SkAt.ext {K : Nat} {w w' : World} {v0 v1 v2 v3 v4 v5 : Value} {s : SkI} (h : SkAt K w v0 v1 v2 v3 v4 v5 s) (hx : Ext w w') : SkAt K w' v0 v1 v2 v3 v4 v5 s :=
 ⟨h.points.ext PtR.stable hx, h.circles.ext RdR.stable hx, h.segs.ext SgR.stable hx, h.arcs.ext ArR.stable hx, h.chains.ext ChR.stable hx, h.cons.ext (ConR.stable K) hx⟩
theorem CellsAt.six {w : World} {g : Nat} {a b c d e f : Value} (k : CellsAt w g [a, b, c, d, e, f]) :
  w.cell? ⟨g, 0, none⟩ = some a ∧ w.cell? ⟨g, 1, none⟩ = some b ∧ w.cell? ⟨g, 2, none⟩ = some c ∧ w.cell? ⟨g, 3, none⟩ = some d ∧ w.cell? ⟨g, 4, none⟩ = some e ∧ w.cell? ⟨g, 5, none⟩ = some f :=
 ⟨k.2 0 _ rfl, k.2 1 _ rfl, k.2 2 _ rfl, k.2 3 _ rfl, k.2 4 _ rfl, k.2 5 _ rfl⟩
end Go.Proofs.YtmddjbmelajadaaGreatDoor
namespace Go.Proofs.YtmddjbmelajadaaGreatDoor
open Go Go.RowKit
end Go.Proofs.YtmddjbmelajadaaGreatDoor
namespace Go.Proofs.YtmddjbmelajadaaGreatDoor
open Go Go.RowKit
theorem cell_set_off {w : World} {g i j : Nat} {u : Value} (h : i ≠ j) : (w.setCell ⟨g, i, none⟩ u).cell? ⟨g, j, none⟩ = w.cell? ⟨g, j, none⟩ := by
 rw [World.cell?_setCell_other]
 intro e; injection e with _ e2 _; exact h e2
end Go.Proofs.YtmddjbmelajadaaGreatDoor
namespace Go.Proofs.YtmddjbmelajadaaGreatDoor
open Go Go.RowKit
end Go.Proofs.YtmddjbmelajadaaGreatDoor
namespace Go.Proofs.YtmddjbmelajadaaGreatDoor
open Go Go.RowKit
theorem ownsRow_ext {w w' : World} {base e size n : Nat} {v : Value} {xs : List Value} (h : w.ownsRow base e size v n xs) (hx : Ext w w') : w'.ownsRow base e size v n xs := by
 refine ⟨h.1, ?_⟩
 rcases h.2 with h1 | ⟨g, cap, cur, h1, h2, h3, h4⟩
 ·exact .inl h1
 ·have hlt : g < w.heap.size := by
   rcases Nat.lt_or_ge g w.heap.size with hlt | hge
   ·exact hlt
   ·rw [Array.getElem?_eq_none hge] at h3; cases h3
  exact .inr ⟨g, cap, cur, h1, h2, (hx.block g hlt).trans h3, h4⟩
theorem ownsRow_block {w : World} {base e size n : Nat} {v : Value} {xs : List Value} (h : w.ownsRow base e size v n xs) : ∀ r, v.ownBlock = some r → base ≤ r := by
 intro r hr
 rcases h.2 with ⟨h1, _⟩ | ⟨g, cap, cur, h1, h2, _⟩
 ·rw [h1] at hr; cases hr
 ·rw [h1] at hr; cases hr; exact h2
theorem news_new (w : World) (cs : List Value) (T : TypeId) : ∀ j u, cs[j]? = some u → (w.alloc (.cells cs.toArray T)).cell? (Addr.add ⟨w.heap.size, 0, none⟩ j) = some u := by
 intro j u hj
 rw [Addr.add_lit, Nat.zero_add]
 exact (CellsAt.new w cs T).2 j u hj
theorem ext_grown {w1 X w4 : World} {row : Option Nat} (hg : X.grownBy w4 row) (h : Ext w1 X) (hr : ∀ r, row = some r → w1.heap.size ≤ r) : Ext w1 w4 := Below.grown h hg h.size hr
end Go.Proofs.YtmddjbmelajadaaGreatDoor
namespace Go.Proofs.YtmddjbmelajadaaGreatDoor
open Go Go.RowKit
/-- What is asked of a function that is handed to the library. -/
def PredX {α : Type} (sz g : Nat) (lb : Array Value) (mk : List Value → Value) (R : World → List Value → α → Prop) (p : α → Bool) (xs : List α) (w : World) : Prop :=
 ∀ (W : World) (cs : List Value) (x : α), x ∈ xs → Ext w W → cs.length = sz → R W cs x → Calls Tryz.prog g (#[mk cs] ++ lb) W fun e w' => e = .returned (.bool (p x)) ∧ Ext W w'
theorem PredX.ext {α : Type} {sz g : Nat} {lb : Array Value} {mk : List Value → Value} {R : World → List Value → α → Prop} {p : α → Bool} {xs : List α} {w w' : World} (h : PredX sz g lb mk R p xs w) (hx : Ext w w') : PredX sz g lb mk R p xs w' :=
 fun W cs x hm hW hl hR => h W cs x hm (Ext.trans hx hW) hl hR
def IdxRes (b : Bool) (w : World) (e : Ending) (w' : World) : Prop := ∃ r : Int, e = .returned (.int .i64 r) ∧ decide (0 ≤ r) = b ∧ Ext w w'
def aggV (cs : List Value) : Value := .agg cs.toArray
theorem not_any_not {α : Type} (p : α → Bool) (xs : List α) : (!xs.any fun x => !p x) = xs.all p := by
 induction xs with
 | nil => rfl
 | cons a l ih => simp only [List.any_cons, List.all_cons, Bool.not_or, ih, Bool.not_not]
end Go.Proofs.YtmddjbmelajadaaGreatDoor
namespace Go.Proofs.YtmddjbmelajadaaGreatDoor
open Go Go.RowKit
end Go.Proofs.YtmddjbmelajadaaGreatDoor
namespace Go.Proofs.YtmddjbmelajadaaGreatDoor
open Go Go.RowKit
theorem mem_drop_step {xs : List Int} {x : Int} {i : Nat} (h : i < xs.length) : decide (x ∈ xs.drop i) = (decide (x = xs[i]) || decide (x ∈ xs.drop (i + 1))) := by
 rw [List.drop_eq_getElem_cons h, decide_eq_decide.2 List.mem_cons, Bool.decide_or]
theorem infoInt : (Tryz.prog.info? 3).map (fun i => (i.zero, i.size, i.bytes)) = some (some (.int .i64 0), 1, 8) := by kernel_rfl
/-- The cells of a list of numbers. -/
def intVs (l : List Int) : List Value := l.map fun x => Value.int .i64 x
end Go.Proofs.YtmddjbmelajadaaGreatDoor
