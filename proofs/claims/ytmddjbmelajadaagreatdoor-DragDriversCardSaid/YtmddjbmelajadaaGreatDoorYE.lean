/- Contracts: quo, FromInt, Mul of the reference's layer 2. -/
import Derived.Test.YtmddjbmelajadaaGreatDoorYD
import Derived.Test.YtmddjbmelajadaaGreatDoorYC
import Derived.Laws.BytesArg
import Derived.Deep.DeepCutAuto
namespace Go.Proofs.YtmddjbmelajadaaGreatDoor
open Go Go.RowKit
theorem mixed : Tryz.prog.follows .mixedOrders = true := by kernel_rfl
end Go.Proofs.YtmddjbmelajadaaGreatDoor
namespace Go.Proofs.YtmddjbmelajadaaGreatDoor
open Go Go.RowKit
/-- A box that holds a rational number. -/
def BoxQ (w : World) (g : Nat) (s : Bool) (u : Value) (t : Bool) (v : Value) : Prop :=
 w.cell? ⟨g, 0, none⟩ = some (.bool s) ∧ w.cell? ⟨g, 1, none⟩ = some u ∧ w.cell? ⟨g, 2, none⟩ = some (.bool t) ∧ w.cell? ⟨g, 3, none⟩ = some v ∧
 w.frozen? ⟨g, 0, none⟩ = false ∧ w.frozen? ⟨g, 1, none⟩ = false ∧ w.frozen? ⟨g, 2, none⟩ = false ∧ w.frozen? ⟨g, 3, none⟩ = false ∧ g < w.heap.size ∧ NoWord w g
theorem BoxQ.ext {w w' : World} {g : Nat} {s t : Bool} {u v : Value} (h : BoxQ w g s u t v) (hx : Ext w w') : BoxQ w' g s u t v := by
 obtain ⟨h0, h1, h2, h3, f0, f1, f2, f3, h4, h5⟩ := h
 exact ⟨(hx.cell (p := ⟨g, 0, none⟩) h4).trans h0, (hx.cell (p := ⟨g, 1, none⟩) h4).trans h1, (hx.cell (p := ⟨g, 2, none⟩) h4).trans h2, (hx.cell (p := ⟨g, 3, none⟩) h4).trans h3,
  (Below.frozen hx (p := ⟨g, 0, none⟩) h4).trans f0, (Below.frozen hx (p := ⟨g, 1, none⟩) h4).trans f1, (Below.frozen hx (p := ⟨g, 2, none⟩) h4).trans f2, (Below.frozen hx (p := ⟨g, 3, none⟩) h4).trans f3, Nat.lt_of_lt_of_le h4 hx.size, h5.ext h4 hx⟩
theorem BoxQ.new (w : World) (s t : Bool) (u v : Value) (T : TypeId) (hu : ∀ n, u ≠ .int .u32 n) (hv : ∀ n, v ≠ .int .u32 n) : BoxQ (w.alloc (.cells #[.bool s, u, .bool t, v] T)) w.heap.size s u t v := by
 refine ⟨by simp [go_sem], by simp [go_sem], by simp [go_sem], by simp [go_sem], by simp [go_sem], by simp [go_sem], by simp [go_sem], by simp [go_sem], by simp, NoWord.new _ _ _ ?_⟩
 intro x hx n
 simp only [List.mem_toArray, List.mem_cons, List.not_mem_nil, or_false] at hx
 rcases hx with rfl | rfl | rfl | rfl
 ·simp
 ·exact hu n
 ·simp
 ·exact hv n
def Boxes3Q (w : World) (g : Nat) (u v x y : Value) : Prop := BoxQ w g false u false v ∧ BoxQ w (g + 1) false x false y ∧ BoxQ w (g + 1 + 1) false (.slice none 0 0) false (.slice none 0 0)
theorem Boxes3Q.ext {w w' : World} {g : Nat} {u v x y : Value} (h : Boxes3Q w g u v x y) (hx : Ext w w') : Boxes3Q w' g u v x y := ⟨h.1.ext hx, h.2.1.ext hx, h.2.2.ext hx⟩
theorem boxes3q (w : World) (A A' B B' : Option Addr) (n n' c c' m m' k k' : Nat) :
  Boxes3Q (((w.alloc (.cells #[.bool false, .slice A n c, .bool false, .slice A' n' c'] 64)).alloc (.cells #[.bool false, .slice B m k, .bool false, .slice B' m' k'] 64)).alloc (.cells #[.bool false, .slice none 0 0, .bool false, .slice none 0 0] 64)) w.heap.size (.slice A n c) (.slice A' n' c') (.slice B m k) (.slice B' m' k') := by
 refine ⟨?_, ?_, ?_⟩
 ·exact (BoxQ.new w false false _ _ _ (by simp) (by simp)).ext ((Ext.alloc _ _).trans (Ext.alloc _ _))
 ·have := (BoxQ.new (w.alloc (.cells #[.bool false, .slice A n c, .bool false, .slice A' n' c'] 64)) false false (.slice B m k) (.slice B' m' k') 64 (by simp) (by simp)).ext (Ext.alloc _ (.cells #[.bool false, .slice none 0 0, .bool false, .slice none 0 0] 64))
  simpa using this
 ·have := BoxQ.new ((w.alloc (.cells #[.bool false, .slice A n c, .bool false, .slice A' n' c'] 64)).alloc (.cells #[.bool false, .slice B m k, .bool false, .slice B' m' k'] 64)) false false (.slice none 0 0) (.slice none 0 0) 64 (by simp) (by simp)
  simpa using this
end Go.Proofs.YtmddjbmelajadaaGreatDoor
namespace Go.Proofs.YtmddjbmelajadaaGreatDoor
open Go Go.RowKit
/-- The number of decimal digits, none for zero. -/
def ndig (n : Nat) : Nat := if h : n = 0 then 0 else ndig (n / 10) + 1
termination_by n
decreasing_by omega
theorem ndig_zero : ndig 0 = 0 := by rw [ndig]; simp
theorem ndig_pos {n : Nat} (h : n ≠ 0) : ndig n = ndig (n / 10) + 1 := by rw [ndig]; simp [h]
theorem bytes_empty (s : ByteArray) : s.toList.isEmpty = decide (s.size = 0) := by
 rw [ByteArray.toList_eq]
 have h : s.size = s.data.toList.length := by rw [Array.length_toList]; rfl
 rw [h]
 cases s.data.toList with
 | nil => rfl
 | cons x l => simp
end Go.Proofs.YtmddjbmelajadaaGreatDoor
namespace Go.Proofs.YtmddjbmelajadaaGreatDoor
open Go Go.RowKit
def decLen (n p : Nat) : Nat := max (max 1 (ndig n)) (p + 1) + (if p = 0 then 0 else 1)
def decFrom : Nat → Nat → Nat → Nat → Bool
 | 0, _, _, _ => false
 | r + 1, p, n, d => if d = 1 then decide (decLen n p ≤ 40) else decFrom r (p + 1) (n * (10 / Nat.gcd 10 d)) (d / Nat.gcd 10 d)
def QI.dec (q : QI) : Bool := q.ok && decide (0 ≤ q.num.sgn) && decFrom 41 0 (val q.num.mag) (val q.den.mag)
theorem ndig_le {n k : Nat} (h : n < 10 ^ k) : ndig n ≤ k := by
 induction k generalizing n with
 | zero => have : n = 0 := by simpa using h
           subst this; rw [ndig_zero]; omega
 | succ k ih =>
  by_cases h0 : n = 0
  ·subst h0; rw [ndig_zero]; omega
  ·rw [ndig_pos h0]
   have : n / 10 < 10 ^ k := by rw [Nat.pow_succ] at h; omega
   have := ih this; omega
theorem ndig_limbs (n : Nat) : ndig n ≤ 10 * (limbs n).length := by
 apply ndig_le
 have h1 := val_lt (limb_limbs n)
 rw [val_limbs] at h1
 calc n < 4294967296 ^ (limbs n).length := h1
  _ ≤ (10 ^ 10) ^ (limbs n).length := Nat.pow_le_pow_left (by decide) _
  _ = 10 ^ (10 * (limbs n).length) := by rw [Nat.pow_mul]
theorem limbs_mul_small (n k : Nat) (hk : k < 4294967296) : (limbs (n * k)).length ≤ (limbs n).length + 1 := by
 apply limbs_length_le
 have h1 := val_lt (limb_limbs n)
 rw [val_limbs] at h1
 rw [Nat.pow_succ]
 exact Nat.mul_lt_mul'' h1 hk
theorem ten_div (d : Nat) : 0 < 10 / Nat.gcd 10 d ∧ 10 / Nat.gcd 10 d ≤ 10 := by
 have h1 := Nat.gcd_le_left d (show 0 < 10 by omega)
 have h2 := Nat.gcd_pos_of_pos_left d (show 0 < 10 by omega)
 exact ⟨Nat.div_pos h1 h2, Nat.div_le_self _ _⟩
theorem den_div {d : Nat} (hd : 0 < d) : 0 < d / Nat.gcd 10 d ∧ d / Nat.gcd 10 d ≤ d :=
 ⟨Nat.div_pos (Nat.gcd_le_right 10 hd) (Nat.gcd_pos_of_pos_right 10 hd), Nat.div_le_self _ _⟩
end Go.Proofs.YtmddjbmelajadaaGreatDoor
namespace Go.Proofs.YtmddjbmelajadaaGreatDoor
open Go Go.RowKit
/-- A store of a rational number into a box. -/
def putQ (w : World) (g : Nat) (s : Bool) (u : Value) (t : Bool) (v : Value) : World := (((w.setCell ⟨g, 0, none⟩ (.bool s)).setCell ⟨g, 1, none⟩ u).setCell ⟨g, 2, none⟩ (.bool t)).setCell ⟨g, 3, none⟩ v
theorem cell_putQ {w : World} {g b o : Nat} (s : Bool) (u : Value) (t : Bool) (v : Value) (h : b ≠ g) : (putQ w g s u t v).cell? ⟨b, o, none⟩ = w.cell? ⟨b, o, none⟩ := by
 have e : ∀ (w : World) i x, (w.setCell ⟨g, i, none⟩ x).cell? ⟨b, o, none⟩ = w.cell? ⟨b, o, none⟩ := fun w i x => World.cell?_setCell_other _ _ _ _ (by intro e; injection e with e1 _ _; exact h e1.symm)
 unfold putQ
 rw [e, e, e, e]
theorem BoxQ.put {w : World} {g : Nat} {s t : Bool} {u v : Value} (h : BoxQ w g s u t v) (s' t' : Bool) {u' v' : Value} (hu : ∀ n, u' ≠ .int .u32 n) (hv : ∀ n, v' ≠ .int .u32 n) : BoxQ (putQ w g s' u' t' v') g s' u' t' v' := by
 obtain ⟨h0, h1, h2, h3, f0, f1, f2, f3, h4, h5⟩ := h
 unfold putQ
 refine ⟨?_, ?_, ?_, ?_, ?_, ?_, ?_, ?_, ?_, ?_⟩
 ·rw [World.cell?_setCell_other _ _ _ _ (by simp), World.cell?_setCell_other _ _ _ _ (by simp), World.cell?_setCell_other _ _ _ _ (by simp)]
  exact World.cell?_setCell_same _ _ _ h0
 ·rw [World.cell?_setCell_other _ _ _ _ (by simp), World.cell?_setCell_other _ _ _ _ (by simp)]
  exact World.cell?_setCell_same _ _ _ ((World.cell?_setCell_other _ _ _ _ (by simp)).trans h1)
 ·rw [World.cell?_setCell_other _ _ _ _ (by simp)]
  exact World.cell?_setCell_same _ _ _ ((World.cell?_setCell_other _ _ _ _ (by simp)).trans ((World.cell?_setCell_other _ _ _ _ (by simp)).trans h2))
 ·exact World.cell?_setCell_same _ _ _ ((World.cell?_setCell_other _ _ _ _ (by simp)).trans ((World.cell?_setCell_other _ _ _ _ (by simp)).trans ((World.cell?_setCell_other _ _ _ _ (by simp)).trans h3)))
 ·simpa [go_sem] using f0
 ·simpa [go_sem] using f1
 ·simpa [go_sem] using f2
 ·simpa [go_sem] using f3
 ·simpa [World.setCell] using h4
 ·exact (((h5.set_ 0 (by simp)).set_ 1 hu).set_ 2 (by simp)).set_ 3 hv
theorem BoxQ.farQ {w : World} {g h : Nat} {s t : Bool} {u v : Value} (hb : BoxQ w g s u t v) (hne : g ≠ h) (s' t' : Bool) (x y : Value) : BoxQ (putQ w h s' x t' y) g s u t v := by
 obtain ⟨h0, h1, h2, h3, f0, f1, f2, f3, h4, h5⟩ := hb
 refine ⟨(cell_putQ _ _ _ _ hne).trans h0, (cell_putQ _ _ _ _ hne).trans h1, (cell_putQ _ _ _ _ hne).trans h2, (cell_putQ _ _ _ _ hne).trans h3, ?_, ?_, ?_, ?_, ?_, fun j n => by rw [cell_putQ _ _ _ _ hne]; exact h5 j n⟩
 ·simpa [putQ, go_sem] using f0
 ·simpa [putQ, go_sem] using f1
 ·simpa [putQ, go_sem] using f2
 ·simpa [putQ, go_sem] using f3
 ·simpa [putQ, World.setCell] using h4
theorem BoxI.farQ {w : World} {g h : Nat} {s : Bool} {u : Value} (hb : BoxI w g s u) (hne : g ≠ h) (s' t' : Bool) (x y : Value) : BoxI (putQ w h s' x t' y) g s u := by
 obtain ⟨h0, h1, f0, f1, h4, h5⟩ := hb
 refine ⟨(cell_putQ _ _ _ _ hne).trans h0, (cell_putQ _ _ _ _ hne).trans h1, ?_, ?_, ?_, fun j n => by rw [cell_putQ _ _ _ _ hne]; exact h5 j n⟩
 ·simpa [putQ, go_sem] using f0
 ·simpa [putQ, go_sem] using f1
 ·simpa [putQ, World.setCell] using h4
theorem Words.putQ {w : World} {g : Nat} {s t : Bool} {u v x : Value} {xs : List Nat} (h : Words w x xs) (hb : BoxQ w g s u t v) (s' t' : Bool) (u' v' : Value) (hu : ∀ n, u' ≠ .int .u32 n) : Words (putQ w g s' u' t' v') x xs := by
 obtain ⟨_, _, _, _, _, _, _, _, _, hn⟩ := hb
 exact (((h.box hn _ _).box (hn.set_ _ (by simp)) _ _).box ((hn.set_ _ (by simp)).set_ _ hu) _ _).box (((hn.set_ _ (by simp)).set_ _ hu).set_ _ (by simp)) _ _
theorem Ext.putQ {w w' : World} (h : Ext w w') {g : Nat} (hg : w.heap.size ≤ g) (s t : Bool) (u v : Value) : Ext w (putQ w' g s u t v) :=
 (((h.pset (by simpa using hg) _).pset (by simpa using hg) _).pset (by simpa using hg) _).pset (by simpa using hg) _
theorem dec_ok {n d : Nat} (hg : Nat.gcd n d = 1) (hd : 0 < d) : QI.ok ⟨⟨false, limbs n⟩, ⟨false, limbs d⟩⟩ = true := by
 have h1 : 0 < (limbs d).length := by rw [limbs_pos (by omega)]; simp
 have h2 : limbs d ≠ [] := by intro e; rw [e] at h1; simp at h1
 simp [QI.ok, ZI.ok, ZI.sgn, trimL_limbs, val_limbs, hg, sgnW, h2]
theorem dec_sgn (n : Nat) : ¬ ((⟨false, limbs n⟩ : ZI).sgn < 0) := by
 simp only [ZI.sgn, sgnW]
 split
 ·omega
 ·split
  ·rename_i h; cases h
  ·omega
end Go.Proofs.YtmddjbmelajadaaGreatDoor
namespace Go.Proofs.YtmddjbmelajadaaGreatDoor
open Go Go.RowKit
theorem trimL_of_length {xs : List Nat} (h : (trimL xs).length = xs.length) (hL : Limb xs) : limbs (val xs) = xs := by
 apply limbs_val_of_trim hL
 rw [trimL_prefix, h, List.take_length]
theorem dec_parts {s t : Bool} {xs ys : List Nat} (hok : QI.ok ⟨⟨s, xs⟩, ⟨t, ys⟩⟩ = true) (hL : Limb xs) (hL' : Limb ys) : limbs (val xs) = xs ∧ limbs (val ys) = ys ∧ t = false ∧ 0 < val ys ∧ Nat.gcd (val xs) (val ys) = 1 ∧ ((⟨s, xs⟩ : ZI).sgn < 0 ∨ s = false) := by
 simp only [QI.ok, ZI.ok, ZI.sgn, Bool.and_eq_true, decide_eq_true_eq, Bool.or_eq_true, Bool.not_eq_true'] at hok ⊢
 obtain ⟨⟨⟨⟨a1, a2⟩, ⟨b1, b2⟩⟩, c0⟩, d1⟩ := hok
 have c1 : 0 < sgnW t (trimL ys).length := of_decide_eq_true c0
 have e1 := trimL_of_length a1 hL
 have e2 := trimL_of_length b1 hL'
 have c2 : ¬ ((trimL ys).length = 0) ∧ t = false := by
  by_cases h1 : (trimL ys).length = 0
  ·rw [sgnW, if_pos h1] at c1; exact absurd c1 (by decide)
  ·refine ⟨h1, ?_⟩
   cases t with
   | false => rfl
   | true => rw [sgnW, if_neg h1, if_pos rfl] at c1; exact absurd c1 (by decide)
 refine ⟨e1, e2, c2.2, ?_, d1, ?_⟩
 ·rcases Nat.eq_zero_or_pos (val ys) with h0 | h0
  ·rw [h0, limbs_zero] at e2
   rw [← e2] at c2
   simp [trimL] at c2
  ·exact h0
 ·cases s with
  | false => exact .inr rfl
  | true =>
   left
   rw [a1]
   have h0 : ¬ xs.length = 0 := by
    rcases a2 with h | h
    ·cases h
    ·omega
   rw [sgnW, if_neg h0, if_pos rfl]; decide
end Go.Proofs.YtmddjbmelajadaaGreatDoor
namespace Go.Proofs.YtmddjbmelajadaaGreatDoor
open Go Go.RowKit
def isLetter (z : Int) : Bool := decide (97 ≤ z) && decide (z ≤ 122) || decide (65 ≤ z) && decide (z ≤ 90)
def isDigit (z : Int) : Bool := decide (48 ≤ z) && decide (z ≤ 57)
def isWord (z : Int) : Bool := isLetter z || isDigit z || decide (z = 95)
def byteAt (s : ByteArray) (i : Nat) : Int := if h : i < s.size then (s[i].toNat : Int) else 0
theorem byteAt_eq {s : ByteArray} {i : Nat} (h : i < s.size) : (s[i].toNat : Int) = byteAt s i := by simp [byteAt, h]
/-- Where the letters, digits and underscores from a place on end. -/
def wordEnd (s : ByteArray) (i : Nat) : Nat := if h : i < s.size then if isWord (byteAt s i) then wordEnd s (i + 1) else i else i
termination_by s.size - i
def isName (s : ByteArray) : Bool := decide (s.size ≠ 0) && decide (s.size ≤ 24) && isLetter (byteAt s 0) && decide (wordEnd s 0 = s.size)
end Go.Proofs.YtmddjbmelajadaaGreatDoor
namespace Go.Proofs.YtmddjbmelajadaaGreatDoor
open Go Go.RowKit
/-- An expression, whatever its fields are. -/
inductive EI where
 | mk (op : Int) (val : QI) (name : ByteArray) (args : List EI)
def EI.op : EI → Int | .mk o _ _ _ => o
def EI.value : EI → QI | .mk _ q _ _ => q
def EI.name : EI → ByteArray | .mk _ _ s _ => s
def EI.args : EI → List EI | .mk _ _ _ l => l
/-- How an expression of at most some depth lies in memory. -/
def ExprR : Nat → World → List Value → EI → Prop
 | 0, _, _, _ => False
 | k + 1, w, cs, e => ∃ u v sl, cs = [.int .i64 e.op, .bool e.value.num.neg, u, .bool e.value.den.neg, v, .string e.name, sl] ∧ Words w u e.value.num.mag ∧ Words w v e.value.den.mag ∧ SliceAt 7 (ExprR k) w sl e.args
theorem ExprR.stable : ∀ k, Stable (ExprR k)
 | 0 => fun _ _ _ _ _ h => h
 | k + 1 => fun w w' cs e hx => by
  rintro ⟨u, v, sl, h1, h2, h3, h4⟩
  exact ⟨u, v, sl, h1, h2.ext hx, h3.ext hx, h4.ext (ExprR.stable k) hx⟩
/-- A block's first cells. -/
def CellsAt (w : World) (g : Nat) (cs : List Value) : Prop := g < w.heap.size ∧ ∀ i v, cs[i]? = some v → w.cell? ⟨g, i, none⟩ = some v
theorem CellsAt.ext {w w' : World} {g : Nat} {cs : List Value} (h : CellsAt w g cs) (hx : Ext w w') : CellsAt w' g cs :=
 ⟨Nat.lt_of_lt_of_le h.1 hx.size, fun i v hi => (hx.cell (p := ⟨g, i, none⟩) h.1).trans (h.2 i v hi)⟩
theorem CellsAt.new (w : World) (cs : List Value) (T : TypeId) : CellsAt (w.alloc (.cells cs.toArray T)) w.heap.size cs :=
 ⟨by simp, fun i v hi => by simp [go_sem, hi]⟩
theorem CellsAt.seven {w : World} {g : Nat} {a b c d e f h : Value} (k : CellsAt w g [a, b, c, d, e, f, h]) :
  w.cell? ⟨g, 0, none⟩ = some a ∧ w.cell? ⟨g, 1, none⟩ = some b ∧ w.cell? ⟨g, 2, none⟩ = some c ∧ w.cell? ⟨g, 3, none⟩ = some d ∧ w.cell? ⟨g, 4, none⟩ = some e ∧ w.cell? ⟨g, 5, none⟩ = some f ∧ w.cell? ⟨g, 6, none⟩ = some h :=
 ⟨k.2 0 _ rfl, k.2 1 _ rfl, k.2 2 _ rfl, k.2 3 _ rfl, k.2 4 _ rfl, k.2 5 _ rfl, k.2 6 _ rfl⟩
def zeroQ (q : QI) : Bool := !q.num.neg && !q.den.neg && decide (q.num.mag.length = 0) && decide (q.den.mag.length = 0)
def shapeOf (op : Int) (q : QI) (s : ByteArray) (n : Nat) : Bool :=
 if op = 1 then q.dec && (decide (s.size = 0) || isName s) && decide (n = 0)
 else if op = 2 then zeroQ q && isName s && decide (n = 0)
 else if op = 3 then zeroQ q && decide (s.size = 0) && decide (n = 1)
 else if op = 4 ∨ op = 5 ∨ op = 6 ∨ op = 7 then zeroQ q && decide (s.size = 0) && decide (n = 2)
 else false
end Go.Proofs.YtmddjbmelajadaaGreatDoor
namespace Go.Proofs.YtmddjbmelajadaaGreatDoor
open Go Go.RowKit
/-- Short numbers and names, to some depth. -/
def smallE : Nat → EI → Prop
 | 0, _ => False
 | k + 1, e => e.value.num.mag.length ≤ 1000 ∧ e.value.den.mag.length ≤ 1000 ∧ e.name.size ≤ 1000000 ∧ e.args.length ≤ 1000 ∧ ∀ a ∈ e.args, smallE k a
def formed : Nat → EI → Bool
 | 0, _ => false
 | k + 1, e => shapeOf e.op e.value e.name e.args.length && e.args.all (formed k)
end Go.Proofs.YtmddjbmelajadaaGreatDoor
namespace Go.Proofs.YtmddjbmelajadaaGreatDoor
open Go Go.RowKit
def depthE : Nat → EI → Nat
 | 0, _ => 0
 | k + 1, e => e.args.foldl (fun n a => max n (depthE k a)) 0 + 1
theorem foldl_max_le {α : Type} (f : α → Nat) (k : Nat) : ∀ (l : List α) (n : Nat), n ≤ k → (∀ a, f a ≤ k) → l.foldl (fun n a => max n (f a)) n ≤ k
 | [], _, hn, _ => hn
 | a :: l, _, hn, h => foldl_max_le f k l _ (Nat.max_le.2 ⟨hn, h a⟩) h
theorem depthE_le : ∀ k e, depthE k e ≤ k
 | 0, _ => Nat.le_refl _
 | k + 1, e => Nat.succ_le_succ (foldl_max_le (depthE k) k e.args 0 (Nat.zero_le _) (depthE_le k))
/-- The error of an expression. -/
def errE (k : Nat) (e : EI) : Int := if formed k e then if depthE k e ≤ 40 then 0 else 3 else 1
end Go.Proofs.YtmddjbmelajadaaGreatDoor
