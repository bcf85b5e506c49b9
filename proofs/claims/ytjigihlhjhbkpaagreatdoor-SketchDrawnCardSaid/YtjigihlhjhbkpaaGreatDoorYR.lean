/- Contracts of the reference's layers 6 to 8 over the tower without radicands: Tower, right, Formed, Reduced, sign, Fast. -/
import Derived.Test.YtjigihlhjhbkpaaGreatDoorYA
import Derived.Test.YtjigihlhjhbkpaaGreatDoorYJ
import Derived.Test.YtjigihlhjhbkpaaGreatDoorYI
import Derived.Test.YtjigihlhjhbkpaaGreatDoorYH
import Derived.Test.YtjigihlhjhbkpaaGreatDoorYK
import Derived.Deep.AppendLies
namespace Go.Proofs.YtjigihlhjhbkpaaGreatDoor
open Go Go.RowKit
theorem arr_head1 {α : Type} {sz : Nat} {R : World → List Value → α → Prop} {w : World} {A : Option Addr} {n c : Nat} {x : α} {l : List α} (h : ArrAt sz R w (.slice A n c) (x :: l)) :
  ∃ b off cs, A = some ⟨b, off, none⟩ ∧ b < w.heap.size ∧ cs.length = sz ∧ (∀ j u, cs[j]? = some u → w.cell? ⟨b, off + j, none⟩ = some u) ∧ R w cs x := by
 obtain ⟨A', c', hv, -, -, hc⟩ := h
 obtain ⟨rfl, rfl, rfl⟩ : A = A' ∧ n = (x :: l).length ∧ c = c' := by injection hv with h1 h2 h3; exact ⟨h1, h2, h3⟩
 obtain ⟨b, off, rfl, hb, hel⟩ := hc (by simp)
 obtain ⟨cs, h1, h2, h3⟩ := hel 0 x rfl
 exact ⟨b, off, cs, rfl, hb, h1, fun j u hj => by have := h2 j u hj; rwa [Nat.zero_mul, Nat.zero_add] at this, h3⟩
/-- The four cells of a rational number at an address. -/
def Q4 (w : World) (b off : Nat) (s : Bool) (u : Value) (t : Bool) (v : Value) : Prop := b < w.heap.size ∧ w.cell? ⟨b, off, none⟩ = some (.bool s) ∧ w.cell? ⟨b, off + 1, none⟩ = some u ∧ w.cell? ⟨b, off + 2, none⟩ = some (.bool t) ∧ w.cell? ⟨b, off + 3, none⟩ = some v
theorem Q4.ext {w w' : World} {b off : Nat} {s t : Bool} {u v : Value} (h : Q4 w b off s u t v) (hx : Ext w w') : Q4 w' b off s u t v :=
 ⟨Nat.lt_of_lt_of_le h.1 hx.size, (hx.cell (p := ⟨b, off, none⟩) h.1).trans h.2.1, (hx.cell (p := ⟨b, off + 1, none⟩) h.1).trans h.2.2.1, (hx.cell (p := ⟨b, off + 2, none⟩) h.1).trans h.2.2.2.1, (hx.cell (p := ⟨b, off + 3, none⟩) h.1).trans h.2.2.2.2⟩
theorem Q4.far {w w' : World} {b off : Nat} {s t : Bool} {u v : Value} {row : Option Nat} (h : Q4 w b off s u t v) (hg : w.grownBy w' row) (hne : some b ≠ row) : Q4 w' b off s u t v := by
 have e := hg.block b h.1 hne
 exact ⟨Nat.lt_of_lt_of_le h.1 hg.size, (World.cell?_of_block (a := ⟨b, off, none⟩) e).trans h.2.1, (World.cell?_of_block (a := ⟨b, off + 1, none⟩) e).trans h.2.2.1, (World.cell?_of_block (a := ⟨b, off + 2, none⟩) e).trans h.2.2.2.1, (World.cell?_of_block (a := ⟨b, off + 3, none⟩) e).trans h.2.2.2.2⟩
set_option maxRecDepth 100000 in
set_option maxHeartbeats 1600000 in
theorem ref06_right {b off c : Nat} {q : QI} {u v : Value} {w : World} (h : Q4 w b off q.num.neg u q.den.neg v) (hu : Words w u q.num.mag) (hv : Words w v q.den.mag) (hok : q.ok = true) (hx : q.num.mag.length < 35184372088832) (hy : q.den.mag.length < 35184372088832) :
  Calls Tryz.prog 55 #[.slice (some ⟨b, off, none⟩) 1 c, .int .i64 1] w fun e w' => e = .returned (.bool true) ∧ Ext w w' := by
 have hV := fun w1 (hx1 : Ext w w1) => ref02_Valid (hu.ext hx1) (hv.ext hx1) hx hy
 rw [hok] at hV
 have HV := Lib.hid hV
 have HQ := Lib.hid h
 obtain ⟨B1, k1, rfl, -, -⟩ := hu.form
 obtain ⟨B2, k2, rfl, -, -⟩ := hv.form
 clear h hu hv hV hok hx hy
 generalize q.num.mag.length = n1 at *
 generalize q.den.mag.length = n2 at *
 generalize q.num.neg = s at *
 generalize q.den.neg = t at *
 go_enter Tryz.func55, Tryz.ntmps55
 go_wp2_with fail
 go_loopg [5] 1 (fun gk x wr => ∃ i : Nat, x = .int .i64 (i : Int) ∧ Hid (i + gk = 1) ∧ Ext w wr)
 case atStart => exact ⟨0, rfl, rfl, Ext.refl _⟩
 case round =>
  obtain ⟨i, rfl, HI, hE⟩ := hrel
  obtain ⟨hb, q0, q1, q2, q3⟩ := HQ.out.ext hE
  match gk, HI with
  | 0, HI =>
   obtain rfl : i = 1 := HI.out
   go_wp2_with fail
   go_ret
   exact ⟨rfl, hE⟩
  | 1, HI =>
   obtain rfl : i = 0 := by have := HI.out; omega
   go_wp2_with fail
   refine (HV.out _ hE).mono ?_
   rintro e w1 ⟨rfl, hx1⟩
   go_wp2_with fail
   go_roundg 0
   case measure => omega
   case rel => exact ⟨1, rfl, rfl, hE.trans hx1⟩
  | g + 2, HI => exact absurd HI.out (by omega)
set_option maxRecDepth 100000 in
theorem ref06_Tower (w : World) : Calls Tryz.prog 54 #[.slice none 0 0] w fun e w' => e = .returned (.bool true) ∧ w = w' := by
 go_enter Tryz.func54, Tryz.ntmps54
 go_wp2_with fail
 go_loopg [3] 0 (fun _ x wr => x = .int .i64 0 ∧ w = wr)
 case atStart => exact ⟨rfl, rfl⟩
 case round =>
  obtain ⟨rfl, rfl⟩ := hrel
  go_wp2_with fail
  go_ret
  exact ⟨rfl, rfl⟩
set_option maxRecDepth 100000 in
theorem ref08_Reduced (w : World) : Calls Tryz.prog 20 #[.slice none 0 0] w fun e w' => e = .returned (.bool true) ∧ w = w' := by
 go_enter Tryz.func20, Tryz.ntmps20
 go_wp2_with fail
 go_loopg [3] 0 (fun _ x wr => x = .int .i64 0 ∧ w = wr)
 case atStart => exact ⟨rfl, rfl⟩
 case round =>
  obtain ⟨rfl, rfl⟩ := hrel
  go_wp2_with fail
  go_ret
  exact ⟨rfl, rfl⟩
set_option maxRecDepth 100000 in
theorem ref09_begins (w : World) : Calls Tryz.prog 196 #[.slice none 0 0, .slice none 0 0] w fun e w' => e = .returned (.bool true) ∧ w = w' := by
 go_enter Tryz.func196, Tryz.ntmps196
 go_wp2_with fail
 go_loopg [5] 0 (fun _ x wr => x = .int .i64 0 ∧ w = wr)
 case atStart => exact ⟨rfl, rfl⟩
 case round =>
  obtain ⟨rfl, rfl⟩ := hrel
  go_wp2_with fail
  go_ret
  exact ⟨rfl, rfl⟩
set_option maxRecDepth 100000 in
set_option maxHeartbeats 1600000 in
theorem ref06_Formed {b off c : Nat} {q : QI} {u v : Value} {w : World} (h : Q4 w b off q.num.neg u q.den.neg v) (hu : Words w u q.num.mag) (hv : Words w v q.den.mag) (hok : q.ok = true) (hx : q.num.mag.length < 35184372088832) (hy : q.den.mag.length < 35184372088832) :
  Calls Tryz.prog 19 #[.slice none 0 0, .slice (some ⟨b, off, none⟩) 1 c] w fun e w' => e = .returned (.bool true) ∧ Ext w w' := by
 have HR := Lib.hid (ref06_right (c := c) h hu hv hok hx hy)
 clear h hu hv hok hx hy
 go_enter Tryz.func19, Tryz.ntmps19
 go_wp2_with fail
 refine (ref06_Tower _).mono ?_
 rintro e w1 ⟨rfl, rfl⟩
 go_wp2_with fail
 refine HR.out.mono ?_
 rintro e w1 ⟨rfl, hx1⟩
 go_wp2_with fail
 go_ret
 exact ⟨rfl, hx1⟩
set_option maxRecDepth 100000 in
set_option maxHeartbeats 1600000 in
theorem ref09_Valid {b off c : Nat} {q : QI} {u v : Value} {w : World} (h : Q4 w b off q.num.neg u q.den.neg v) (hu : Words w u q.num.mag) (hv : Words w v q.den.mag) (hok : q.ok = true) (hx : q.num.mag.length < 35184372088832) (hy : q.den.mag.length < 35184372088832) :
  Calls Tryz.prog 10 #[.agg #[.slice none 0 0, .slice (some ⟨b, off, none⟩) 1 c]] w fun e w' => e = .returned (.bool true) ∧ Ext w w' := by
 have HF := Lib.hid (fun w1 (hx1 : Ext w w1) => ref06_Formed (c := c) (h.ext hx1) (hu.ext hx1) (hv.ext hx1) hok hx hy)
 have HBX := Lib.hid (CellsAt.new w [.slice none 0 0, .slice (some ⟨b, off, none⟩) 1 c] 38)
 clear h hu hv hok hx hy
 obtain ⟨y0, y1⟩ : _ ∧ _ := ⟨HBX.out.2 0 _ rfl, HBX.out.2 1 _ rfl⟩
 go_enter Tryz.func10, Tryz.ntmps10
 go_wp2_with fail
 refine (HF.out _ (Ext.alloc _ _)).mono ?_
 rintro e w1 ⟨rfl, hx1⟩
 clear y0 y1
 obtain ⟨y0, y1⟩ : _ ∧ _ := ⟨(HBX.out.ext hx1).2 0 _ rfl, (HBX.out.ext hx1).2 1 _ rfl⟩
 have hlt := (HBX.out.ext hx1).1
 go_wp2_with fail
 refine (ref08_Reduced _).mono ?_
 rintro e w2 ⟨rfl, rfl⟩
 go_wp2_with fail
 go_ret
 exact ⟨rfl, Ext.trans (Ext.alloc _ _) hx1⟩
set_option maxRecDepth 100000 in
set_option maxHeartbeats 1600000 in
theorem ref07_sign {b off c n k : Nat} {s t : Bool} {U V : Option Addr} {lU lV : Nat} {w : World} (h : Q4 w b off s (.slice U n k) t (.slice V lU lV)) (hu : Words w (.slice U n k) (limbs 0)) :
  Calls Tryz.prog 100 #[.slice none 0 0, .slice (some ⟨b, off, none⟩) 1 c] w fun e w' => e = .returned (.int .i64 0) ∧ Ext w w' := by
 have hS := ref02_Sign (q := ⟨⟨s, limbs 0⟩, ⟨t, []⟩⟩) (v' := .slice V lU lV) hu
 have e0 : (⟨⟨s, limbs 0⟩, ⟨t, []⟩⟩ : QI).num.sgn = 0 := by simp [ZI.sgn, sgnW, limbs_zero, trimL]
 rw [e0] at hS
 have HS := Lib.hid hS
 clear hS hu e0
 obtain ⟨hb, q0, q1, q2, q3⟩ := h
 go_enter Tryz.func100, Tryz.ntmps100
 go_wp2_with fail
 refine HS.out.mono ?_
 rintro e w1 ⟨rfl, hx1⟩
 go_wp2_with fail
 go_ret
 exact ⟨rfl, hx1⟩
set_option maxRecDepth 100000 in
theorem ref07_Fast {b off c n k : Nat} {s t : Bool} {U V : Option Addr} {lU lV : Nat} {w : World} (h : Q4 w b off s (.slice U n k) t (.slice V lU lV)) (hu : Words w (.slice U n k) (limbs 0)) :
  Calls Tryz.prog 113 #[.slice none 0 0, .slice (some ⟨b, off, none⟩) 1 c] w fun e w' => e = .returned (.int .i64 0) ∧ Ext w w' := by
 have HS := Lib.hid (ref07_sign (c := c) h hu)
 clear h hu
 go_enter Tryz.func113, Tryz.ntmps113
 go_wp2_with fail
 refine HS.out.mono ?_
 rintro e w1 ⟨rfl, hx1⟩
 go_wp2_with fail
 go_ret
 exact ⟨rfl, hx1⟩
set_option maxRecDepth 100000 in
theorem ref09_Sign {b off c n k : Nat} {s t : Bool} {U V : Option Addr} {lU lV : Nat} {w : World} (h : Q4 w b off s (.slice U n k) t (.slice V lU lV)) (hu : Words w (.slice U n k) (limbs 0)) :
  Calls Tryz.prog 59 #[.agg #[.slice none 0 0, .slice (some ⟨b, off, none⟩) 1 c]] w fun e w' => e = .returned (.int .i64 0) ∧ Ext w w' := by
 have HS := Lib.hid (fun w1 (hx : Ext w w1) => ref07_Fast (c := c) (h.ext hx) (hu.ext hx))
 have HBX := Lib.hid (CellsAt.new w [.slice none 0 0, .slice (some ⟨b, off, none⟩) 1 c] 38)
 clear h hu
 obtain ⟨y0, y1⟩ : _ ∧ _ := ⟨HBX.out.2 0 _ rfl, HBX.out.2 1 _ rfl⟩
 go_enter Tryz.func59, Tryz.ntmps59
 go_wp2_with fail
 refine (HS.out _ (Ext.alloc _ _)).mono ?_
 rintro e w1 ⟨rfl, hx1⟩
 go_wp2_with fail
 go_ret
 exact ⟨rfl, Ext.trans (Ext.alloc _ _) hx1⟩
end Go.Proofs.YtjigihlhjhbkpaaGreatDoor
namespace Go.Proofs.YtjigihlhjhbkpaaGreatDoor
open Go Go.RowKit
theorem inf_Rat : (Tryz.prog.info? 49).map (fun i => (i.zero, i.size, i.bytes)) = some (some (.agg #[.bool false, .slice none 0 0, .bool false, .slice none 0 0]), 4, 64) := by kernel_rfl
theorem own_q4 {w : World} {B g cap : Nat} {s t : Bool} {u v : Value} (h : w.ownsRow B 49 4 (.slice (some ⟨g, 0, none⟩) 1 cap) 1 [.bool s, u, .bool t, v]) (hg : g < w.heap.size) : Q4 w g 0 s u t v :=
 ⟨hg, h.cellAt 0 (by omega), h.cellAt 1 (by omega), h.cellAt 2 (by omega), h.cellAt 3 (by omega)⟩
/-- A list of one rational number, by its cells, in a block from lo on. -/
def Coef1 (lo : Nat) (w : World) (r : Value) (s : Bool) (u : Value) (t : Bool) (v : Value) : Prop := ∃ g c, r = .slice (some ⟨g, 0, none⟩) 1 c ∧ lo ≤ g ∧ Q4 w g 0 s u t v
theorem Coef1.ext {lo : Nat} {w w' : World} {r : Value} {s t : Bool} {u v : Value} (h : Coef1 lo w r s u t v) (hx : Ext w w') : Coef1 lo w' r s u t v := by
 obtain ⟨g, c, e, hl, hq⟩ := h
 exact ⟨g, c, e, hl, hq.ext hx⟩
set_option maxRecDepth 100000 in
set_option maxHeartbeats 3200000 in
theorem ref06_Neg {b off c a d n k m l : Nat} {s : Bool} {U V : Option Addr} {w : World} (h : Q4 w b off s (.slice U n k) false (.slice V m l)) (hu : Words w (.slice U n k) (limbs a)) (hv : Words w (.slice V m l) (limbs d)) :
  Calls Tryz.prog 110 #[.slice none 0 0, .slice (some ⟨b, off, none⟩) 1 c] w (Ret w fun r w' => Coef1 0 w' r (!s && decide (0 < a)) (.slice U n k) false (.slice V m l)) := by
 have HN := Lib.hid (fun w1 (hx : Ext w w1) => ref02_Neg (s := s) (hu.ext hx) (hv.ext hx))
 have HQ := Lib.hid h
 clear h hu hv
 obtain ⟨i0, hi, hz0, hz1, hz2⟩ := info_parts inf_Rat
 generalize (!s && decide (0 < a)) = sg at *
 go_enter Tryz.func110, Tryz.ntmps110
 go_wp2_with fail
 go_loopg [5, 6] 1 (fun gk o x wr => ∃ i : Nat, x = .int .i64 (i : Int) ∧ Hid (i + gk = 1) ∧ Hid (i = 0 → o = .slice none 0 0) ∧ Hid (i = 1 → ∃ g c', o = .slice (some ⟨g, 0, none⟩) 1 c' ∧ Q4 wr g 0 sg (.slice U n k) false (.slice V m l)) ∧ Ext w wr)
 case atStart => exact ⟨0, rfl, rfl, fun _ => rfl, fun h => absurd h (by omega), Ext.refl _⟩
 case round =>
  obtain ⟨i, rfl, HI, HO0, HO1, hE⟩ := hrel
  obtain ⟨hb, q0, q1, q2, q3⟩ := HQ.out.ext hE
  match gk, HI with
  | 0, HI =>
   obtain rfl : i = 1 := HI.out
   obtain ⟨g, c', rfl, hq⟩ := HO1.out rfl
   have HQ4 := Lib.hid hq
   clear hq
   go_wp2_with fail
   go_ret
   exact ⟨_, rfl, ⟨_, _, rfl, Nat.zero_le _, HQ4.out⟩, hE⟩
  | 1, HI =>
   obtain rfl : i = 0 := by have := HI.out; omega
   obtain rfl := HO0.out rfl
   clear HO0 HO1
   go_wp2_with fail
   refine (HN.out _ hE).mono ?_
   rintro e w1 ⟨r, rfl, ⟨rfl, hw1, hw2⟩, hx1⟩
   have hE1 : Ext w w1 := hE.trans hx1
   clear hw1 hw2
   go_wp2_with (at_builtin; refine wpList_append_lies _ rfl _ _ 36 rfl w.heap.size 49 i0 (.agg #[.bool false, .slice none 0 0, .bool false, .slice none 0 0]) 4 64 Tryz.underlying36 hi hz0 hz1 hz2 rfl (by decide) _ 0 [] rfl (World.ownsRow_nil _ _ _ _) _ 1 1 _ rfl rfl (news_new _ _ _) (by simp [Value.oneCell']) (by omega) (by unfold maxLen; omega) (by omega) (by have := hE1.size; simp; omega) _ rfl ?_; intro g cap w4 hown4 hgrow hat hlt4)
   go_roundg 0
   case measure => omega
   case rel => exact ⟨1, rfl, rfl, fun h => absurd h (by omega), fun _ => ⟨g, cap, rfl, own_q4 (by simpa using hown4) hlt4⟩, ext_grown hgrow (hE1.palloc _) (fun r h => by cases h)⟩
  | g + 2, HI => exact absurd HI.out (by omega)
set_option maxRecDepth 100000 in
set_option maxHeartbeats 3200000 in
theorem ref09_lift {b off c n k m l : Nat} {s t : Bool} {U V : Option Addr} {w : World} (h : Q4 w b off s (.slice U n k) t (.slice V m l)) :
  Calls Tryz.prog 198 #[.slice none 0 0, .slice (some ⟨b, off, none⟩) 1 c] w (Ret w fun r w' => Coef1 w.heap.size w' r s (.slice U n k) t (.slice V m l)) := by
 have HQ := Lib.hid h
 clear h
 obtain ⟨i0, hi, hz0, hz1, hz2⟩ := info_parts inf_Rat
 have hown : (w.alloc (.cells #[] 49)).ownsRow w.heap.size 49 4 (.slice (some ⟨w.heap.size, 0, none⟩) 0 0) 0 [] :=
  ⟨rfl, .inr ⟨w.heap.size, 0, #[], rfl, Nat.le_refl _, by rw [heap_alloc_new], Nat.le_refl _, Nat.zero_le _, rfl, rfl⟩⟩
 have HO := Lib.hid hown
 have HNW : Hid (∀ j u, ([.bool s, .slice U n k, .bool t, .slice V m l] : List Value)[j]? = some u → (w.alloc (.cells #[] 49)).cell? (Addr.add ⟨b, off, none⟩ j) = some u) := fun j u hj => by
  rw [Addr.add_lit]
  obtain ⟨hb, q0, q1, q2, q3⟩ := HQ.out.ext (Ext.alloc w (.cells #[] 49))
  match j, hj with
  | 0, hj => cases hj; exact q0
  | 1, hj => cases hj; exact q1
  | 2, hj => cases hj; exact q2
  | 3, hj => cases hj; exact q3
  | j + 4, hj => simp at hj
 clear hown
 go_enter Tryz.func198, Tryz.ntmps198
 go_wp2_with (at_builtin; refine wpList_append_lies _ rfl _ _ 36 rfl w.heap.size 49 i0 (.agg #[.bool false, .slice none 0 0, .bool false, .slice none 0 0]) 4 64 Tryz.underlying36 hi hz0 hz1 hz2 rfl (by decide) _ 0 [] rfl HO.out _ 1 c [.bool s, .slice U n k, .bool t, .slice V m l] rfl rfl HNW.out (by simp [Value.oneCell']) (by omega) (by unfold maxLen; omega) (by omega) (by simp) _ rfl ?_; intro g cap w4 hown4 hgrow hat hlt4)
 have HQ4 : Hid (Q4 w4 g 0 s (.slice U n k) t (.slice V m l)) := own_q4 (by simpa using hown4) hlt4
 have hE4 : Ext w w4 := ext_grown hgrow (Ext.alloc _ _) (fun r h => by cases h; simp)
 have hg : w.heap.size ≤ g := by
  rcases hat with h | h
  ·have h1 : some w.heap.size = some g := h
   injection h1 with h1; omega
  ·simp at h; omega
 clear hown4 hgrow hat
 go_loopg [5] 0 (fun _ o wr => o = .slice (some ⟨g, 0, none⟩) 1 cap ∧ w4 = wr)
 case atStart => exact ⟨rfl, rfl⟩
 case round =>
  obtain ⟨rfl, rfl⟩ := hrel
  go_wp2_with fail
  go_ret
  exact ⟨_, rfl, ⟨_, _, rfl, hg, HQ4.out⟩, hE4⟩
end Go.Proofs.YtjigihlhjhbkpaaGreatDoor
namespace Go.Proofs.YtjigihlhjhbkpaaGreatDoor
open Go Go.RowKit
/-- A number of one rational coefficient, by its cells. -/
def Num1 (w : World) (r : Value) (s : Bool) (u : Value) (t : Bool) (v : Value) : Prop := ∃ g c, r = .slice (some ⟨g, 0, none⟩) 1 c ∧ Q4 w g 0 s u t v
theorem Num1.ext {w w' : World} {r : Value} {s t : Bool} {u v : Value} (h : Num1 w r s u t v) (hx : Ext w w') : Num1 w' r s u t v := by
 obtain ⟨g, c, e, hq⟩ := h
 exact ⟨g, c, e, hq.ext hx⟩
/-- What Join and two return. -/
def Joined (w : World) (r : Value) (s1 : Bool) (u1 : Value) (t1 : Bool) (v1 : Value) (s2 : Bool) (u2 : Value) (t2 : Bool) (v2 : Value) : Prop :=
 ∃ g cap r1 r2, r = .tuple #[.slice (some ⟨g, 0, none⟩) 2 cap, .int .i64 0] ∧ CellsAt w g [.slice none 0 0, r1, .slice none 0 0, r2] ∧ Num1 w r1 s1 u1 t1 v1 ∧ Num1 w r2 s2 u2 t2 v2
def JRow1 (B : Nat) (w : World) (o : Value) (s : Bool) (u : Value) (t : Bool) (v : Value) : Prop :=
 ∃ g cap g1 c1, o = .slice (some ⟨g, 0, none⟩) 1 cap ∧ w.ownsRow B 38 2 o 1 [.slice none 0 0, .slice (some ⟨g1, 0, none⟩) 1 c1] ∧ g < w.heap.size ∧ g1 ≠ g ∧ Q4 w g1 0 s u t v
def JRow2 (w : World) (o : Value) (s1 : Bool) (u1 : Value) (t1 : Bool) (v1 : Value) (s2 : Bool) (u2 : Value) (t2 : Bool) (v2 : Value) : Prop :=
 ∃ g cap r1 r2, o = .slice (some ⟨g, 0, none⟩) 2 cap ∧ CellsAt w g [.slice none 0 0, r1, .slice none 0 0, r2] ∧ Num1 w r1 s1 u1 t1 v1 ∧ Num1 w r2 s2 u2 t2 v2
theorem Q4.setFar {w : World} {b off : Nat} {s t : Bool} {u v x : Value} {p : Addr} (h : Q4 w b off s u t v) (hne : p.block ≠ b) : Q4 (w.setCell p x) b off s u t v :=
 ⟨by have := h.1; simpa [World.setCell] using this, cell_far h.2.1 hne, cell_far h.2.2.1 hne, cell_far h.2.2.2.1 hne, cell_far h.2.2.2.2 hne⟩
theorem own_c4 {w : World} {B g cap : Nat} {a b c d : Value} (h : w.ownsRow B 38 2 (.slice (some ⟨g, 0, none⟩) 2 cap) 2 [a, b, c, d]) (hg : g < w.heap.size) : CellsAt w g [a, b, c, d] :=
 ⟨hg, fun j v hj => by
  match j, hj with
  | 0, hj => cases hj; exact h.cellAt 0 (by omega)
  | 1, hj => cases hj; exact h.cellAt 1 (by omega)
  | 2, hj => cases hj; exact h.cellAt 2 (by omega)
  | 3, hj => cases hj; exact h.cellAt 3 (by omega)
  | j + 4, hj => simp at hj⟩
theorem news_set (w : World) (p : Addr) (x : Value) (cs : List Value) (T : TypeId) : ∀ j u, cs[j]? = some u → ((w.setCell p x).alloc (.cells cs.toArray T)).cell? (Addr.add ⟨w.heap.size, 0, none⟩ j) = some u := by
 have h := news_new (w.setCell p x) cs T
 have e : (w.setCell p x).heap.size = w.heap.size := by simp [World.setCell]
 rwa [e] at h
set_option maxRecDepth 100000 in
set_option maxHeartbeats 3200000 in
theorem ref09_Join {bi cc b1 o1 c1 b2 o2 c2 n1 k1 m1 l1 n2 k2 m2 l2 : Nat} {s1 t1 s2 t2 : Bool} {U1 V1 U2 V2 : Option Addr} {w : World} (hC : CellsAt w bi [.slice none 0 0, .slice (some ⟨b1, o1, none⟩) 1 c1, .slice none 0 0, .slice (some ⟨b2, o2, none⟩) 1 c2])
  (h1 : Q4 w b1 o1 s1 (.slice U1 n1 k1) t1 (.slice V1 m1 l1)) (h2 : Q4 w b2 o2 s2 (.slice U2 n2 k2) t2 (.slice V2 m2 l2)) :
  Calls Tryz.prog 178 #[.slice (some ⟨bi, 0, none⟩) 2 cc] w (Ret w fun r w' => Joined w' r s1 (.slice U1 n1 k1) t1 (.slice V1 m1 l1) s2 (.slice U2 n2 k2) t2 (.slice V2 m2 l2)) := by
 have HC := Lib.hid hC
 have HL1 := Lib.hid (fun w1 (hx : Ext w w1) => ref09_lift (c := c1) (h1.ext hx))
 have HL2 := Lib.hid (fun w1 (hx : Ext w w1) => ref09_lift (c := c2) (h2.ext hx))
 clear hC h1 h2
 obtain ⟨i0, hi, hz0, hz1, hz2⟩ := info_parts infoNum
 generalize (Value.slice U1 n1 k1) = x1 at *
 generalize (Value.slice V1 m1 l1) = y1 at *
 generalize (Value.slice U2 n2 k2) = x2 at *
 generalize (Value.slice V2 m2 l2) = y2 at *
 go_enter Tryz.func178, Tryz.ntmps178
 go_wp2_with fail
 go_loopg [4, 5] 2 (fun gk o x wr => ∃ i : Nat, o = .slice none 0 0 ∧ x = .int .i64 (i : Int) ∧ Hid (i + gk = 2) ∧ w = wr)
 case atStart => exact ⟨0, rfl, rfl, rfl, rfl⟩
 case round =>
  obtain ⟨i, rfl, rfl, HI, rfl⟩ := hrel
  have hz : bi < w.heap.size := HC.out.1
  match gk, HI with
  | 1, HI =>
   obtain rfl : i = 1 := by have := HI.out; omega
   have y := HC.out.2 2 _ rfl
   go_wp2_with fail
   refine (ref09_begins _).mono ?_
   rintro e w1 ⟨rfl, rfl⟩
   go_wp2_with fail
   go_roundg 0
   case measure => omega
   case rel => exact ⟨2, rfl, rfl, rfl, rfl⟩
  | 2, HI =>
   obtain rfl : i = 0 := by have := HI.out; omega
   have y := HC.out.2 0 _ rfl
   go_wp2_with fail
   refine (ref09_begins _).mono ?_
   rintro e w1 ⟨rfl, rfl⟩
   go_wp2_with fail
   go_roundg 1
   case measure => omega
   case rel => exact ⟨1, rfl, rfl, rfl, rfl⟩
  | g + 3, HI => exact absurd HI.out (by omega)
  | 0, HI =>
   obtain rfl : i = 2 := by have := HI.out; omega
   go_wp2_with fail
   go_loopg [9, 10, 11] 2 (fun gk o x q wr => ∃ i : Nat, x = .int .i64 (i : Int) ∧ Hid (i + gk = 2) ∧ Hid (i = 0 → o = .slice none 0 0) ∧ Hid (i = 1 → JRow1 w.heap.size wr o s1 x1 t1 y1) ∧ Hid (i = 2 → JRow2 wr o s1 x1 t1 y1 s2 x2 t2 y2) ∧ Ext w wr)
   case atStart => exact ⟨0, rfl, rfl, fun _ => rfl, fun h => absurd h (by omega), fun h => absurd h (by omega), Ext.refl _⟩
   case round =>
    obtain ⟨i, rfl, HI, HO0, HO1, HO2, hE⟩ := hrel
    match gk, HI with
    | 0, HI =>
     obtain rfl : i = 2 := by have := HI.out; omega
     have HR := Lib.hid (HO2.out rfl)
     clear HO0 HO1 HO2
     obtain ⟨g, cap, r1, r2, rfl, -⟩ := HR.out
     go_wp2_with fail
     refine bodyPost_ret (v := .tuple #[.slice (some ⟨g, 0, none⟩) 2 cap, .int .i64 0]) (by simp [results, Tryz.results178, go_sem]) rfl ⟨_, rfl, ?_, hE⟩
     obtain ⟨g', cap', r1', r2', e, hr⟩ := HR.out
     injection e with e1 e2 e3
     injection e1 with e1
     injection e1 with e1
     subst e1
     exact ⟨_, _, _, _, rfl, hr⟩
    | 2, HI =>
     obtain rfl : i = 0 := by have := HI.out; omega
     obtain rfl := HO0.out rfl
     clear HO0 HO1 HO2
     have HCr := Lib.hid (HC.out.ext hE)
     have hz : bi < wr.heap.size := HCr.out.1
     have z0 := HCr.out.2 0 _ rfl
     have z1 := HCr.out.2 1 _ rfl
     go_wp2_with fail
     refine (ref09_begins _).mono ?_
     rintro e w1 ⟨rfl, rfl⟩
     go_wp2_with fail
     refine (HL1.out _ (Ext.trans hE (Ext.alloc _ _))).mono ?_
     rintro e w2 ⟨r, rfl, ⟨g1, c1', rfl, hg1, hq⟩, hx2⟩
     have HQ := Lib.hid hq
     have hg1' : wr.heap.size < g1 := by simp at hg1; omega
     clear hq hg1 z0 z1
     obtain ⟨hc, hf⟩ := bcell hx2
     have hw2 : wr.heap.size < w2.heap.size := by have := hx2.size; simp at this; omega
     have hE2 : Ext w w2 := (by repeat first|exact xA _|assumption|refine xB ?_ _|refine xC ?_|refine xD ?_ _|refine xE ?_ (by simp <;> omega) _|refine xF ?_ (by assumption))
     have hlo : w.heap.size ≤ wr.heap.size := hE.size
     have fz := (hf wr.heap.size 1 (by simp)).trans (World.frozen?_alloc_new _ _ _ _)
     go_wp2_with (at_builtin; (refine wpList_append_lies _ rfl _ _ 32 rfl w.heap.size 38 i0 (.agg #[.slice none 0 0, .slice none 0 0]) 2 48 Tryz.underlying32 hi hz0 hz1 hz2 rfl (by decide) _ 0 [] rfl (World.ownsRow_nil _ _ _ _) _ 1 1 [.slice none 0 0, .slice (some ⟨g1, 0, none⟩) 1 c1'] rfl rfl (news_set _ _ _ [.slice none 0 0, .slice (some ⟨g1, 0, none⟩) 1 c1'] _) (by simp [Value.oneCell']) (by omega) (by unfold maxLen; omega) (by omega) (by simp; omega) _ rfl ?_; intro g cap w4 hown4 hgrow hat hlt4))
     have hgg : g1 ≠ g := by
      have h1 := HQ.out.1
      rcases hat with h | h
      ·cases h
      ·simp at h; omega
     have hq4 := ((HQ.out.setFar (p := ⟨wr.heap.size, 1, none⟩) (x := .slice (some ⟨g1, 0, none⟩) 1 c1') (show wr.heap.size ≠ g1 by omega)).ext (Ext.alloc _ _)).far hgrow (fun e => by cases e)
     go_roundg 1
     case measure => omega
     case rel => exact ⟨1, rfl, rfl, fun h => absurd h (by omega), fun _ => ⟨g, cap, g1, c1', rfl, by simpa using hown4, hlt4, hgg, hq4⟩, fun h => absurd h (by omega), ext_grown hgrow ((hE2.pset (by simpa using hlo) _).palloc _) (fun r h => by cases h)⟩
    | 1, HI =>
     obtain rfl : i = 1 := by have := HI.out; omega
     obtain ⟨g0, cap0, g1, c1', rfl, hown, hg0, hne, hq1⟩ := HO1.out rfl
     have HOW := Lib.hid hown
     have HQ1 := Lib.hid (And.intro hne hq1)
     clear HO0 HO1 HO2 hown hne hq1
     have HCr := Lib.hid (HC.out.ext hE)
     have hz : bi < wr.heap.size := HCr.out.1
     have z0 := HCr.out.2 2 _ rfl
     have z1 := HCr.out.2 3 _ rfl
     go_wp2_with fail
     refine (ref09_begins _).mono ?_
     rintro e w1 ⟨rfl, rfl⟩
     go_wp2_with fail
     refine (HL2.out _ (Ext.trans hE (Ext.alloc _ _))).mono ?_
     rintro e w2 ⟨r, rfl, ⟨g2, c2', rfl, hg2, hq⟩, hx2⟩
     have HQ := Lib.hid hq
     have hg2' : wr.heap.size < g2 := by simp at hg2; omega
     clear hq hg2 z0 z1
     obtain ⟨hc, hf⟩ := bcell hx2
     have hw2 : wr.heap.size < w2.heap.size := by have := hx2.size; simp at this; omega
     have hE2 : Ext w w2 := (by repeat first|exact xA _|assumption|refine xB ?_ _|refine xC ?_|refine xD ?_ _|refine xE ?_ (by simp <;> omega) _|refine xF ?_ (by assumption))
     have hEr2 : Ext wr w2 := Ext.trans (Ext.alloc _ _) hx2
     have hlo : w.heap.size ≤ wr.heap.size := hE.size
     have fz := (hf wr.heap.size 1 (by simp)).trans (World.frozen?_alloc_new _ _ _ _)
     go_wp2_with (at_builtin; (refine wpList_append_lies _ rfl _ _ 32 rfl w.heap.size 38 i0 (.agg #[.slice none 0 0, .slice none 0 0]) 2 48 Tryz.underlying32 hi hz0 hz1 hz2 rfl (by decide) _ 1 [.slice none 0 0, .slice (some ⟨g1, 0, none⟩) 1 c1'] rfl (ownsRow_ext HOW.out ((hEr2.pset (by simp) _).palloc _)) _ 1 1 [.slice none 0 0, .slice (some ⟨g2, 0, none⟩) 1 c2'] rfl rfl (news_set _ _ _ [.slice none 0 0, .slice (some ⟨g2, 0, none⟩) 1 c2'] _) (by simp [Value.oneCell']) (by omega) (by unfold maxLen; omega) (by omega) (by simp; omega) _ rfl ?_; intro g cap w4 hown4 hgrow hat hlt4))
     have hq1 := (HQ1.out.2.ext ((hEr2.pset (p := ⟨wr.heap.size, 1, none⟩) (by simp) (.slice (some ⟨g2, 0, none⟩) 1 c2')).palloc (.cells #[.slice none 0 0, .slice (some ⟨g2, 0, none⟩) 1 c2'] 38))).far hgrow (fun e => by injection e with e; exact HQ1.out.1 e)
     have hq2 := ((HQ.out.setFar (p := ⟨wr.heap.size, 1, none⟩) (x := .slice (some ⟨g2, 0, none⟩) 1 c2') (show wr.heap.size ≠ g2 by omega)).ext (Ext.alloc _ _)).far hgrow (fun e => by injection e with e; have e1 : g2 = g0 := e; omega)
     go_roundg 0
     case measure => omega
     case rel => exact ⟨2, rfl, rfl, fun h => absurd h (by omega), fun h => absurd h (by omega), fun _ => ⟨g, cap, _, _, rfl, own_c4 (by simpa using hown4) hlt4, ⟨_, _, rfl, hq1⟩, ⟨_, _, rfl, hq2⟩⟩, ext_grown hgrow ((hE2.pset (by simpa using hlo) _).palloc _) (ownsRow_block HOW.out)⟩
    | g + 3, HI => exact absurd HI.out (by omega)
end Go.Proofs.YtjigihlhjhbkpaaGreatDoor
namespace Go.Proofs.YtjigihlhjhbkpaaGreatDoor
open Go Go.RowKit
/-- A box that holds a number. -/
def BoxN (w : World) (g : Nat) (r : Value) : Prop := w.cell? ⟨g, 0, none⟩ = some (.slice none 0 0) ∧ w.cell? ⟨g, 1, none⟩ = some r ∧ w.frozen? ⟨g, 0, none⟩ = false ∧ w.frozen? ⟨g, 1, none⟩ = false ∧ g < w.heap.size
theorem BoxN.ext {w w' : World} {g : Nat} {r : Value} (h : BoxN w g r) (hx : Ext w w') : BoxN w' g r :=
 ⟨(hx.cell (p := ⟨g, 0, none⟩) h.2.2.2.2).trans h.1, (hx.cell (p := ⟨g, 1, none⟩) h.2.2.2.2).trans h.2.1, (Below.frozen hx (p := ⟨g, 0, none⟩) h.2.2.2.2).trans h.2.2.1, (Below.frozen hx (p := ⟨g, 1, none⟩) h.2.2.2.2).trans h.2.2.2.1, Nat.lt_of_lt_of_le h.2.2.2.2 hx.size⟩
theorem BoxN.new (w : World) (r : Value) (T : TypeId) : BoxN (w.alloc (.cells #[.slice none 0 0, r] T)) w.heap.size r := by
 refine ⟨by simp [go_sem], by simp [go_sem], World.frozen?_alloc_new _ _ _ _, World.frozen?_alloc_new _ _ _ _, by simp⟩
theorem BoxN.ne {w : World} {b g : Nat} {r u v : Value} {s t : Bool} (h : BoxN w b r) (hq : Q4 w g 0 s u t v) : b ≠ g := by
 rintro rfl
 have h1 := h.1.symm.trans hq.2.1
 cases h1
/-- A store of a number into a box. -/
def putN (w : World) (g : Nat) (r : Value) : World := (w.setCell ⟨g, 0, none⟩ (.slice none 0 0)).setCell ⟨g, 1, none⟩ r
theorem BoxN.put {w : World} {g : Nat} {r : Value} (h : BoxN w g r) (x : Value) : BoxN (putN w g x) g x := by
 obtain ⟨h1, h2, h3, h4, h5⟩ := h
 have e1 : ((w.setCell ⟨g, 0, none⟩ (.slice none 0 0)).cell? ⟨g, 1, none⟩) = some r := (World.cell?_setCell_other _ _ _ _ (by simp)).trans h2
 refine ⟨(World.cell?_setCell_other _ _ _ _ (by simp)).trans (World.cell?_setCell_same _ _ _ (by rw [h1])), World.cell?_setCell_same _ _ _ (by rw [e1]), ?_, ?_, by simpa [putN, World.setCell] using h5⟩
 ·simpa [putN] using h3
 ·simpa [putN] using h4
theorem BoxN.far {w : World} {g b : Nat} {r : Value} (h : BoxN w g r) (hne : b ≠ g) (x : Value) : BoxN (putN w b x) g r := by
 obtain ⟨h1, h2, h3, h4, h5⟩ := h
 refine ⟨cell_far (cell_far h1 hne) hne, cell_far (cell_far h2 hne) hne, ?_, ?_, by simpa [putN, World.setCell] using h5⟩
 ·simpa [putN] using h3
 ·simpa [putN] using h4
theorem Q4.putN {w : World} {g b : Nat} {s t : Bool} {u v : Value} (h : Q4 w g 0 s u t v) (hne : b ≠ g) (x : Value) : Q4 (putN w b x) g 0 s u t v := (h.setFar (p := ⟨b, 0, none⟩) hne).setFar (p := ⟨b, 1, none⟩) hne
theorem Ext.putN {w w' : World} (h : Ext w w') {g : Nat} (hg : w.heap.size ≤ g) (x : Value) : Ext w (putN w' g x) := (h.pset hg _).pset hg _
def NB4 (w : World) (g : Nat) (a b : Value) : Prop := BoxN w g a ∧ BoxN w (g + 1) b ∧ BoxN w (g + 1 + 1) (.slice none 0 0) ∧ BoxN w (g + 1 + 1 + 1) (.slice none 0 0)
theorem NB4.ext {w w' : World} {g : Nat} {a b : Value} (h : NB4 w g a b) (hx : Ext w w') : NB4 w' g a b := ⟨h.1.ext hx, h.2.1.ext hx, h.2.2.1.ext hx, h.2.2.2.ext hx⟩
theorem nb4 (w : World) (a b : Value) : NB4 ((((w.alloc (.cells #[.slice none 0 0, a] 38)).alloc (.cells #[.slice none 0 0, b] 38)).alloc (.cells #[.slice none 0 0, .slice none 0 0] 38)).alloc (.cells #[.slice none 0 0, .slice none 0 0] 38)) w.heap.size a b := by
 refine ⟨?_, ?_, ?_, ?_⟩
 ·exact (((BoxN.new w a _).ext (Ext.alloc _ _)).ext (Ext.alloc _ _)).ext (Ext.alloc _ _)
 ·have := (BoxN.new (w.alloc (.cells #[.slice none 0 0, a] 38)) b 38)
  rw [World.size_alloc] at this
  exact (this.ext (Ext.alloc _ _)).ext (Ext.alloc _ _)
 ·have := (BoxN.new ((w.alloc (.cells #[.slice none 0 0, a] 38)).alloc (.cells #[.slice none 0 0, b] 38)) (.slice none 0 0) 38)
  rw [World.size_alloc, World.size_alloc] at this
  exact this.ext (Ext.alloc _ _)
 ·have := (BoxN.new (((w.alloc (.cells #[.slice none 0 0, a] 38)).alloc (.cells #[.slice none 0 0, b] 38)).alloc (.cells #[.slice none 0 0, .slice none 0 0] 38)) (.slice none 0 0) 38)
  rwa [World.size_alloc, World.size_alloc, World.size_alloc] at this
def NB3 (w : World) (g : Nat) (a b : Value) : Prop := BoxN w g a ∧ BoxN w (g + 1) b ∧ BoxN w (g + 1 + 1) (.slice none 0 0)
theorem NB3.ext {w w' : World} {g : Nat} {a b : Value} (h : NB3 w g a b) (hx : Ext w w') : NB3 w' g a b := ⟨h.1.ext hx, h.2.1.ext hx, h.2.2.ext hx⟩
theorem nb3 (w : World) (a b : Value) : NB3 (((w.alloc (.cells #[.slice none 0 0, a] 38)).alloc (.cells #[.slice none 0 0, b] 38)).alloc (.cells #[.slice none 0 0, .slice none 0 0] 38)) w.heap.size a b := by
 refine ⟨?_, ?_, ?_⟩
 ·exact ((BoxN.new w a _).ext (Ext.alloc _ _)).ext (Ext.alloc _ _)
 ·have := (BoxN.new (w.alloc (.cells #[.slice none 0 0, a] 38)) b 38)
  rw [World.size_alloc] at this
  exact this.ext (Ext.alloc _ _)
 ·have := (BoxN.new ((w.alloc (.cells #[.slice none 0 0, a] 38)).alloc (.cells #[.slice none 0 0, b] 38)) (.slice none 0 0) 38)
  rwa [World.size_alloc, World.size_alloc] at this
set_option maxRecDepth 100000 in
set_option maxHeartbeats 3200000 in
theorem ref09_two {b1 o1 c1 b2 o2 c2 n1 k1 m1 l1 n2 k2 m2 l2 : Nat} {s1 t1 s2 t2 : Bool} {U1 V1 U2 V2 : Option Addr} {w : World} (h1 : Q4 w b1 o1 s1 (.slice U1 n1 k1) t1 (.slice V1 m1 l1)) (h2 : Q4 w b2 o2 s2 (.slice U2 n2 k2) t2 (.slice V2 m2 l2)) :
  Calls Tryz.prog 148 #[.agg #[.slice none 0 0, .slice (some ⟨b1, o1, none⟩) 1 c1], .agg #[.slice none 0 0, .slice (some ⟨b2, o2, none⟩) 1 c2]] w (Ret w fun r w' => ∃ g1 d1 g2 d2, r = .tuple #[.agg #[.slice none 0 0, .slice (some ⟨g1, 0, none⟩) 1 d1], .agg #[.slice none 0 0, .slice (some ⟨g2, 0, none⟩) 1 d2], .int .i64 0] ∧ Q4 w' g1 0 s1 (.slice U1 n1 k1) t1 (.slice V1 m1 l1) ∧ Q4 w' g2 0 s2 (.slice U2 n2 k2) t2 (.slice V2 m2 l2)) := by
 have mixed : Tryz.prog.follows .mixedOrders = true := by kernel_rfl
 have H := Lib.hid (And.intro h1 h2)
 clear h1 h2
 obtain ⟨W4, hW4⟩ : ∃ W4, ((((w.alloc (.cells #[.slice none 0 0, .slice (some ⟨b1, o1, none⟩) 1 c1] 38)).alloc (.cells #[.slice none 0 0, .slice (some ⟨b2, o2, none⟩) 1 c2] 38)).alloc (.cells #[.slice none 0 0, .slice none 0 0] 38)).alloc (.cells #[.slice none 0 0, .slice none 0 0] 38)) = W4 := ⟨_, rfl⟩
 have HB : Hid (NB4 W4 w.heap.size (.slice (some ⟨b1, o1, none⟩) 1 c1) (.slice (some ⟨b2, o2, none⟩) 1 c2)) := by rw [← hW4]; exact nb4 w _ _
 have hE4 : Ext w W4 := by rw [← hW4]; exact (by repeat first|exact xA _|assumption|refine xB ?_ _|refine xC ?_|refine xD ?_ _|refine xE ?_ (by simp <;> omega) _|refine xF ?_ (by assumption))
 have HW4 := Lib.hid hW4
 clear hW4
 go_enter Tryz.func148, Tryz.ntmps148
 go_upto_region 1 with fail
 rw [HW4.out]
 obtain ⟨⟨p0, p1, -⟩, ⟨q0, q1, -⟩, -⟩ := HB.out
 go_wp2_with fail
 refine (ref09_Join (CellsAt.new W4 [.slice none 0 0, .slice (some ⟨b1, o1, none⟩) 1 c1, .slice none 0 0, .slice (some ⟨b2, o2, none⟩) 1 c2] 38) (H.out.1.ext (Ext.trans hE4 (Ext.alloc _ _))) (H.out.2.ext (Ext.trans hE4 (Ext.alloc _ _)))).mono ?_
 rintro er W5 ⟨v, rfl, ⟨g, cap, r1, r2, rfl, hC, ⟨g1, d1, rfl, hq1⟩, ⟨g2, d2, rfl, hq2⟩⟩, hx5⟩
 have HC := Lib.hid hC
 have HQ := Lib.hid (And.intro hq1 hq2)
 have HB5 := Lib.hid (HB.out.ext (Ext.trans (Ext.alloc _ _) hx5))
 have hE5 : Ext w W5 := Ext.trans hE4 (Ext.trans (Ext.alloc _ _) hx5)
 clear hC hq1 hq2 HB hE4 hx5 p0 p1 q0 q1
 go_wp2_with fail
 obtain ⟨hz, hcc⟩ := HC.out
 have c0 := hcc 0 _ rfl
 have c1 := hcc 1 _ rfl
 have c2 := hcc 2 _ rfl
 have c3 := hcc 3 _ rfl
 clear hcc
 obtain ⟨-, -, ⟨y0, y1, y2, y3, y4⟩, ⟨z0, z1, z2, z3, z4⟩⟩ := HB5.out
 go_region_with fail
 all_goals
  go_wp2_with fail
  refine bodyPost_ret (v := .tuple #[.agg #[.slice none 0 0, .slice (some ⟨g1, 0, none⟩) 1 d1], .agg #[.slice none 0 0, .slice (some ⟨g2, 0, none⟩) 1 d2], .int .i64 0]) ?_ rfl ⟨_, rfl, ⟨_, _, _, _, rfl, ?_, ?_⟩, ?_⟩
  ·simp [results, Tryz.results148, go_sem, y0, y1, z0, z1]
  ·exact ((HQ.out.1.putN (HB5.out.2.2.1.ne HQ.out.1) _).putN (HB5.out.2.2.2.ne HQ.out.1) _).ext (Ext.drew _)
  ·exact ((HQ.out.2.putN (HB5.out.2.2.1.ne HQ.out.2) _).putN (HB5.out.2.2.2.ne HQ.out.2) _).ext (Ext.drew _)
  ·exact Ext.trans ((hE5.putN (by omega) _).putN (by omega) _) (Ext.drew _)
/-- A list of one rational number whose numerator is 0. -/
def Zero1 (w : World) (r : Value) : Prop := ∃ g c U e V l' e', r = .slice (some ⟨g, 0, none⟩) 1 c ∧ Q4 w g 0 false (.slice U 0 e) false (.slice V l' e')
set_option maxRecDepth 100000 in
set_option maxHeartbeats 3200000 in
theorem ref06_Add {b1 o1 c1 b2 o2 c2 n1 k1 m1 l1 n2 k2 m2 l2 : Nat} {s1 t1 s2 t2 : Bool} {U1 V1 U2 V2 : Option Addr} {w : World} (h1 : Q4 w b1 o1 s1 (.slice U1 n1 k1) t1 (.slice V1 m1 l1)) (h2 : Q4 w b2 o2 s2 (.slice U2 n2 k2) t2 (.slice V2 m2 l2))
  (hA : ∀ w1, Ext w w1 → Calls Tryz.prog 146 #[.agg #[.bool s1, .slice U1 n1 k1, .bool t1, .slice V1 m1 l1], .agg #[.bool s2, .slice U2 n2 k2, .bool t2, .slice V2 m2 l2]] w1 (Ret w1 fun r _ => ∃ U e V l' e', r = .agg #[.bool false, .slice U 0 e, .bool false, .slice V l' e'])) :
  Calls Tryz.prog 109 #[.slice none 0 0, .slice (some ⟨b1, o1, none⟩) 1 c1, .slice (some ⟨b2, o2, none⟩) 1 c2] w (Ret w fun r w' => Zero1 w' r) := by
 have HA := Lib.hid hA
 have H := Lib.hid (And.intro h1 h2)
 clear hA h1 h2
 obtain ⟨i0, hi, hz0, hz1, hz2⟩ := info_parts inf_Rat
 go_enter Tryz.func109, Tryz.ntmps109
 go_wp2_with fail
 go_loopg [7, 8] 1 (fun gk o x wr => ∃ i : Nat, x = .int .i64 (i : Int) ∧ Hid (i + gk = 1) ∧ Hid (i = 0 → o = .slice none 0 0) ∧ Hid (i = 1 → Zero1 wr o) ∧ Ext w wr)
 case atStart => exact ⟨0, rfl, rfl, fun _ => rfl, fun h => absurd h (by omega), Ext.refl _⟩
 case round =>
  obtain ⟨i, rfl, HI, HO0, HO1, hE⟩ := hrel
  obtain ⟨⟨hb, q0, q1, q2, q3⟩, ⟨hb', y0, y1, y2, y3⟩⟩ := And.intro (H.out.1.ext hE) (H.out.2.ext hE)
  match gk, HI with
  | 0, HI =>
   obtain rfl : i = 1 := HI.out
   obtain ⟨g, c', U, e, V, l', e', rfl, hq⟩ := HO1.out rfl
   have HQ4 := Lib.hid hq
   clear hq
   go_wp2_with fail
   go_ret
   exact ⟨_, rfl, ⟨g, c', U, e, V, l', e', rfl, HQ4.out⟩, hE⟩
  | 1, HI =>
   obtain rfl : i = 0 := by have := HI.out; omega
   obtain rfl := HO0.out rfl
   clear HO0 HO1
   go_wp2_with fail
   go_region_law (first
    | (refine step_append_lies _ (by rfl) _ _ 36 (by rfl) w.heap.size 49 i0 (.agg #[.bool false, .slice none 0 0, .bool false, .slice none 0 0]) 4 64 Tryz.underlying36 hi hz0 hz1 hz2 (by rfl) (by decide) _ 0 [] (by rfl) (World.ownsRow_nil _ _ _ _) _ 1 1 _ (by rfl) (by rfl) (news_new _ _ _) (by simp [Value.oneCell']) (by omega) (by unfold maxLen; omega) (by omega) (by have h1 := hE.size; have h2 := hx2.size; simp at h1 h2 ⊢; omega) _ (by rfl) ?_; intro g cap w4 hown4 hgrow hat hlt4)
    | (go_simp; go_at_call_of 146 (Value.agg #[.bool s1, .slice U1 n1 k1, .bool t1, .slice V1 m1 l1]); refine (HA.out _ (by repeat first|exact xA _|assumption|refine xB ?_ _|refine xC ?_|refine xD ?_ _|refine xE ?_ (by simp <;> omega) _|refine xF ?_ (by assumption))).mono ?_; rintro e w2 ⟨r2, rfl, ⟨U, eU, V, lV, eV, rfl⟩, hx2⟩))
   all_goals
    go_wp2_with fail
    go_roundg 0
    case measure => omega
    case rel => exact ⟨1, rfl, rfl, fun h => absurd h (by omega), fun _ => ⟨g, cap, U, eU, V, lV, eV, rfl, own_q4 (by simpa using hown4) hlt4⟩, ext_grown hgrow (by repeat first|exact xA _|assumption|refine xB ?_ _|refine xC ?_|refine xD ?_ _|refine xE ?_ (by simp <;> omega) _|refine xF ?_ (by assumption)) (fun r h => by cases h)⟩
  | g + 2, HI => exact absurd HI.out (by omega)
set_option maxRecDepth 100000 in
set_option maxHeartbeats 3200000 in
theorem ref09_Add {b1 o1 c1 b2 o2 c2 n1 k1 m1 l1 n2 k2 m2 l2 : Nat} {s1 t1 s2 t2 : Bool} {U1 V1 U2 V2 : Option Addr} {w : World} (h1 : Q4 w b1 o1 s1 (.slice U1 n1 k1) t1 (.slice V1 m1 l1)) (h2 : Q4 w b2 o2 s2 (.slice U2 n2 k2) t2 (.slice V2 m2 l2))
  (hA : ∀ w1, Ext w w1 → Calls Tryz.prog 146 #[.agg #[.bool s1, .slice U1 n1 k1, .bool t1, .slice V1 m1 l1], .agg #[.bool s2, .slice U2 n2 k2, .bool t2, .slice V2 m2 l2]] w1 (Ret w1 fun r _ => ∃ U e V l' e', r = .agg #[.bool false, .slice U 0 e, .bool false, .slice V l' e'])) :
  Calls Tryz.prog 111 #[.agg #[.slice none 0 0, .slice (some ⟨b1, o1, none⟩) 1 c1], .agg #[.slice none 0 0, .slice (some ⟨b2, o2, none⟩) 1 c2]] w (Ret w fun r w' => ∃ z, r = .tuple #[.agg #[.slice none 0 0, z], .int .i64 0] ∧ Zero1 w' z) := by
 have mixed : Tryz.prog.follows .mixedOrders = true := by kernel_rfl
 have HA := Lib.hid hA
 have H := Lib.hid (And.intro h1 h2)
 clear h1 h2 hA
 obtain ⟨W4, hW4⟩ : ∃ W4, (((w.alloc (.cells #[.slice none 0 0, .slice (some ⟨b1, o1, none⟩) 1 c1] 38)).alloc (.cells #[.slice none 0 0, .slice (some ⟨b2, o2, none⟩) 1 c2] 38)).alloc (.cells #[.slice none 0 0, .slice none 0 0] 38)) = W4 := ⟨_, rfl⟩
 have HB : Hid (NB3 W4 w.heap.size (.slice (some ⟨b1, o1, none⟩) 1 c1) (.slice (some ⟨b2, o2, none⟩) 1 c2)) := by rw [← hW4]; exact nb3 w _ _
 have hE4 : Ext w W4 := by rw [← hW4]; exact (by repeat first|exact xA _|assumption|refine xB ?_ _|refine xC ?_|refine xD ?_ _|refine xE ?_ (by simp <;> omega) _|refine xF ?_ (by assumption))
 have HW4 := Lib.hid hW4
 clear hW4
 go_enter Tryz.func111, Tryz.ntmps111
 go_upto_region 1 with fail
 rw [HW4.out]
 obtain ⟨⟨p0, p1, -⟩, ⟨q0, q1, -⟩, -⟩ := HB.out
 go_wp2_with fail
 refine (ref09_two (c1 := c1) (c2 := c2) (H.out.1.ext hE4) (H.out.2.ext hE4)).mono ?_
 rintro er W5 ⟨v, rfl, ⟨g1, d1, g2, d2, rfl, hq1, hq2⟩, hx5⟩
 have HQ := Lib.hid (And.intro hq1 hq2)
 have HB5 := Lib.hid (HB.out.ext hx5)
 have hE5 : Ext w W5 := Ext.trans hE4 hx5
 clear hq1 hq2 HB hE4 hx5 p0 p1 q0 q1
 obtain ⟨⟨p0, p1, p2, p3, p4⟩, ⟨q0, q1, q2, q3, q4⟩, -⟩ := HB5.out
 go_wp2_with fail
 have HB6 : Hid (NB3 (putN (putN W5 w.heap.size (.slice (some ⟨g1, 0, none⟩) 1 d1)) (w.heap.size + 1) (.slice (some ⟨g2, 0, none⟩) 1 d2)) w.heap.size (.slice (some ⟨g1, 0, none⟩) 1 d1) (.slice (some ⟨g2, 0, none⟩) 1 d2)) :=
  ⟨(HB5.out.1.put _).far (by omega) _, (HB5.out.2.1.far (by omega) _).put _, (HB5.out.2.2.far (by omega) _).far (by omega) _⟩
 have HQ6 : Hid (Q4 (putN (putN W5 w.heap.size (.slice (some ⟨g1, 0, none⟩) 1 d1)) (w.heap.size + 1) (.slice (some ⟨g2, 0, none⟩) 1 d2)) g1 0 s1 (.slice U1 n1 k1) t1 (.slice V1 m1 l1) ∧ Q4 (putN (putN W5 w.heap.size (.slice (some ⟨g1, 0, none⟩) 1 d1)) (w.heap.size + 1) (.slice (some ⟨g2, 0, none⟩) 1 d2)) g2 0 s2 (.slice U2 n2 k2) t2 (.slice V2 m2 l2)) :=
  ⟨(HQ.out.1.putN (HB5.out.1.ne HQ.out.1) _).putN (HB5.out.2.1.ne HQ.out.1) _, (HQ.out.2.putN (HB5.out.1.ne HQ.out.2) _).putN (HB5.out.2.1.ne HQ.out.2) _⟩
 have hE6 : Ext w (putN (putN W5 w.heap.size (.slice (some ⟨g1, 0, none⟩) 1 d1)) (w.heap.size + 1) (.slice (some ⟨g2, 0, none⟩) 1 d2)) := (hE5.putN (by omega) _).putN (by omega) _
 obtain ⟨W6, hW6⟩ : ∃ W6, putN (putN W5 w.heap.size (.slice (some ⟨g1, 0, none⟩) 1 d1)) (w.heap.size + 1) (.slice (some ⟨g2, 0, none⟩) 1 d2) = W6 := ⟨_, rfl⟩
 have hW6' := hW6
 unfold putN at hW6'
 rw [hW6'] 
 rw [hW6] at HB6 HQ6 hE6
 clear hW6 hW6' p0 p1 p2 p3 p4 q0 q1 q2 q3 q4 HB5 HQ hE5
 refine wp_region_ext 10 28 (fun op v w' => match op with
  | 0 => v = .pointer (some ⟨w.heap.size, 0, none⟩)
  | 1 => v = .slice none 0 0
  | 2 => v = .pointer (some ⟨w.heap.size, 0, none⟩)
  | 3 => v = .slice none 0 0
  | 4 => v = .pointer (some ⟨w.heap.size, 1, none⟩)
  | 5 => v = .slice (some ⟨g1, 0, none⟩) 1 d1
  | 6 => v = .pointer (some ⟨w.heap.size + 1, 1, none⟩)
  | 7 => v = .slice (some ⟨g2, 0, none⟩) 1 d2
  | 8 => ∃ z, v = z ∧ Zero1 w' z
  | 9 => ∃ z, v = .agg #[.slice none 0 0, z] ∧ Zero1 w' z
  | _ => False)
  ((fun _ _ _ _ => True)) mixed (by kernel_rfl) rfl ?_ (AllLt.all ?_) ?_
 ·intro i v wa wb hx
  match i with
  | 8 => exact fun ⟨z, h, ⟨g, c, U, e, V, l', e', h', hq⟩⟩ => ⟨z, h, ⟨g, c, U, e, V, l', e', h', hq.ext hx⟩⟩
  | 9 => exact fun ⟨z, h, ⟨g, c, U, e, V, l', e', h', hq⟩⟩ => ⟨z, h, ⟨g, c, U, e, V, l', e', h', hq.ext hx⟩⟩
  | 0 | 1 | 2 | 3 | 4 | 5 | 6 | 7 => exact id
  | _ + 10 => exact id
 ·refine ⟨⟨⟨⟨⟨⟨⟨⟨⟨⟨trivial, ?_⟩, ?_⟩, ?_⟩, ?_⟩, ?_⟩, ?_⟩, ?_⟩, ?_⟩, ?_⟩, ?_⟩
  ·refine PreOp.of _ _ rfl rfl rfl ?_
   intro vs w' hx hnd
   have hE : Ext W6 w' := Ext.trans (Ext.drew _) hx
   clear hnd
   simp only [fill]
   obtain ⟨⟨p0, p1, -⟩, ⟨q0, q1, -⟩, -⟩ := HB6.out.ext hE
   go_wp2_with fail
   exact ⟨rfl, Ext.refl _, rfl, fun _ _ _ _ => trivial⟩
  ·refine PreOp.of _ _ rfl rfl rfl ?_
   intro vs w' hx hnd
   have hE : Ext W6 w' := Ext.trans (Ext.drew _) hx
   have e0 : vs 0 = .pointer (some ⟨w.heap.size, 0, none⟩) := hnd 0 (by kernel_rfl) (by omega)
   clear hnd
   simp only [fill, dstOf, List.getElem?_toArray, List.getElem?_cons_zero, Option.bind_some, Act.put, List.setIfInBounds_toArray, List.set_cons_zero, List.set_cons_succ]
   rw [e0]
   obtain ⟨⟨p0, p1, -⟩, ⟨q0, q1, -⟩, -⟩ := HB6.out.ext hE
   go_wp2_with fail
   exact ⟨rfl, Ext.refl _, rfl, fun _ _ _ _ => trivial⟩
  ·refine PreOp.of _ _ rfl rfl rfl ?_
   intro vs w' hx hnd
   have hE : Ext W6 w' := Ext.trans (Ext.drew _) hx
   clear hnd
   simp only [fill, dstOf, List.getElem?_toArray, List.getElem?_cons_zero, List.getElem?_cons_succ, Option.bind_some, Act.put, List.setIfInBounds_toArray, List.set_cons_zero, List.set_cons_succ]
   obtain ⟨⟨p0, p1, -⟩, ⟨q0, q1, -⟩, -⟩ := HB6.out.ext hE
   go_wp2_with fail
   exact ⟨rfl, Ext.refl _, rfl, fun _ _ _ _ => trivial⟩
  ·refine PreOp.of _ _ rfl rfl rfl ?_
   intro vs w' hx hnd
   have hE : Ext W6 w' := Ext.trans (Ext.drew _) hx
   have e2 : vs 2 = .pointer (some ⟨w.heap.size, 0, none⟩) := hnd 2 (by kernel_rfl) (by omega)
   clear hnd
   simp only [fill, dstOf, List.getElem?_toArray, List.getElem?_cons_zero, List.getElem?_cons_succ, Option.bind_some, Act.put, List.setIfInBounds_toArray, List.set_cons_zero, List.set_cons_succ]
   rw [e2]
   obtain ⟨⟨p0, p1, -⟩, ⟨q0, q1, -⟩, -⟩ := HB6.out.ext hE
   go_wp2_with fail
   exact ⟨rfl, Ext.refl _, rfl, fun _ _ _ _ => trivial⟩
  ·refine PreOp.of _ _ rfl rfl rfl ?_
   intro vs w' hx hnd
   have hE : Ext W6 w' := Ext.trans (Ext.drew _) hx
   clear hnd
   simp only [fill, dstOf, List.getElem?_toArray, List.getElem?_cons_zero, List.getElem?_cons_succ, Option.bind_some, Act.put, List.setIfInBounds_toArray, List.set_cons_zero, List.set_cons_succ]
   obtain ⟨⟨p0, p1, -⟩, ⟨q0, q1, -⟩, -⟩ := HB6.out.ext hE
   go_wp2_with fail
   exact ⟨rfl, Ext.refl _, rfl, fun _ _ _ _ => trivial⟩
  ·refine PreOp.of _ _ rfl rfl rfl ?_
   intro vs w' hx hnd
   have hE : Ext W6 w' := Ext.trans (Ext.drew _) hx
   have e4 : vs 4 = .pointer (some ⟨w.heap.size, 1, none⟩) := hnd 4 (by kernel_rfl) (by omega)
   clear hnd
   simp only [fill, dstOf, List.getElem?_toArray, List.getElem?_cons_zero, List.getElem?_cons_succ, Option.bind_some, Act.put, List.setIfInBounds_toArray, List.set_cons_zero, List.set_cons_succ]
   rw [e4]
   obtain ⟨⟨p0, p1, -⟩, ⟨q0, q1, -⟩, -⟩ := HB6.out.ext hE
   go_wp2_with fail
   exact ⟨rfl, Ext.refl _, rfl, fun _ _ _ _ => trivial⟩
  ·refine PreOp.of _ _ rfl rfl rfl ?_
   intro vs w' hx hnd
   have hE : Ext W6 w' := Ext.trans (Ext.drew _) hx
   clear hnd
   simp only [fill, dstOf, List.getElem?_toArray, List.getElem?_cons_zero, List.getElem?_cons_succ, Option.bind_some, Act.put, List.setIfInBounds_toArray, List.set_cons_zero, List.set_cons_succ]
   obtain ⟨⟨p0, p1, -⟩, ⟨q0, q1, -⟩, -⟩ := HB6.out.ext hE
   go_wp2_with fail
   exact ⟨rfl, Ext.refl _, rfl, fun _ _ _ _ => trivial⟩
  ·refine PreOp.of _ _ rfl rfl rfl ?_
   intro vs w' hx hnd
   have hE : Ext W6 w' := Ext.trans (Ext.drew _) hx
   have e6 : vs 6 = .pointer (some ⟨w.heap.size + 1, 1, none⟩) := hnd 6 (by kernel_rfl) (by omega)
   clear hnd
   simp only [fill, dstOf, List.getElem?_toArray, List.getElem?_cons_zero, List.getElem?_cons_succ, Option.bind_some, Act.put, List.setIfInBounds_toArray, List.set_cons_zero, List.set_cons_succ]
   rw [e6]
   obtain ⟨⟨p0, p1, -⟩, ⟨q0, q1, -⟩, -⟩ := HB6.out.ext hE
   go_wp2_with fail
   exact ⟨rfl, Ext.refl _, rfl, fun _ _ _ _ => trivial⟩
  ·refine PreOp.of _ _ rfl rfl rfl ?_
   intro vs w' hx hnd
   have hE : Ext W6 w' := Ext.trans (Ext.drew _) hx
   have e3 : vs 3 = .slice none 0 0 := hnd 3 (by kernel_rfl) (by omega)
   have e5 : vs 5 = .slice (some ⟨g1, 0, none⟩) 1 d1 := hnd 5 (by kernel_rfl) (by omega)
   have e7 : vs 7 = .slice (some ⟨g2, 0, none⟩) 1 d2 := hnd 7 (by kernel_rfl) (by omega)
   clear hnd
   simp only [fill, dstOf, List.getElem?_toArray, List.getElem?_cons_zero, List.getElem?_cons_succ, Option.bind_some, Act.put, List.setIfInBounds_toArray, List.set_cons_zero, List.set_cons_succ]
   rw [e3, e5, e7]
   obtain ⟨⟨p0, p1, -⟩, ⟨q0, q1, -⟩, -⟩ := HB6.out.ext hE
   go_wp2_with fail
   refine (ref06_Add (c1 := d1) (c2 := d2) (HQ6.out.1.ext hE) (HQ6.out.2.ext hE) (fun w1 hx1 => HA.out w1 (Ext.trans (Ext.trans hE6 hE) hx1))).mono ?_
   rintro e w4 ⟨z, rfl, hz, hx4⟩
   go_wp2_with fail
   exact ⟨rfl, hx4, ⟨z, rfl, hz⟩, fun _ _ _ _ => trivial⟩
  ·refine PreOp.of _ _ rfl rfl rfl ?_
   intro vs w' hx hnd
   have hE : Ext W6 w' := Ext.trans (Ext.drew _) hx
   have e1 : vs 1 = .slice none 0 0 := hnd 1 (by kernel_rfl) (by omega)
   obtain ⟨z8, e8, g8⟩ := hnd 8 (by kernel_rfl) (by omega)
   clear hnd
   simp only [fill, dstOf, List.getElem?_toArray, List.getElem?_cons_zero, List.getElem?_cons_succ, Option.bind_some, Act.put, List.setIfInBounds_toArray, List.set_cons_zero, List.set_cons_succ]
   rw [e1, e8]
   obtain ⟨⟨p0, p1, -⟩, ⟨q0, q1, -⟩, -⟩ := HB6.out.ext hE
   obtain ⟨g, c, U, e, V, l', e', rfl, hq⟩ := g8
   have HQZ := Lib.hid hq
   clear hq
   go_wp2_with fail
   exact ⟨rfl, Ext.refl _, ⟨_, rfl, ⟨g, c, U, e, V, l', e', rfl, HQZ.out⟩⟩, fun _ _ _ _ => trivial⟩
 ·intro vs w' hx hP hD
  have hE : Ext W6 w' := Ext.trans (Ext.drew _) hx
  obtain ⟨z, e9, ⟨g, c, U, e, V, l', e', rfl, hq⟩⟩ := hP 9 (by omega)
  clear hP hD
  have HQZ := Lib.hid hq
  clear hq
  simp only [fill, dstOf, List.getElem?_toArray, List.getElem?_cons_zero, List.getElem?_cons_succ, Option.bind_some, Act.put, List.setIfInBounds_toArray, List.set_cons_zero, List.set_cons_succ]
  rw [e9]
  show wpList _ _ _ (List.cons _ (List.cons _ List.nil)) _ _
  clear e9 hx
  have HB8 := Lib.hid (HB6.out.ext hE)
  have hE8 : Ext w w' := Ext.trans hE6 hE
  obtain ⟨-, -, ⟨y0, y1, y2, y3, y4⟩⟩ := HB8.out
  go_wp2_with fail
  refine bodyPost_ret (v := .tuple #[.agg #[.slice none 0 0, .slice (some ⟨g, 0, none⟩) 1 c], .int .i64 0]) ?_ rfl ⟨_, rfl, ⟨_, rfl, ⟨g, c, U, e, V, l', e', rfl, ?_⟩⟩, ?_⟩
  ·simp [results, Tryz.results111, go_sem, y0, y1]
  ·exact HQZ.out.putN (HB8.out.2.2.ne HQZ.out) _
  ·exact hE8.putN (by omega) _
set_option maxRecDepth 100000 in
set_option maxHeartbeats 3200000 in
theorem ref09_Neg {b off c a d n k m l : Nat} {s : Bool} {U V : Option Addr} {w : World} (h : Q4 w b off s (.slice U n k) false (.slice V m l)) (hu : Words w (.slice U n k) (limbs a)) (hv : Words w (.slice V m l) (limbs d)) :
  Calls Tryz.prog 112 #[.agg #[.slice none 0 0, .slice (some ⟨b, off, none⟩) 1 c]] w (Ret w fun r w' => ∃ g c', r = .agg #[.slice none 0 0, .slice (some ⟨g, 0, none⟩) 1 c'] ∧ Q4 w' g 0 (!s && decide (0 < a)) (.slice U n k) false (.slice V m l)) := by
 have mixed : Tryz.prog.follows .mixedOrders = true := by kernel_rfl
 have HN := Lib.hid (fun w1 (hx : Ext w w1) => ref06_Neg (c := c) (h.ext hx) (hu.ext hx) (hv.ext hx))
 clear h hu hv
 generalize (!s && decide (0 < a)) = sg at *
 obtain ⟨W4, hW4⟩ : ∃ W4, ((w.alloc (.cells #[.slice none 0 0, .slice (some ⟨b, off, none⟩) 1 c] 38)).alloc (.cells #[.slice none 0 0, .slice none 0 0] 38)) = W4 := ⟨_, rfl⟩
 have HB : Hid (BoxN W4 w.heap.size (.slice (some ⟨b, off, none⟩) 1 c) ∧ BoxN W4 (w.heap.size + 1) (.slice none 0 0)) := by
  rw [← hW4]
  refine ⟨(BoxN.new w _ _).ext (Ext.alloc _ _), ?_⟩
  have := BoxN.new (w.alloc (.cells #[.slice none 0 0, .slice (some ⟨b, off, none⟩) 1 c] 38)) (.slice none 0 0) 38
  rwa [World.size_alloc] at this
 have hE4 : Ext w W4 := by rw [← hW4]; exact (by repeat first|exact xA _|assumption|refine xB ?_ _|refine xC ?_|refine xD ?_ _|refine xE ?_ (by simp <;> omega) _|refine xF ?_ (by assumption))
 have HW4 := Lib.hid hW4
 clear hW4
 go_enter Tryz.func112, Tryz.ntmps112
 go_upto_region 1 with fail
 rw [HW4.out]
 refine wp_region_ext 8 11 (fun op v w' => match op with
  | 0 => v = .pointer (some ⟨w.heap.size, 0, none⟩)
  | 1 => v = .slice none 0 0
  | 2 => v = .pointer (some ⟨w.heap.size, 0, none⟩)
  | 3 => v = .slice none 0 0
  | 4 => v = .pointer (some ⟨w.heap.size, 1, none⟩)
  | 5 => v = .slice (some ⟨b, off, none⟩) 1 c
  | 6 => ∃ g c', v = .slice (some ⟨g, 0, none⟩) 1 c' ∧ Q4 w' g 0 sg (.slice U n k) false (.slice V m l)
  | 7 => ∃ g c', v = .agg #[.slice none 0 0, .slice (some ⟨g, 0, none⟩) 1 c'] ∧ Q4 w' g 0 sg (.slice U n k) false (.slice V m l)
  | _ => False)
  ((fun _ _ _ _ => True)) mixed (by kernel_rfl) rfl ?_ (AllLt.all ?_) ?_
 ·intro i v wa wb hx
  match i with
  | 6 => exact fun ⟨g, c', h, hq⟩ => ⟨g, c', h, hq.ext hx⟩
  | 7 => exact fun ⟨g, c', h, hq⟩ => ⟨g, c', h, hq.ext hx⟩
  | 0 | 1 | 2 | 3 | 4 | 5 => exact id
  | _ + 8 => exact id
 ·refine ⟨⟨⟨⟨⟨⟨⟨⟨trivial, ?_⟩, ?_⟩, ?_⟩, ?_⟩, ?_⟩, ?_⟩, ?_⟩, ?_⟩
  ·refine PreOp.of _ _ rfl rfl rfl ?_
   intro vs w' hx hnd
   have hE : Ext W4 w' := Ext.trans (Ext.drew _) hx
   clear hnd
   simp only [fill]
   obtain ⟨⟨p0, p1, -⟩, -⟩ := And.intro (HB.out.1.ext hE) (HB.out.2.ext hE)
   go_wp2_with fail
   exact ⟨rfl, Ext.refl _, rfl, fun _ _ _ _ => trivial⟩
  ·refine PreOp.of _ _ rfl rfl rfl ?_
   intro vs w' hx hnd
   have hE : Ext W4 w' := Ext.trans (Ext.drew _) hx
   have e0 : vs 0 = .pointer (some ⟨w.heap.size, 0, none⟩) := hnd 0 (by kernel_rfl) (by omega)
   clear hnd
   simp only [fill, dstOf, List.getElem?_toArray, List.getElem?_cons_zero, Option.bind_some, Act.put, List.setIfInBounds_toArray, List.set_cons_zero, List.set_cons_succ]
   rw [e0]
   obtain ⟨⟨p0, p1, -⟩, -⟩ := And.intro (HB.out.1.ext hE) (HB.out.2.ext hE)
   go_wp2_with fail
   exact ⟨rfl, Ext.refl _, rfl, fun _ _ _ _ => trivial⟩
  ·refine PreOp.of _ _ rfl rfl rfl ?_
   intro vs w' hx hnd
   have hE : Ext W4 w' := Ext.trans (Ext.drew _) hx
   clear hnd
   simp only [fill, dstOf, List.getElem?_toArray, List.getElem?_cons_zero, List.getElem?_cons_succ, Option.bind_some, Act.put, List.setIfInBounds_toArray, List.set_cons_zero, List.set_cons_succ]
   obtain ⟨⟨p0, p1, -⟩, -⟩ := And.intro (HB.out.1.ext hE) (HB.out.2.ext hE)
   go_wp2_with fail
   exact ⟨rfl, Ext.refl _, rfl, fun _ _ _ _ => trivial⟩
  ·refine PreOp.of _ _ rfl rfl rfl ?_
   intro vs w' hx hnd
   have hE : Ext W4 w' := Ext.trans (Ext.drew _) hx
   have e2 : vs 2 = .pointer (some ⟨w.heap.size, 0, none⟩) := hnd 2 (by kernel_rfl) (by omega)
   clear hnd
   simp only [fill, dstOf, List.getElem?_toArray, List.getElem?_cons_zero, List.getElem?_cons_succ, Option.bind_some, Act.put, List.setIfInBounds_toArray, List.set_cons_zero, List.set_cons_succ]
   rw [e2]
   obtain ⟨⟨p0, p1, -⟩, -⟩ := And.intro (HB.out.1.ext hE) (HB.out.2.ext hE)
   go_wp2_with fail
   exact ⟨rfl, Ext.refl _, rfl, fun _ _ _ _ => trivial⟩
  ·refine PreOp.of _ _ rfl rfl rfl ?_
   intro vs w' hx hnd
   have hE : Ext W4 w' := Ext.trans (Ext.drew _) hx
   clear hnd
   simp only [fill, dstOf, List.getElem?_toArray, List.getElem?_cons_zero, List.getElem?_cons_succ, Option.bind_some, Act.put, List.setIfInBounds_toArray, List.set_cons_zero, List.set_cons_succ]
   obtain ⟨⟨p0, p1, -⟩, -⟩ := And.intro (HB.out.1.ext hE) (HB.out.2.ext hE)
   go_wp2_with fail
   exact ⟨rfl, Ext.refl _, rfl, fun _ _ _ _ => trivial⟩
  ·refine PreOp.of _ _ rfl rfl rfl ?_
   intro vs w' hx hnd
   have hE : Ext W4 w' := Ext.trans (Ext.drew _) hx
   have e4 : vs 4 = .pointer (some ⟨w.heap.size, 1, none⟩) := hnd 4 (by kernel_rfl) (by omega)
   clear hnd
   simp only [fill, dstOf, List.getElem?_toArray, List.getElem?_cons_zero, List.getElem?_cons_succ, Option.bind_some, Act.put, List.setIfInBounds_toArray, List.set_cons_zero, List.set_cons_succ]
   rw [e4]
   obtain ⟨⟨p0, p1, -⟩, -⟩ := And.intro (HB.out.1.ext hE) (HB.out.2.ext hE)
   go_wp2_with fail
   exact ⟨rfl, Ext.refl _, rfl, fun _ _ _ _ => trivial⟩
  ·refine PreOp.of _ _ rfl rfl rfl ?_
   intro vs w' hx hnd
   have hE : Ext W4 w' := Ext.trans (Ext.drew _) hx
   have e3 : vs 3 = .slice none 0 0 := hnd 3 (by kernel_rfl) (by omega)
   have e5 : vs 5 = .slice (some ⟨b, off, none⟩) 1 c := hnd 5 (by kernel_rfl) (by omega)
   clear hnd
   simp only [fill, dstOf, List.getElem?_toArray, List.getElem?_cons_zero, List.getElem?_cons_succ, Option.bind_some, Act.put, List.setIfInBounds_toArray, List.set_cons_zero, List.set_cons_succ]
   rw [e3, e5]
   obtain ⟨⟨p0, p1, -⟩, -⟩ := And.intro (HB.out.1.ext hE) (HB.out.2.ext hE)
   go_wp2_with fail
   refine (HN.out _ (Ext.trans hE4 hE)).mono ?_
   rintro e w4 ⟨z, rfl, ⟨g, c', rfl, -, hq⟩, hx4⟩
   have HQZ := Lib.hid hq
   clear hq
   go_wp2_with fail
   exact ⟨rfl, hx4, ⟨g, c', rfl, HQZ.out⟩, fun _ _ _ _ => trivial⟩
  ·refine PreOp.of _ _ rfl rfl rfl ?_
   intro vs w' hx hnd
   have hE : Ext W4 w' := Ext.trans (Ext.drew _) hx
   have e1 : vs 1 = .slice none 0 0 := hnd 1 (by kernel_rfl) (by omega)
   obtain ⟨g, c', e6, hq⟩ := hnd 6 (by kernel_rfl) (by omega)
   clear hnd
   simp only [fill, dstOf, List.getElem?_toArray, List.getElem?_cons_zero, List.getElem?_cons_succ, Option.bind_some, Act.put, List.setIfInBounds_toArray, List.set_cons_zero, List.set_cons_succ]
   rw [e1, e6]
   obtain ⟨⟨p0, p1, -⟩, -⟩ := And.intro (HB.out.1.ext hE) (HB.out.2.ext hE)
   have HQZ := Lib.hid hq
   clear hq
   go_wp2_with fail
   exact ⟨rfl, Ext.refl _, ⟨g, c', rfl, HQZ.out⟩, fun _ _ _ _ => trivial⟩
 ·intro vs w' hx hP hD
  have hE : Ext W4 w' := Ext.trans (Ext.drew _) hx
  obtain ⟨g, c', e7, hq⟩ := hP 7 (by omega)
  clear hP hD
  have HQZ := Lib.hid hq
  clear hq
  simp only [fill, dstOf, List.getElem?_toArray, List.getElem?_cons_zero, List.getElem?_cons_succ, Option.bind_some, Act.put, List.setIfInBounds_toArray, List.set_cons_zero, List.set_cons_succ]
  rw [e7]
  show wpList _ _ _ (List.cons _ List.nil) _ _
  clear e7 hx
  have HB8 := Lib.hid (HB.out.2.ext hE)
  have hE8 : Ext w w' := Ext.trans hE4 hE
  obtain ⟨y0, y1, y2, y3, y4⟩ := HB8.out
  go_wp2_with fail
  refine bodyPost_ret (v := .agg #[.slice none 0 0, .slice (some ⟨g, 0, none⟩) 1 c']) ?_ rfl ⟨_, rfl, ⟨g, c', rfl, ?_⟩, ?_⟩
  ·simp [results, Tryz.results112, go_sem, y0, y1]
  ·exact HQZ.out.putN (HB8.out.ne HQZ.out) _
  ·exact hE8.putN (by omega) _
theorem ref02_AddZ {s : Bool} {A A' B B' : Option Addr} {n n' m m' c c' k k' a d : Nat} {w : World} (h1 : Words w (.slice A n c) (limbs a)) (h2 : Words w (.slice A' n' c') (limbs d)) (h3 : Words w (.slice B m k) (limbs a)) (h4 : Words w (.slice B' m' k') (limbs d)) (hs : s = true → 0 < a) (hd : 0 < d) (hn : n ≤ 100000) (hn' : n' ≤ 100000) :
  Calls Tryz.prog 146 #[.agg #[.bool s, .slice A n c, .bool false, .slice A' n' c'], .agg #[.bool (!s && decide (0 < a)), .slice B m k, .bool false, .slice B' m' k']] w (Ret w fun r _ => ∃ U e V l' e', r = .agg #[.bool false, .slice U 0 e, .bool false, .slice V l' e']) := by
 have l0 : (limbs 0).length = 0 := by rw [limbs_zero]; rfl
 rcases Nat.eq_zero_or_pos a with rfl | ha
 ·obtain rfl : s = false := by cases s; rfl; exact absurd (hs rfl) (by omega)
  obtain rfl : m = 0 := by have := h3.len.1; omega
  refine (ref02_Add0 h1).mono ?_
  rintro e w1 ⟨rfl, hx⟩
  exact ⟨_, rfl, ⟨_, _, _, _, _, rfl⟩, hx⟩
 ·rw [decide_eq_true ha, Bool.and_true]
  rcases Nat.lt_or_ge 1 d with h1d | h1d
  ·refine (ref02_AddD h1 h2 h3 h4 ha h1d hn hn').mono ?_
   rintro e w1 ⟨r, rfl, ⟨U, l, e, V, l', e', rfl, hw⟩, hx⟩
   obtain rfl : l = 0 := by have := hw.len.1; omega
   exact ⟨_, rfl, ⟨_, _, _, _, _, rfl⟩, hx⟩
  ·obtain rfl : d = 1 := by omega
   refine (ref02_Add1 h1 h2 h3 h4 ha hn).mono ?_
   rintro e w1 ⟨r, rfl, ⟨U, l, e, V, l', e', rfl, hw⟩, hx⟩
   obtain rfl : l = 0 := by have := hw.len.1; omega
   exact ⟨_, rfl, ⟨_, _, _, _, _, rfl⟩, hx⟩
set_option maxRecDepth 100000 in
set_option maxHeartbeats 3200000 in
theorem ref09_Sub {b1 o1 c1 b2 o2 c2 n1 k1 m1 l1 n2 k2 m2 l2 a d : Nat} {s : Bool} {U1 V1 U2 V2 : Option Addr} {w : World} (h1 : Q4 w b1 o1 s (.slice U1 n1 k1) false (.slice V1 m1 l1)) (h2 : Q4 w b2 o2 s (.slice U2 n2 k2) false (.slice V2 m2 l2))
  (g1 : Words w (.slice U1 n1 k1) (limbs a)) (g2 : Words w (.slice V1 m1 l1) (limbs d)) (g3 : Words w (.slice U2 n2 k2) (limbs a)) (g4 : Words w (.slice V2 m2 l2) (limbs d)) (hs : s = true → 0 < a) (hd : 0 < d) (hn : n1 ≤ 100000) (hn' : m1 ≤ 100000) :
  Calls Tryz.prog 58 #[.agg #[.slice none 0 0, .slice (some ⟨b1, o1, none⟩) 1 c1], .agg #[.slice none 0 0, .slice (some ⟨b2, o2, none⟩) 1 c2]] w (Ret w fun r w' => ∃ z, r = .tuple #[.agg #[.slice none 0 0, z], .int .i64 0] ∧ Zero1 w' z) := by
 have mixed : Tryz.prog.follows .mixedOrders = true := by kernel_rfl
 have HN := Lib.hid (fun w1 (hx : Ext w w1) => ref09_Neg (c := c2) (h2.ext hx) (g3.ext hx) (g4.ext hx))
 have HA := Lib.hid (fun w1 (hx : Ext w w1) g c' (hq : Q4 w1 g 0 (!s && decide (0 < a)) (.slice U2 n2 k2) false (.slice V2 m2 l2)) => ref09_Add (c1 := c1) (c2 := c') (h1.ext hx) hq (fun w2 hx2 => ref02_AddZ (g1.ext (Ext.trans hx hx2)) (g2.ext (Ext.trans hx hx2)) (g3.ext (Ext.trans hx hx2)) (g4.ext (Ext.trans hx hx2)) hs hd hn hn'))
 clear h1 h2 g1 g2 g3 g4 hs hd hn hn'
 generalize (!s && decide (0 < a)) = sg at *
 obtain ⟨W4, hW4⟩ : ∃ W4, (((w.alloc (.cells #[.slice none 0 0, .slice (some ⟨b1, o1, none⟩) 1 c1] 38)).alloc (.cells #[.slice none 0 0, .slice (some ⟨b2, o2, none⟩) 1 c2] 38)).alloc (.cells #[.slice none 0 0, .slice none 0 0] 38)) = W4 := ⟨_, rfl⟩
 have HB : Hid (NB3 W4 w.heap.size (.slice (some ⟨b1, o1, none⟩) 1 c1) (.slice (some ⟨b2, o2, none⟩) 1 c2)) := by rw [← hW4]; exact nb3 w _ _
 have hE4 : Ext w W4 := by rw [← hW4]; exact (by repeat first|exact xA _|assumption|refine xB ?_ _|refine xC ?_|refine xD ?_ _|refine xE ?_ (by simp <;> omega) _|refine xF ?_ (by assumption))
 have HW4 := Lib.hid hW4
 clear hW4
 go_enter Tryz.func58, Tryz.ntmps58
 go_upto_region 1 with fail
 rw [HW4.out]
 refine wp_region_ext 6 12 (fun op v w' => match op with
  | 0 => v = .agg #[.slice none 0 0, .slice (some ⟨b1, o1, none⟩) 1 c1]
  | 1 => v = .agg #[.slice none 0 0, .slice (some ⟨b2, o2, none⟩) 1 c2]
  | 2 => ∃ g c', v = .agg #[.slice none 0 0, .slice (some ⟨g, 0, none⟩) 1 c'] ∧ Q4 w' g 0 sg (.slice U2 n2 k2) false (.slice V2 m2 l2)
  | 3 => ∃ z, v = .tuple #[.agg #[.slice none 0 0, z], .int .i64 0] ∧ Zero1 w' z
  | 4 => ∃ z, v = .agg #[.slice none 0 0, z] ∧ Zero1 w' z
  | 5 => v = .int .i64 0
  | _ => False)
  ((fun _ _ _ _ => True)) mixed (by kernel_rfl) rfl ?_ (AllLt.all ?_) ?_
 ·intro i v wa wb hx
  match i with
  | 2 => exact fun ⟨g, c', h, hq⟩ => ⟨g, c', h, hq.ext hx⟩
  | 3 => exact fun ⟨z, h, ⟨g, c, U, e, V, l', e', h', hq⟩⟩ => ⟨z, h, ⟨g, c, U, e, V, l', e', h', hq.ext hx⟩⟩
  | 4 => exact fun ⟨z, h, ⟨g, c, U, e, V, l', e', h', hq⟩⟩ => ⟨z, h, ⟨g, c, U, e, V, l', e', h', hq.ext hx⟩⟩
  | 0 | 1 | 5 => exact id
  | _ + 6 => exact id
 ·refine ⟨⟨⟨⟨⟨⟨trivial, ?_⟩, ?_⟩, ?_⟩, ?_⟩, ?_⟩, ?_⟩
  ·refine PreOp.of _ _ rfl rfl rfl ?_
   intro vs w' hx hnd
   have hE : Ext W4 w' := Ext.trans (Ext.drew _) hx
   clear hnd
   simp only [fill]
   obtain ⟨⟨p0, p1, -⟩, ⟨q0, q1, -⟩, -⟩ := HB.out.ext hE
   go_wp2_with fail
   exact ⟨rfl, Ext.refl _, rfl, fun _ _ _ _ => trivial⟩
  ·refine PreOp.of _ _ rfl rfl rfl ?_
   intro vs w' hx hnd
   have hE : Ext W4 w' := Ext.trans (Ext.drew _) hx
   clear hnd
   simp only [fill, dstOf, List.getElem?_toArray, List.getElem?_cons_zero, Option.bind_some, Act.put, List.setIfInBounds_toArray, List.set_cons_zero, List.set_cons_succ]
   obtain ⟨⟨p0, p1, -⟩, ⟨q0, q1, -⟩, -⟩ := HB.out.ext hE
   go_wp2_with fail
   exact ⟨rfl, Ext.refl _, rfl, fun _ _ _ _ => trivial⟩
  ·refine PreOp.of _ _ rfl rfl rfl ?_
   intro vs w' hx hnd
   have hE : Ext W4 w' := Ext.trans (Ext.drew _) hx
   have e1 : vs 1 = .agg #[.slice none 0 0, .slice (some ⟨b2, o2, none⟩) 1 c2] := hnd 1 (by kernel_rfl) (by omega)
   clear hnd
   simp only [fill, dstOf, List.getElem?_toArray, List.getElem?_cons_zero, List.getElem?_cons_succ, Option.bind_some, Act.put, List.setIfInBounds_toArray, List.set_cons_zero, List.set_cons_succ]
   rw [e1]
   obtain ⟨⟨p0, p1, -⟩, ⟨q0, q1, -⟩, -⟩ := HB.out.ext hE
   go_wp2_with fail
   refine (HN.out _ (Ext.trans hE4 hE)).mono ?_
   rintro e w4 ⟨z, rfl, ⟨g, c', rfl, hq⟩, hx4⟩
   have HQZ := Lib.hid hq
   clear hq
   go_wp2_with fail
   exact ⟨rfl, hx4, ⟨g, c', rfl, HQZ.out⟩, fun _ _ _ _ => trivial⟩
  ·refine PreOp.of _ _ rfl rfl rfl ?_
   intro vs w' hx hnd
   have hE : Ext W4 w' := Ext.trans (Ext.drew _) hx
   have e0 : vs 0 = .agg #[.slice none 0 0, .slice (some ⟨b1, o1, none⟩) 1 c1] := hnd 0 (by kernel_rfl) (by omega)
   obtain ⟨g, c', e2, hq⟩ := hnd 2 (by kernel_rfl) (by omega)
   clear hnd
   simp only [fill, dstOf, List.getElem?_toArray, List.getElem?_cons_zero, List.getElem?_cons_succ, Option.bind_some, Act.put, List.setIfInBounds_toArray, List.set_cons_zero, List.set_cons_succ]
   rw [e0, e2]
   obtain ⟨⟨p0, p1, -⟩, ⟨q0, q1, -⟩, -⟩ := HB.out.ext hE
   go_wp2_with fail
   refine (HA.out _ (Ext.trans hE4 hE) g c' hq).mono ?_
   rintro e w4 ⟨z, rfl, ⟨z, rfl, hz⟩, hx4⟩
   go_wp2_with fail
   exact ⟨rfl, hx4, ⟨z, rfl, hz⟩, fun _ _ _ _ => trivial⟩
  ·refine PreOp.of _ _ rfl rfl rfl ?_
   intro vs w' hx hnd
   have hE : Ext W4 w' := Ext.trans (Ext.drew _) hx
   obtain ⟨z, e3, hz⟩ := hnd 3 (by kernel_rfl) (by omega)
   clear hnd
   simp only [fill, dstOf, List.getElem?_toArray, List.getElem?_cons_zero, List.getElem?_cons_succ, Option.bind_some, Act.put, List.setIfInBounds_toArray, List.set_cons_zero, List.set_cons_succ]
   rw [e3]
   obtain ⟨⟨p0, p1, -⟩, ⟨q0, q1, -⟩, -⟩ := HB.out.ext hE
   go_wp2_with fail
   exact ⟨rfl, Ext.refl _, ⟨z, rfl, hz⟩, fun _ _ _ _ => trivial⟩
  ·refine PreOp.of _ _ rfl rfl rfl ?_
   intro vs w' hx hnd
   have hE : Ext W4 w' := Ext.trans (Ext.drew _) hx
   obtain ⟨z, e3, hz⟩ := hnd 3 (by kernel_rfl) (by omega)
   clear hnd
   simp only [fill, dstOf, List.getElem?_toArray, List.getElem?_cons_zero, List.getElem?_cons_succ, Option.bind_some, Act.put, List.setIfInBounds_toArray, List.set_cons_zero, List.set_cons_succ]
   rw [e3]
   obtain ⟨⟨p0, p1, -⟩, ⟨q0, q1, -⟩, -⟩ := HB.out.ext hE
   go_wp2_with fail
   exact ⟨rfl, Ext.refl _, rfl, fun _ _ _ _ => trivial⟩
 ·intro vs w' hx hP hD
  have hE : Ext W4 w' := Ext.trans (Ext.drew _) hx
  obtain ⟨z, e4, ⟨g, c, U, e, V, l', e', rfl, hq⟩⟩ := hP 4 (by omega)
  have e5 : vs 5 = .int .i64 0 := hP 5 (by omega)
  clear hP hD
  have HQZ := Lib.hid hq
  clear hq
  simp only [fill, dstOf, List.getElem?_toArray, List.getElem?_cons_zero, List.getElem?_cons_succ, Option.bind_some, Act.put, List.setIfInBounds_toArray, List.set_cons_zero, List.set_cons_succ]
  rw [e4, e5]
  show wpList _ _ _ (List.cons _ (List.cons _ List.nil)) _ _
  clear e4 e5 hx
  have HB8 := Lib.hid (HB.out.2.2.ext hE)
  have hE8 : Ext w w' := Ext.trans hE4 hE
  obtain ⟨y0, y1, y2, y3, y4⟩ := HB8.out
  go_wp2_with fail
  refine bodyPost_ret (v := .tuple #[.agg #[.slice none 0 0, .slice (some ⟨g, 0, none⟩) 1 c], .int .i64 0]) ?_ rfl ⟨_, rfl, ⟨_, rfl, ⟨g, c, U, e, V, l', e', rfl, ?_⟩⟩, ?_⟩
  ·simp [results, Tryz.results58, go_sem, y0, y1]
  ·exact HQZ.out.putN (HB8.out.ne HQZ.out) _
  ·exact hE8.putN (by omega) _
set_option maxRecDepth 100000 in
set_option maxHeartbeats 3200000 in
theorem ref09_Cmp {b1 o1 c1 b2 o2 c2 n1 k1 m1 l1 n2 k2 m2 l2 a d : Nat} {s : Bool} {U1 V1 U2 V2 : Option Addr} {w : World} (h1 : Q4 w b1 o1 s (.slice U1 n1 k1) false (.slice V1 m1 l1)) (h2 : Q4 w b2 o2 s (.slice U2 n2 k2) false (.slice V2 m2 l2))
  (g1 : Words w (.slice U1 n1 k1) (limbs a)) (g2 : Words w (.slice V1 m1 l1) (limbs d)) (g3 : Words w (.slice U2 n2 k2) (limbs a)) (g4 : Words w (.slice V2 m2 l2) (limbs d)) (hs : s = true → 0 < a) (hd : 0 < d) (hn : n1 ≤ 100000) (hn' : m1 ≤ 100000) :
  Calls Tryz.prog 21 #[.agg #[.slice none 0 0, .slice (some ⟨b1, o1, none⟩) 1 c1], .agg #[.slice none 0 0, .slice (some ⟨b2, o2, none⟩) 1 c2]] w fun e w' => e = .returned (.tuple #[.int .i64 0, .int .i64 0]) ∧ Ext w w' := by
 have HS := Lib.hid (fun w1 (hx : Ext w w1) => ref09_Sub (c1 := c1) (c2 := c2) (h1.ext hx) (h2.ext hx) (g1.ext hx) (g2.ext hx) (g3.ext hx) (g4.ext hx) hs hd hn hn')
 clear h1 h2 g1 g2 g3 g4 hs hd hn hn'
 go_enter Tryz.func21, Tryz.ntmps21
 go_wp2_with fail
 refine (HS.out _ (by repeat first|exact xA _|assumption|refine xB ?_ _|refine xC ?_|refine xD ?_ _|refine xE ?_ (by simp <;> omega) _|refine xF ?_ (by assumption))).mono ?_
 rintro er W5 ⟨v, rfl, ⟨z, rfl, ⟨g, c, U, e, V, l', e', rfl, hq⟩⟩, hx5⟩
 have HQ := Lib.hid hq
 have hE5 : Ext w W5 := (by repeat first|exact xA _|assumption|refine xB ?_ _|refine xC ?_|refine xD ?_ _|refine xE ?_ (by simp <;> omega) _|refine xF ?_ (by assumption))
 clear hq
 go_wp2_with fail
 refine (ref09_Sign (HQ.out.ext (Ext.alloc _ _)) (by rw [limbs_zero]; exact ⟨U, e, rfl, by simp, by simp, by simp [Limb], by simp⟩)).mono ?_
 rintro er W6 ⟨rfl, hx6⟩
 go_wp2_with fail
 refine bodyPost_ret (v := .tuple #[.int .i64 0, .int .i64 0]) (by simp [results, Tryz.results21, go_sem]) rfl ⟨rfl, (by repeat first|exact xA _|assumption|refine xB ?_ _|refine xC ?_|refine xD ?_ _|refine xE ?_ (by simp <;> omega) _|refine xF ?_ (by assumption))⟩
set_option maxRecDepth 100000 in
set_option maxHeartbeats 3200000 in
theorem ref09_Equal {b1 o1 c1 b2 o2 c2 n1 k1 m1 l1 n2 k2 m2 l2 a d : Nat} {s : Bool} {U1 V1 U2 V2 : Option Addr} {w : World} (h1 : Q4 w b1 o1 s (.slice U1 n1 k1) false (.slice V1 m1 l1)) (h2 : Q4 w b2 o2 s (.slice U2 n2 k2) false (.slice V2 m2 l2))
  (g1 : Words w (.slice U1 n1 k1) (limbs a)) (g2 : Words w (.slice V1 m1 l1) (limbs d)) (g3 : Words w (.slice U2 n2 k2) (limbs a)) (g4 : Words w (.slice V2 m2 l2) (limbs d)) (hs : s = true → 0 < a) (hd : 0 < d) (hn : n1 ≤ 100000) (hn' : m1 ≤ 100000) :
  Calls Tryz.prog 11 #[.agg #[.slice none 0 0, .slice (some ⟨b1, o1, none⟩) 1 c1], .agg #[.slice none 0 0, .slice (some ⟨b2, o2, none⟩) 1 c2]] w fun e w' => e = .returned (.bool true) ∧ Ext w w' := by
 have HS := Lib.hid (fun w1 (hx : Ext w w1) => ref09_Cmp (c1 := c1) (c2 := c2) (h1.ext hx) (h2.ext hx) (g1.ext hx) (g2.ext hx) (g3.ext hx) (g4.ext hx) hs hd hn hn')
 clear h1 h2 g1 g2 g3 g4 hs hd hn hn'
 go_enter Tryz.func11, Tryz.ntmps11
 go_wp2_with fail
 refine (HS.out _ (by repeat first|exact xA _|assumption|refine xB ?_ _|refine xC ?_|refine xD ?_ _|refine xE ?_ (by simp <;> omega) _|refine xF ?_ (by assumption))).mono ?_
 rintro er W5 ⟨rfl, hx5⟩
 go_wp2_with fail
 go_ret
 exact ⟨rfl, (by repeat first|exact xA _|assumption|refine xB ?_ _|refine xC ?_|refine xD ?_ _|refine xE ?_ (by simp <;> omega) _|refine xF ?_ (by assumption))⟩
end Go.Proofs.YtjigihlhjhbkpaaGreatDoor
