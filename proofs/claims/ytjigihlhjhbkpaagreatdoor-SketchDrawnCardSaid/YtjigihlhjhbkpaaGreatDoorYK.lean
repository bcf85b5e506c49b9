/- The program's Drawn: how many numbers it returns; what it calls. -/
import Derived.Test.YtjigihlhjhbkpaaGreatDoorYJ
import Derived.Deep.AppendLies
import Derived.Deep.RegionLaw
import Derived.Lib.SliceRun
import Derived.Test.YtjigihlhjhbkpaaGreatDoorYG
namespace Go.Proofs.YtjigihlhjhbkpaaGreatDoor
open Go Go.RowKit
def AnySl (r : Value) (_ : World) : Prop := ∃ A n c, r = .slice A n c
theorem ownsRow_slice {w : World} {base e size n : Nat} {v : Value} {xs : List Value} (h : w.ownsRow base e size v n xs) : ∃ A c, v = .slice A n c := by
 rcases h.2 with ⟨h1, h2⟩ | ⟨g, cap, cur, h1, -⟩
 ·exact ⟨none, 0, by rw [h1, h2]⟩
 ·exact ⟨_, _, h1⟩
set_option maxRecDepth 100000 in
set_option maxHeartbeats 800000 in
theorem clone_u32 {A : Option Addr} {n c : Nat} {xs : List Nat} {w : World} (h : Words w (.slice A n c) xs) :
  Calls Tryz.prog 98 #[.slice A n c] w (Ret w AnySl) := by
 obtain ⟨rfl, hl, hm⟩ := h.len
 have qn : ∀ (w : World) (a : Option Addr) (n c n' c' : Nat), (binOp .eql 45 (.slice a n c) (.slice none n' c')).run Tryz.prog w = .ok (.bool a.isNone) w := fun w a n c n' c' => Lib.run_eql_slice_nil w _ _ a n c n' c' Tryz.underlying45
 cases A with
 | none =>
  go_enter Tryz.func98, Tryz.ntmps98
  go_wp2_with fail
  go_ret
  exact ⟨_, rfl, ⟨_, _, _, rfl⟩, (by repeat first|exact xA _|assumption|refine xB ?_ _|refine xC ?_|refine xD ?_ _|refine xE ?_ (by simp <;> omega) _|refine xF ?_ (by assumption))⟩
 | some a =>
  have hnews : ∀ j u, (wordVs xs)[j]? = some u → w.cell? (a.add j) = some u := by
   intro j u hj
   obtain ⟨hjl, hju⟩ := List.getElem?_eq_some_iff.1 hj
   simp [wordVs] at hjl
   obtain ⟨b, off, e1, hb, -, hcell⟩ := h.at_ hjl
   injection e1 with e1
   subst e1
   have := hcell j hjl
   rw [Addr.add_lit, this, ← hju]
   simp [wordVs, List.getElem?_eq_getElem hjl]
  have HN := Lib.hid hnews
  have hown : (w.alloc (.cells #[] 127)).ownsRow w.heap.size 127 1 (.slice (some ⟨w.heap.size, 0, none⟩) 0 0) 0 [] :=
   ⟨rfl, .inr ⟨w.heap.size, 0, #[], rfl, Nat.le_refl _, by rw [heap_alloc_new], Nat.le_refl _, Nat.zero_le _, rfl, rfl⟩⟩
  have HO := Lib.hid hown
  have HL := Lib.hid hm
  have HW : Hid ((wordVs xs).length = xs.length * 1) := by show _ = _; simp [wordVs]
  have HU : Hid (∀ u ∈ wordVs xs, u.oneCell' = true) := (by intro u hu; simp [wordVs] at hu; obtain ⟨x, _, rfl⟩ := hu; rfl)
  clear h hnews hown hm
  generalize wordVs xs = ws at *
  generalize xs.length = n at *
  obtain ⟨i0, hi, hz0, hz1, hz2⟩ := info_parts infoU32
  go_enter Tryz.func98, Tryz.ntmps98
  go_wp2_with (at_builtin; refine wpList_append_own _ rfl _ _ 45 rfl w.heap.size 127 i0 (.int .u32 0) 1 4 Tryz.underlying45 hi hz0 hz1 hz2 rfl (by decide) _ 0 [] rfl HO.out a n c ws rfl HW.out ?c1 ?c2 (by have := HL.out; unfold maxLen; omega) (by have := HL.out; omega) (by simp) ?_)
  case c1 =>
   intro j u hj
   exact Lib.cell?_alloc_some _ (HN.out j u hj)
  case c2 => exact HU.out
  intro v' w' h1 h2 _
  obtain ⟨A', c', rfl⟩ := ownsRow_slice h1
  go_wp2_with fail
  go_ret
  exact ⟨_, rfl, ⟨_, _, _, rfl⟩, (Below.refl _ _).alloc (Nat.le_refl _) _ |>.grown h2 (by simp) (fun k e => by cases e; simp)⟩
end Go.Proofs.YtjigihlhjhbkpaaGreatDoor
namespace Go.Proofs.YtjigihlhjhbkpaaGreatDoor
open Go Go.RowKit
def RatSl (a b : Bool) (r : Value) (_ : World) : Prop := ∃ A1 n1 c1 A2 n2 c2, r = .agg #[.bool a, .slice A1 n1 c1, .bool b, .slice A2 n2 c2]
theorem CellsAt.four {w : World} {g : Nat} {a b c d : Value} (k : CellsAt w g [a, b, c, d]) :
  w.cell? ⟨g, 0, none⟩ = some a ∧ w.cell? ⟨g, 1, none⟩ = some b ∧ w.cell? ⟨g, 2, none⟩ = some c ∧ w.cell? ⟨g, 3, none⟩ = some d :=
 ⟨k.2 0 _ rfl, k.2 1 _ rfl, k.2 2 _ rfl, k.2 3 _ rfl⟩
theorem cell_set_off {w : World} {g i j : Nat} {u : Value} (h : i ≠ j) : (w.setCell ⟨g, i, none⟩ u).cell? ⟨g, j, none⟩ = w.cell? ⟨g, j, none⟩ := by
 rw [World.cell?_setCell_other]
 intro e; injection e with _ e2 _; exact h e2
theorem cell_set_blk {w : World} {g g' i j : Nat} {u : Value} (h : g ≠ g') : (w.setCell ⟨g, i, none⟩ u).cell? ⟨g', j, none⟩ = w.cell? ⟨g', j, none⟩ := by
 rw [World.cell?_setCell_other]
 intro e; injection e with e1 _ _; exact h e1
theorem put13 {w w3 : World} {g g' : Nat} {x0 x1 x2 x3 u v : Value} {cs : List Value} (h : CellsAt w3 g [x0, x1, x2, x3]) (h' : CellsAt w3 g' cs) (hg : g ≠ g') (hf : ∀ j, w3.frozen? ⟨g', j, none⟩ = false) (hE : Ext w w3) (hle : w.heap.size ≤ g) :
  CellsAt ((w3.setCell ⟨g, 1, none⟩ u).setCell ⟨g, 3, none⟩ v) g [x0, u, x2, v] ∧ CellsAt ((w3.setCell ⟨g, 1, none⟩ u).setCell ⟨g, 3, none⟩ v) g' cs ∧ (∀ j, ((w3.setCell ⟨g, 1, none⟩ u).setCell ⟨g, 3, none⟩ v).frozen? ⟨g', j, none⟩ = false) ∧ Ext w ((w3.setCell ⟨g, 1, none⟩ u).setCell ⟨g, 3, none⟩ v) := by
 refine ⟨⟨by simpa [World.setCell] using h.1, fun i y hi => ?_⟩, ⟨by simpa [World.setCell] using h'.1, fun i y hi => ?_⟩, fun j => ?_, (hE.pset hle _).pset hle _⟩
 ·match i, hi with
  | 0, hi => (cases hi; rw [cell_set_off (by decide), cell_set_off (by decide)]; exact h.2 0 _ rfl)
  | 1, hi => (cases hi; rw [cell_set_off (by decide)]; exact World.cell?_setCell_same _ _ _ (h.2 1 _ rfl))
  | 2, hi => (cases hi; rw [cell_set_off (by decide), cell_set_off (by decide)]; exact h.2 2 _ rfl)
  | 3, hi => (cases hi; exact World.cell?_setCell_same _ _ _ ((cell_set_off (by decide)).trans (h.2 3 _ rfl)))
  | i + 4, hi => simp at hi
 ·rw [cell_set_blk hg, cell_set_blk hg]; exact h'.2 i y hi
 ·rw [World.frozen?_setCell, World.frozen?_setCell]; exact hf j
set_option maxRecDepth 100000 in
set_option maxHeartbeats 1600000 in
theorem num_copyRat {a b : Bool} {xs ys : List Nat} {v v' : Value} {w : World} (h : Words w v xs) (h' : Words w v' ys) :
  Calls Tryz.prog 53 #[.agg #[.bool a, v, .bool b, v']] w (Ret w (RatSl a b)) := by
 obtain ⟨A, c, rfl, hl, hm⟩ := h.form
 obtain ⟨A', c', rfl, hl', hm'⟩ := h'.form
 have HC1 := Lib.hid (fun w1 (hx : Ext w w1) => clone_u32 (h.ext hx))
 have HC2 := Lib.hid (fun w1 (hx : Ext w w1) => clone_u32 (h'.ext hx))
 clear h h'
 generalize xs.length = n at *
 generalize ys.length = n' at *
 obtain ⟨W0, hW0⟩ : ∃ W0, ((w.alloc (.cells #[.bool a, .slice A n c, .bool b, .slice A' n' c'] 49)).alloc (.cells #[.bool false, .slice none 0 0, .bool false, .slice none 0 0] 49)) = W0 := ⟨_, rfl⟩
 have HB0 : Hid (CellsAt W0 w.heap.size [.bool a, .slice A n c, .bool b, .slice A' n' c']) := by rw [← hW0]; exact (CellsAt.new w _ _).ext (Ext.alloc _ _)
 have HR0 : Hid (CellsAt W0 (w.heap.size + 1) [.bool false, .slice none 0 0, .bool false, .slice none 0 0]) := by
  rw [← hW0]; have := CellsAt.new (w.alloc (.cells #[.bool a, .slice A n c, .bool b, .slice A' n' c'] 49)) [.bool false, .slice none 0 0, .bool false, .slice none 0 0] 49
  rwa [World.size_alloc] at this
 have hf0 : ∀ j, W0.frozen? ⟨w.heap.size, j, none⟩ = false ∧ W0.frozen? ⟨w.heap.size + 1, j, none⟩ = false := fun j => by rw [← hW0]; simp [go_sem]
 have HF0 : Hid (∀ W j, Ext W0 W → W.frozen? ⟨w.heap.size, j, none⟩ = false ∧ W.frozen? ⟨w.heap.size + 1, j, none⟩ = false) := fun W j hx => ⟨(Below.frozen hx HB0.out.1).trans (hf0 j).1, (Below.frozen hx HR0.out.1).trans (hf0 j).2⟩
 have HE0 : Hid (Ext w W0) := by rw [← hW0]; exact (by repeat first|exact xA _|assumption|refine xB ?_ _|refine xC ?_|refine xD ?_ _|refine xE ?_ (by simp <;> omega) _|refine xF ?_ (by assumption))
 have HW0 := Lib.hid hW0
 clear hW0 hf0
 go_enter Tryz.func53, Tryz.ntmps53
 go_upto_region 1 with fail
 rw [HW0.out]
 obtain ⟨y0, y1, y2, y3⟩ := HB0.out.four
 have hE0 := HE0.out
 go_cut [3] (fun _ wx => ∃ A1 n1 c1 A2 n2 c2, Hid (CellsAt wx w.heap.size [.bool a, .slice A1 n1 c1, .bool b, .slice A2 n2 c2] ∧ CellsAt wx (w.heap.size + 1) [.bool false, .slice none 0 0, .bool false, .slice none 0 0] ∧ (∀ j, wx.frozen? ⟨w.heap.size + 1, j, none⟩ = false) ∧ Ext w wx))
 case first =>
  go_region_with (first
   | (go_at_call_of 98 (Value.slice A n c); refine (HC1.out _ (by repeat first|exact xA _|assumption|refine xB ?_ _|refine xC ?_|refine xD ?_ _|refine xE ?_ (by simp <;> omega) _|refine xF ?_ (by assumption))).mono ?_; rintro e w2 ⟨r2, rfl, ⟨X1, m1, k1, rfl⟩, hx2⟩; obtain ⟨p0, p1, p2, p3⟩ := (HB0.out.ext (w' := w2) (by repeat first|exact xA _|assumption|refine xB ?_ _|refine xC ?_|refine xD ?_ _|refine xE ?_ (by simp <;> omega) _|refine xF ?_ (by assumption))).four; have g1 := (HF0.out w2 1 (by repeat first|exact xA _|assumption|refine xB ?_ _|refine xC ?_|refine xD ?_ _|refine xE ?_ (by simp <;> omega) _|refine xF ?_ (by assumption))).1; have g3 := (HF0.out w2 3 (by repeat first|exact xA _|assumption|refine xB ?_ _|refine xC ?_|refine xD ?_ _|refine xE ?_ (by simp <;> omega) _|refine xF ?_ (by assumption))).1)
   | (go_at_call_of 98 (Value.slice A' n' c'); refine (HC2.out _ (by repeat first|exact xA _|assumption|refine xB ?_ _|refine xC ?_|refine xD ?_ _|refine xE ?_ (by simp <;> omega) _|refine xF ?_ (by assumption))).mono ?_; rintro e w3 ⟨r3, rfl, ⟨X2, m2, k2, rfl⟩, hx3⟩; obtain ⟨p0', p1', p2', p3'⟩ := (HB0.out.ext (w' := w3) (by repeat first|exact xA _|assumption|refine xB ?_ _|refine xC ?_|refine xD ?_ _|refine xE ?_ (by simp <;> omega) _|refine xF ?_ (by assumption))).four; have g1' := (HF0.out w3 1 (by repeat first|exact xA _|assumption|refine xB ?_ _|refine xC ?_|refine xD ?_ _|refine xE ?_ (by simp <;> omega) _|refine xF ?_ (by assumption))).1; have g3' := (HF0.out w3 3 (by repeat first|exact xA _|assumption|refine xB ?_ _|refine xC ?_|refine xD ?_ _|refine xE ?_ (by simp <;> omega) _|refine xF ?_ (by assumption))).1))
  all_goals
   go_wp2_with fail
   go_meet
   exact ⟨X1, m1, k1, X2, m2, k2, put13 (HB0.out.ext (w' := w3) (by repeat first|exact xA _|assumption|refine xB ?_ _|refine xC ?_|refine xD ?_ _|refine xE ?_ (by simp <;> omega) _|refine xF ?_ (by assumption))) (HR0.out.ext (w' := w3) (by repeat first|exact xA _|assumption|refine xB ?_ _|refine xC ?_|refine xD ?_ _|refine xE ?_ (by simp <;> omega) _|refine xF ?_ (by assumption))) (by omega) (fun j => (HF0.out w3 j (by repeat first|exact xA _|assumption|refine xB ?_ _|refine xC ?_|refine xD ?_ _|refine xE ?_ (by simp <;> omega) _|refine xF ?_ (by assumption))).2) (by repeat first|exact xA _|assumption|refine xB ?_ _|refine xC ?_|refine xD ?_ _|refine xE ?_ (by simp <;> omega) _|refine xF ?_ (by assumption)) (Nat.le_refl _)⟩
 case rest =>
  obtain ⟨A1, n1, c1, A2, n2, c2, HX⟩ := hcut
  obtain ⟨y0, y1, y2, y3⟩ := HX.out.1.four
  obtain ⟨z0, z1, z2, z3⟩ := HX.out.2.1.four
  have f0 := HX.out.2.2.1 0
  have f1 := HX.out.2.2.1 1
  have f2 := HX.out.2.2.1 2
  have f3 := HX.out.2.2.1 3
  have hE := HX.out.2.2.2
  go_wp2_with fail
  refine bodyPost_ret (v := .agg #[.bool a, .slice A1 n1 c1, .bool b, .slice A2 n2 c2]) ?_ rfl ⟨_, rfl, ⟨_, _, _, _, _, _, rfl⟩, ?_⟩
  ·simp [results, Tryz.results53, go_sem, z0, z1, z2, z3]
  ·exact (((hE.pset (by simp) _).pset (by simp) _).pset (by simp) _).pset (by simp) _
end Go.Proofs.YtjigihlhjhbkpaaGreatDoor
namespace Go.Proofs.YtjigihlhjhbkpaaGreatDoor
open Go Go.RowKit
def NumSl (r : Value) (_ : World) : Prop := ∃ A n c, r = .agg #[.slice none 0 0, .slice A n c]
set_option maxRecDepth 100000 in
set_option maxHeartbeats 1600000 in
theorem num_FromRat {a b : Bool} {xs ys : List Nat} {v v' : Value} {w : World} (h : Words w v xs) (h' : Words w v' ys) :
  Calls Tryz.prog 17 #[.agg #[.bool a, v, .bool b, v']] w (Ret w NumSl) := by
 obtain ⟨A, c, rfl, hl, hm⟩ := h.form
 obtain ⟨A', c', rfl, hl', hm'⟩ := h'.form
 have HC := Lib.hid (fun w1 (hx : Ext w w1) => num_copyRat (a := a) (b := b) (h.ext hx) (h'.ext hx))
 clear h h'
 generalize xs.length = n at *
 generalize ys.length = n' at *
 go_enter Tryz.func17, Tryz.ntmps17
 go_wp2_with fail
 refine (HC.out _ (by repeat first|exact xA _|assumption|refine xB ?_ _|refine xC ?_|refine xD ?_ _|refine xE ?_ (by simp <;> omega) _|refine xF ?_ (by assumption))).mono ?_
 rintro e w1 ⟨r, rfl, ⟨A1, n1, c1, A2, n2, c2, rfl⟩, hx1⟩
 obtain ⟨hc, hf⟩ := bcell hx1
 have hz : w.heap.size + 1 < w1.heap.size := by have := hx1.size; simp at this; omega
 have hE : Ext w w1 := (by repeat first|exact xA _|assumption|refine xB ?_ _|refine xC ?_|refine xD ?_ _|refine xE ?_ (by simp <;> omega) _|refine xF ?_ (by assumption))
 go_wp2_with fail
 refine bodyPost_ret (v := .agg #[.slice none 0 0, .slice (some ⟨w1.heap.size, 0, none⟩) 1 1]) ?_ rfl ⟨_, rfl, ⟨_, _, _, rfl⟩, ?_⟩
 ·simp [results, Tryz.results17, go_sem, hc, hz]
 ·repeat (first | with_reducible exact hE | refine Ext.palloc ?_ _ | refine Ext.pset ?_ (by simp) _)
end Go.Proofs.YtjigihlhjhbkpaaGreatDoor
namespace Go.Proofs.YtjigihlhjhbkpaaGreatDoor
open Go Go.RowKit
theorem infoNum : (Tryz.prog.info? 38).map (fun i => (i.zero, i.size, i.bytes)) = some (some (.agg #[.slice none 0 0, .slice none 0 0]), 2, 48) := by kernel_rfl
theorem ownsRow_ext {w w' : World} {base e size n : Nat} {v : Value} {xs : List Value} (h : w.ownsRow base e size v n xs) (hx : Ext w w') : w'.ownsRow base e size v n xs := by
 refine ⟨h.1, ?_⟩
 rcases h.2 with h1 | ⟨g, cap, cur, h1, h2, h3, h4⟩
 ·exact .inl h1
 ·have hlt : g < w.heap.size := by
   rcases Nat.lt_or_ge g w.heap.size with hlt | hge
   ·exact hlt
   ·rw [Array.getElem?_eq_none hge] at h3; cases h3
  exact .inr ⟨g, cap, cur, h1, h2, (hx.block g hlt).trans h3, h4⟩
theorem ownsRow_block {w : World} {base e size n : Nat} {v : Value} {xs : List Value} (h : w.ownsRow base e size v n xs) : ∀ r, v.ownBlock = some r → base ≤ r := by
 intro r hr
 rcases h.2 with ⟨h1, _⟩ | ⟨g, cap, cur, h1, h2, _⟩
 ·rw [h1] at hr; cases hr
 ·rw [h1] at hr; cases hr; exact h2
theorem news_new (w : World) (cs : List Value) (T : TypeId) : ∀ j u, cs[j]? = some u → (w.alloc (.cells cs.toArray T)).cell? (Addr.add ⟨w.heap.size, 0, none⟩ j) = some u := by
 intro j u hj
 rw [Addr.add_lit, Nat.zero_add]
 exact (CellsAt.new w cs T).2 j u hj
theorem ext_grown {w1 X w4 : World} {row : Option Nat} (hg : X.grownBy w4 row) (h : Ext w1 X) (hr : ∀ r, row = some r → w1.heap.size ≤ r) : Ext w1 w4 := Below.grown h hg h.size hr
set_option maxRecDepth 100000 in
set_option maxHeartbeats 3200000 in
theorem sketch_Drawn {K : Nat} {s : SkI} {v0 v1 v2 v3 v4 v5 : Value} {w : World} (h : SkAt K w v0 v1 v2 v3 v4 v5 s) (hp : s.points.length ≤ 1000) (hc : s.circles.length ≤ 1000) :
  Calls Tryz.prog 6 #[.agg #[v0, v1, v2, v3, v4, v5]] w (Ret w fun r _ => ∃ A c, r = .slice A (2 * s.points.length + s.circles.length) c) := by
 obtain ⟨A0, c0, rfl, hl0, hm0⟩ := h.points.form
 obtain ⟨A1, c1, rfl, hl1, hm1⟩ := h.circles.form
 have HPT := Lib.hid h.points
 have HCI := Lib.hid h.circles
 have HBX := Lib.hid (CellsAt.new w [.slice A0 s.points.length c0, .slice A1 s.circles.length c1, v2, v3, v4, v5] 29)
 obtain ⟨w1, hw1⟩ : ∃ w1, w.alloc (.cells #[.slice A0 s.points.length c0, .slice A1 s.circles.length c1, v2, v3, v4, v5] 29) = w1 := ⟨_, rfl⟩
 have HE1 : Hid (Ext w w1) := by rw [← hw1]; exact Ext.alloc _ _
 have HB1 : Hid (CellsAt w1 w.heap.size [.slice A0 s.points.length c0, .slice A1 s.circles.length c1, v2, v3, v4, v5]) := by rw [← hw1]; exact HBX.out
 have HW1 := Lib.hid hw1
 clear hw1 HBX h
 obtain ⟨i0, hi, hz0, hz1, hz2⟩ := info_parts infoNum
 have hE1 := HE1.out
 obtain ⟨y0, y1, y2, y3, y4, y5⟩ := HB1.out.six
 go_enter Tryz.func6, Tryz.ntmps6
 go_upto_region 1 with fail
 rw [HW1.out]
 go_wp2_with fail
 clear y0 y1 y2 y3 y4 y5
 go_loopg [3, 11] s.points.length (fun gk v x wr => ∃ (k : Nat) (xs : List Value) (A : Option Addr) (c : Nat), v = .slice A (2 * k) c ∧ x = .int .i64 (k : Int) ∧ k + gk = s.points.length ∧ Hid (wr.ownsRow w1.heap.size 38 2 (.slice A (2 * k) c) (2 * k) xs) ∧ Hid (Ext w1 wr))
 case atStart => exact ⟨0, [], none, 0, rfl, rfl, by omega, World.ownsRow_nil _ _ _ _, Ext.refl _⟩
 case round =>
  obtain ⟨k, xs, A, c, rfl, rfl, hk, HO, HE⟩ := hrel
  have HB2 := Lib.hid (HB1.out.ext HE.out)
  obtain ⟨y0, y1, y2, y3, y4, y5⟩ := HB2.out.six
  have hE0 := HE.out
  have hEr : Ext w wr := Ext.trans hE1 HE.out
  by_cases hlt : k < s.points.length
  ·obtain ⟨b, off, rfl, hb, ds, hds, hcell, u, v, u', v', rfl, hu, hv, hu', hv'⟩ := HPT.out.at_ hlt
   have q0 : wr.cell? ⟨b, off + k * 8, none⟩ = _ := (hEr.cell (p := ⟨b, off + (k * 8 + 0), none⟩) hb).trans (hcell 0 _ rfl)
   have q1 : wr.cell? ⟨b, off + k * 8 + 1, none⟩ = _ := (hEr.cell (p := ⟨b, off + (k * 8 + 1), none⟩) hb).trans (hcell 1 _ rfl)
   have q2 : wr.cell? ⟨b, off + k * 8 + 2, none⟩ = _ := (hEr.cell (p := ⟨b, off + (k * 8 + 2), none⟩) hb).trans (hcell 2 _ rfl)
   have q3 : wr.cell? ⟨b, off + k * 8 + 3, none⟩ = _ := (hEr.cell (p := ⟨b, off + (k * 8 + 3), none⟩) hb).trans (hcell 3 _ rfl)
   have q4 : wr.cell? ⟨b, off + k * 8 + 4, none⟩ = _ := (hEr.cell (p := ⟨b, off + (k * 8 + 4), none⟩) hb).trans (hcell 4 _ rfl)
   have q5 : wr.cell? ⟨b, off + k * 8 + 5, none⟩ = _ := (hEr.cell (p := ⟨b, off + (k * 8 + 5), none⟩) hb).trans (hcell 5 _ rfl)
   have q6 : wr.cell? ⟨b, off + k * 8 + 6, none⟩ = _ := (hEr.cell (p := ⟨b, off + (k * 8 + 6), none⟩) hb).trans (hcell 6 _ rfl)
   have q7 : wr.cell? ⟨b, off + k * 8 + 7, none⟩ = _ := (hEr.cell (p := ⟨b, off + (k * 8 + 7), none⟩) hb).trans (hcell 7 _ rfl)
   obtain ⟨D1, d1, rfl, hd1, hd1'⟩ := hu.form
   obtain ⟨D2, d2, rfl, hd2, hd2'⟩ := hv.form
   obtain ⟨D3, d3, rfl, hd3, hd3'⟩ := hu'.form
   obtain ⟨D4, d4, rfl, hd4, hd4'⟩ := hv'.form
   have HV1 := Lib.hid (fun w2 (hx : Ext w w2) => num_FromRat (a := s.points[k].x.num.neg) (b := s.points[k].x.den.neg) (hu.ext hx) (hv.ext hx))
   have HV2 := Lib.hid (fun w2 (hx : Ext w w2) => num_FromRat (a := s.points[k].y.num.neg) (b := s.points[k].y.den.neg) (hu'.ext hx) (hv'.ext hx))
   clear hu hv hu' hv' hcell hds
   generalize s.points[k].x.num.neg = n1 at *
   generalize s.points[k].x.den.neg = n2 at *
   generalize s.points[k].y.num.neg = n3 at *
   generalize s.points[k].y.den.neg = n4 at *
   generalize s.points[k].x.num.mag.length = l1 at *
   generalize s.points[k].x.den.mag.length = l2 at *
   generalize s.points[k].y.num.mag.length = l3 at *
   generalize s.points[k].y.den.mag.length = l4 at *
   have hz3 : b < wr.heap.size := Nat.lt_of_lt_of_le hb hEr.size
   go_upto_region 5 with fail
   obtain ⟨W0, hW0⟩ : ∃ W0, wr.alloc (.cells #[.bool n1, .slice D1 l1 d1, .bool n2, .slice D2 l2 d2, .bool n3, .slice D3 l3 d3, .bool n4, .slice D4 l4 d4] 51) = W0 := ⟨_, rfl⟩
   have HP0 : Hid (CellsAt W0 wr.heap.size [.bool n1, .slice D1 l1 d1, .bool n2, .slice D2 l2 d2, .bool n3, .slice D3 l3 d3, .bool n4, .slice D4 l4 d4]) := by rw [← hW0]; exact CellsAt.new _ _ _
   have hEx : Ext wr W0 := by rw [← hW0]; exact Ext.alloc _ _
   have HO0 := Lib.hid (ownsRow_ext HO.out hEx)
   rw [hW0]
   have HX0 : Hid (Ext w1 W0) := hE0.trans hEx
   have HXw : Hid (Ext w W0) := hEr.trans hEx
   have hXw := HXw.out
   clear hW0 y0 y1 y2 y3 y4 y5 q0 q1 q2 q3 q4 q5 q6 q7 hE0 hEr hEx HO
   have p0 := HP0.out.2 0 _ rfl
   have p1 := HP0.out.2 1 _ rfl
   have p2 := HP0.out.2 2 _ rfl
   have p3 := HP0.out.2 3 _ rfl
   have p4 := HP0.out.2 4 _ rfl
   have p5 := HP0.out.2 5 _ rfl
   have p6 := HP0.out.2 6 _ rfl
   have p7 := HP0.out.2 7 _ rfl
   go_region_law (first
    | (refine step_append_lies _ (by rfl) _ _ 32 (by rfl) w1.heap.size 38 i0 (.agg #[.slice none 0 0, .slice none 0 0]) 2 48 Tryz.underlying32 hi hz0 hz1 hz2 (by rfl) (by decide) _ (2 * k) xs (by rfl) (ownsRow_ext HO0.out (by repeat first|exact xA _|assumption|refine xB ?_ _|refine xC ?_|refine xD ?_ _|refine xE ?_ (by simp <;> omega) _|refine xF ?_ (by assumption))) _ 2 2 _ (by rfl) (by rfl) (news_new _ _ _) (by simp [Value.oneCell']) (by omega) (by unfold maxLen; omega) (by omega) (by have h1 := HX0.out.size; have h2 := hx2.size; have h3 := hx3.size; simp at h1 h2 h3 ⊢; omega) _ (by rfl) ?_; intro g cap w4 hown4 hgrow hat hlt4)
    | (go_simp; go_at_call_of 17 (Value.slice D1 l1 d1); refine (HV1.out _ (by repeat first|exact xA _|assumption|refine xB ?_ _|refine xC ?_|refine xD ?_ _|refine xE ?_ (by simp <;> omega) _|refine xF ?_ (by assumption))).mono ?_; rintro e w2 ⟨r2, rfl, ⟨X1, m1, k1, rfl⟩, hx2⟩; have p4 := ((HP0.out.ext (w' := w2) (by repeat first|exact xA _|assumption|refine xB ?_ _|refine xC ?_|refine xD ?_ _|refine xE ?_ (by simp <;> omega) _|refine xF ?_ (by assumption)))).2 4 _ rfl; have p5 := ((HP0.out.ext (w' := w2) (by repeat first|exact xA _|assumption|refine xB ?_ _|refine xC ?_|refine xD ?_ _|refine xE ?_ (by simp <;> omega) _|refine xF ?_ (by assumption)))).2 5 _ rfl; have p6 := ((HP0.out.ext (w' := w2) (by repeat first|exact xA _|assumption|refine xB ?_ _|refine xC ?_|refine xD ?_ _|refine xE ?_ (by simp <;> omega) _|refine xF ?_ (by assumption)))).2 6 _ rfl; have p7 := ((HP0.out.ext (w' := w2) (by repeat first|exact xA _|assumption|refine xB ?_ _|refine xC ?_|refine xD ?_ _|refine xE ?_ (by simp <;> omega) _|refine xF ?_ (by assumption)))).2 7 _ rfl)
    | (go_simp; go_at_call_of 17 (Value.slice D3 l3 d3); refine (HV2.out _ (by repeat first|exact xA _|assumption|refine xB ?_ _|refine xC ?_|refine xD ?_ _|refine xE ?_ (by simp <;> omega) _|refine xF ?_ (by assumption))).mono ?_; rintro e w3 ⟨r3, rfl, ⟨X2, m2, k2, rfl⟩, hx3⟩))
   all_goals
    have hX0 := HX0.out
    go_wp2_with fail
    go_roundg (s.points.length - (k + 1))
    case measure => omega
    case rel => exact ⟨k + 1, _, _, _, rfl, by simp, by omega, hown4, ext_grown hgrow (by repeat first|exact xA _|assumption|refine xB ?_ _|refine xC ?_|refine xD ?_ _|refine xE ?_ (by simp <;> omega) _|refine xF ?_ (by assumption)) (ownsRow_block HO0.out)⟩
  ·obtain rfl : k = s.points.length := by omega
   clear HPT
   go_wp2_with fail
   clear y0 y1 y2 y3 y4 y5
   go_loopg [3, 28] s.circles.length (fun gk v x wr => ∃ (j : Nat) (xs : List Value) (A : Option Addr) (c : Nat), v = .slice A (2 * s.points.length + j) c ∧ x = .int .i64 (j : Int) ∧ j + gk = s.circles.length ∧ Hid (wr.ownsRow w1.heap.size 38 2 (.slice A (2 * s.points.length + j) c) (2 * s.points.length + j) xs) ∧ Hid (Ext w1 wr))
   case atStart => exact ⟨0, _, _, _, rfl, rfl, by omega, HO, HE⟩
   case round =>
    clear HE HO hE0 hEr
    obtain ⟨k, xs, A, c, rfl, rfl, hk, HO, HE⟩ := hrel
    have HB2 := Lib.hid (HB1.out.ext HE.out)
    obtain ⟨y0, y1, y2, y3, y4, y5⟩ := HB2.out.six
    have hE0 := HE.out
    have hEr : Ext w wr := Ext.trans hE1 HE.out
    by_cases hlt : k < s.circles.length
    ·obtain ⟨b, off, rfl, hb, ds, hds, hcell, u, v, rfl, hu, hv⟩ := HCI.out.at_ hlt
     have q0 : wr.cell? ⟨b, off + k * 5, none⟩ = _ := (hEr.cell (p := ⟨b, off + (k * 5 + 0), none⟩) hb).trans (hcell 0 _ rfl)
     have q1 : wr.cell? ⟨b, off + k * 5 + 1, none⟩ = _ := (hEr.cell (p := ⟨b, off + (k * 5 + 1), none⟩) hb).trans (hcell 1 _ rfl)
     have q2 : wr.cell? ⟨b, off + k * 5 + 2, none⟩ = _ := (hEr.cell (p := ⟨b, off + (k * 5 + 2), none⟩) hb).trans (hcell 2 _ rfl)
     have q3 : wr.cell? ⟨b, off + k * 5 + 3, none⟩ = _ := (hEr.cell (p := ⟨b, off + (k * 5 + 3), none⟩) hb).trans (hcell 3 _ rfl)
     have q4 : wr.cell? ⟨b, off + k * 5 + 4, none⟩ = _ := (hEr.cell (p := ⟨b, off + (k * 5 + 4), none⟩) hb).trans (hcell 4 _ rfl)
     obtain ⟨D1, d1, rfl, hd1, hd1'⟩ := hu.form
     obtain ⟨D2, d2, rfl, hd2, hd2'⟩ := hv.form
     have HV1 := Lib.hid (fun w2 (hx : Ext w w2) => num_FromRat (a := s.circles[k].radius.num.neg) (b := s.circles[k].radius.den.neg) (hu.ext hx) (hv.ext hx))
     clear hu hv hcell hds
     generalize s.circles[k].radius.num.neg = n1 at *
     generalize s.circles[k].radius.den.neg = n2 at *
     generalize s.circles[k].radius.num.mag.length = l1 at *
     generalize s.circles[k].radius.den.mag.length = l2 at *
     generalize s.circles[k].center = ct at *
     have hz3 : b < wr.heap.size := Nat.lt_of_lt_of_le hb hEr.size
     go_wp2_with fail
     refine (HV1.out _ (by repeat first|exact xA _|assumption|refine xB ?_ _|refine xC ?_|refine xD ?_ _|refine xE ?_ (by simp <;> omega) _|refine xF ?_ (by assumption))).mono ?_
     rintro e w2 ⟨r2, rfl, ⟨X1, m1, k1, rfl⟩, hx2⟩
     have hX2 : Ext wr w2 := Ext.trans (Ext.alloc _ _) hx2
     have HO2 := Lib.hid (ownsRow_ext HO.out hX2)
     have hX3 : Ext w1 w2 := hE0.trans hX2
     have hn : s.points.length ≤ 1000 := hp
     go_wp2_with (at_builtin; refine wpList_append_lies _ rfl _ _ 32 rfl w1.heap.size 38 i0 (.agg #[.slice none 0 0, .slice none 0 0]) 2 48 Tryz.underlying32 hi hz0 hz1 hz2 rfl (by decide) _ (2 * s.points.length + k) xs rfl (ownsRow_ext HO2.out (by repeat first|exact xA _|assumption|refine xB ?_ _|refine xC ?_|refine xD ?_ _|refine xE ?_ (by simp <;> omega) _|refine xF ?_ (by assumption))) _ 1 1 _ rfl rfl (news_new _ _ _) (by simp [Value.oneCell']) (by omega) (by unfold maxLen; omega) (by omega) (by have := hX3.size; simp; omega) _ rfl ?_; intro g cap w4 hown4 hgrow hat hlt4)
     go_roundg (s.circles.length - (k + 1))
     case measure => omega
     case rel => exact ⟨k + 1, _, _, _, rfl, by simp, by omega, hown4, ext_grown hgrow (by repeat first|exact xA _|assumption|refine xB ?_ _|refine xC ?_|refine xD ?_ _|refine xE ?_ (by simp <;> omega) _|refine xF ?_ (by assumption)) (ownsRow_block HO2.out)⟩
    ·obtain rfl : k = s.circles.length := by omega
     go_wp2_with fail
     go_ret
     exact ⟨_, rfl, ⟨_, _, rfl⟩, hEr⟩
end Go.Proofs.YtjigihlhjhbkpaaGreatDoor
namespace Go.Proofs.YtjigihlhjhbkpaaGreatDoor
open Go Go.RowKit
def qOf (n : Nat) : QI := ⟨⟨false, limbs n⟩, ⟨false, limbs 1⟩⟩
/-- The example. -/
def exS : SkI := { points := [⟨qOf 0, qOf 0⟩, ⟨qOf 2, qOf 0⟩, ⟨qOf 3, qOf 4⟩], circles := [⟨0, qOf 2⟩, ⟨2, qOf 1⟩], segs := [], arcs := [⟨0, 1, 1, false⟩], chains := [], cons := [] }
/-- Six cells of a block written. -/
def put6 (w : World) (g : Nat) (a b c d e f : Value) : World := (((((w.setCell ⟨g, 0, none⟩ a).setCell ⟨g, 1, none⟩ b).setCell ⟨g, 2, none⟩ c).setCell ⟨g, 3, none⟩ d).setCell ⟨g, 4, none⟩ e).setCell ⟨g, 5, none⟩ f
def isSl (v : Value) : Prop := ∀ n, v ≠ .int .u32 n
theorem Words.put6 {w : World} {v : Value} {xs : List Nat} (h : Words w v xs) {g : Nat} (hg : NoWord w g) {a b c d e f : Value} (ha : isSl a) (hb : isSl b) (hc : isSl c) (hd : isSl d) (he : isSl e) : Words (put6 w g a b c d e f) v xs := by
 have g1 := hg.set_ 0 ha
 have g2 := g1.set_ 1 hb
 have g3 := g2.set_ 2 hc
 have g4 := g3.set_ 3 hd
 have g5 := g4.set_ 4 he
 exact (((((h.box hg _ _).box g1 _ _).box g2 _ _).box g3 _ _).box g4 _ _).box g5 _ _
theorem cell_put6 {w : World} {g : Nat} {a b c d e f : Value} {p : Addr} (hp : p.block ≠ g) : (put6 w g a b c d e f).cell? p = w.cell? p := by
 unfold Proofs.YtjigihlhjhbkpaaGreatDoor.put6
 rw [World.cell?_setCell_other, World.cell?_setCell_other, World.cell?_setCell_other, World.cell?_setCell_other, World.cell?_setCell_other, World.cell?_setCell_other]
 all_goals (intro e; rw [← e] at hp; exact hp rfl)
theorem size_put6 {w : World} {g : Nat} {a b c d e f : Value} : (put6 w g a b c d e f).heap.size = w.heap.size := by simp [put6, World.setCell]
theorem CellsAt.put6 {w : World} {p g : Nat} {cs : List Value} (h : CellsAt w p cs) (hp : p ≠ g) {a b c d e f : Value} : CellsAt (put6 w g a b c d e f) p cs :=
 ⟨by rw [size_put6]; exact h.1, fun i v hi => (cell_put6 hp).trans (h.2 i v hi)⟩
theorem cell_set_ne {w : World} {g i j : Nat} {u : Value} (h : i ≠ j) : (w.setCell ⟨g, i, none⟩ u).cell? ⟨g, j, none⟩ = w.cell? ⟨g, j, none⟩ := by
 rw [World.cell?_setCell_other]
 intro e; injection e with _ e2 _; exact h e2
theorem CellsAt.of_put6 {w : World} {g : Nat} {x0 x1 x2 x3 x4 x5 a b c d e f : Value} (h : CellsAt w g [x0, x1, x2, x3, x4, x5]) : CellsAt (Proofs.YtjigihlhjhbkpaaGreatDoor.put6 w g a b c d e f) g [a, b, c, d, e, f] := by
 refine ⟨by rw [size_put6]; exact h.1, fun i v hi => ?_⟩
 unfold Proofs.YtjigihlhjhbkpaaGreatDoor.put6
 match i, hi with
 | 0, hi => (cases hi; rw [cell_set_ne (by decide), cell_set_ne (by decide), cell_set_ne (by decide), cell_set_ne (by decide), cell_set_ne (by decide)]; exact World.cell?_setCell_same _ _ _ (h.2 0 _ rfl))
 | 1, hi => (cases hi; rw [cell_set_ne (by decide), cell_set_ne (by decide), cell_set_ne (by decide), cell_set_ne (by decide)]; exact World.cell?_setCell_same _ _ _ ((cell_set_ne (by decide)).trans (h.2 1 _ rfl)))
 | 2, hi => (cases hi; rw [cell_set_ne (by decide), cell_set_ne (by decide), cell_set_ne (by decide)]; exact World.cell?_setCell_same _ _ _ ((cell_set_ne (by decide)).trans ((cell_set_ne (by decide)).trans (h.2 2 _ rfl))))
 | 3, hi => (cases hi; rw [cell_set_ne (by decide), cell_set_ne (by decide)]; exact World.cell?_setCell_same _ _ _ ((cell_set_ne (by decide)).trans ((cell_set_ne (by decide)).trans ((cell_set_ne (by decide)).trans (h.2 3 _ rfl)))))
 | 4, hi => (cases hi; rw [cell_set_ne (by decide)]; exact World.cell?_setCell_same _ _ _ ((cell_set_ne (by decide)).trans ((cell_set_ne (by decide)).trans ((cell_set_ne (by decide)).trans ((cell_set_ne (by decide)).trans (h.2 4 _ rfl))))))
 | 5, hi => (cases hi; exact World.cell?_setCell_same _ _ _ ((cell_set_ne (by decide)).trans ((cell_set_ne (by decide)).trans ((cell_set_ne (by decide)).trans ((cell_set_ne (by decide)).trans ((cell_set_ne (by decide)).trans (h.2 5 _ rfl)))))))
 | i + 6, hi => simp at hi
theorem Ext.put6 {w W : World} (h : Ext w W) {g : Nat} (hg : w.heap.size ≤ g) {a b c d e f : Value} : Ext w (put6 W g a b c d e f) :=
 (((((h.pset hg _).pset hg _).pset hg _).pset hg _).pset hg _).pset hg _
/-- A slice over a block of which the cells are known. -/
theorem ArrAt.of_cells {α : Type} {sz : Nat} {R : World → List Value → α → Prop} {w : World} {g c : Nat} {cs : List Value} {xs : List α} (h : CellsAt w g cs) (hl : xs.length ≤ c) (hc : xs.length ≤ 35184372088832)
  (he : ∀ k x, xs[k]? = some x → ∃ ds : List Value, ds.length = sz ∧ (∀ j u, ds[j]? = some u → cs[k * sz + j]? = some u) ∧ R w ds x) : ArrAt sz R w (.slice (some ⟨g, 0, none⟩) xs.length c) xs :=
 ⟨_, _, rfl, hl, hc, fun _ => ⟨g, 0, rfl, h.1, fun k x hk => by
  obtain ⟨ds, h1, h2, h3⟩ := he k x hk
  exact ⟨ds, h1, fun j u hj => by rw [Nat.zero_add]; exact h.2 _ _ (h2 j u hj), h3⟩⟩⟩
theorem ArrAt.nil {α : Type} {sz : Nat} {R : World → List Value → α → Prop} {w : World} : ArrAt sz R w (.slice none 0 0) ([] : List α) :=
 ⟨none, 0, rfl, Nat.le_refl _, by simp, fun h => absurd rfl h⟩
theorem sub_cells (k sz : Nat) (cs ds : List Value) (h : (cs.drop (k * sz)).take sz = ds) : ∀ j u, ds[j]? = some u → cs[k * sz + j]? = some u := by
 intro j u hj
 rw [← h, List.getElem?_take] at hj
 split at hj
 ·rwa [List.getElem?_drop] at hj
 ·cases hj
theorem ex_SkAt {W : World} {b0 b1 b2 : Nat} {P1 Q1 P2 Q2 P3 Q3 P4 Q4 P5 Q5 P6 Q6 P7 Q7 P8 Q8 : Option Addr} {p1 q1 p2 q2 p3 q3 p4 q4 p5 q5 p6 q6 p7 q7 p8 q8 : Nat} (hPT : CellsAt W b0 [Value.bool false, Value.slice P1 (limbs 0).length p1, Value.bool false, Value.slice Q1 (limbs 1).length q1, Value.bool false, Value.slice P2 (limbs 0).length p2, Value.bool false, Value.slice Q2 (limbs 1).length q2, Value.bool false, Value.slice P3 (limbs 2).length p3, Value.bool false, Value.slice Q3 (limbs 1).length q3, Value.bool false, Value.slice P4 (limbs 0).length p4, Value.bool false, Value.slice Q4 (limbs 1).length q4, Value.bool false, Value.slice P5 (limbs 3).length p5, Value.bool false, Value.slice Q5 (limbs 1).length q5, Value.bool false, Value.slice P6 (limbs 4).length p6, Value.bool false, Value.slice Q6 (limbs 1).length q6]) (hCI : CellsAt W b1 [Value.int .i64 0, Value.bool false, Value.slice P7 (limbs 2).length p7, Value.bool false, Value.slice Q7 (limbs 1).length q7, Value.int .i64 2, Value.bool false, Value.slice P8 (limbs 1).length p8, Value.bool false, Value.slice Q8 (limbs 1).length q8]) (hAR : CellsAt W b2 [Value.int .i64 0, Value.int .i64 1, Value.int .i64 1, Value.bool false]) (h1 : Words W (.slice P1 (limbs 0).length p1) (limbs 0)) (k1 : Words W (.slice Q1 (limbs 1).length q1) (limbs 1)) (h2 : Words W (.slice P2 (limbs 0).length p2) (limbs 0)) (k2 : Words W (.slice Q2 (limbs 1).length q2) (limbs 1)) (h3 : Words W (.slice P3 (limbs 2).length p3) (limbs 2)) (k3 : Words W (.slice Q3 (limbs 1).length q3) (limbs 1)) (h4 : Words W (.slice P4 (limbs 0).length p4) (limbs 0)) (k4 : Words W (.slice Q4 (limbs 1).length q4) (limbs 1)) (h5 : Words W (.slice P5 (limbs 3).length p5) (limbs 3)) (k5 : Words W (.slice Q5 (limbs 1).length q5) (limbs 1)) (h6 : Words W (.slice P6 (limbs 4).length p6) (limbs 4)) (k6 : Words W (.slice Q6 (limbs 1).length q6) (limbs 1)) (h7 : Words W (.slice P7 (limbs 2).length p7) (limbs 2)) (k7 : Words W (.slice Q7 (limbs 1).length q7) (limbs 1)) (h8 : Words W (.slice P8 (limbs 1).length p8) (limbs 1)) (k8 : Words W (.slice Q8 (limbs 1).length q8) (limbs 1)) :
  SkAt 1 W (.slice (some ⟨b0, 0, none⟩) 3 3) (.slice (some ⟨b1, 0, none⟩) 2 2) (.slice none 0 0) (.slice (some ⟨b2, 0, none⟩) 1 1) (.slice none 0 0) (.slice none 0 0) exS where
 points := ArrAt.of_cells (xs := exS.points) hPT (by simp [exS]) (by simp [exS]) (fun k x hk => by
  match k, hk with
  | 0, hk => (simp [exS] at hk; subst hk; exact ⟨_, rfl, sub_cells 0 8 _ _ rfl, _, _, _, _, rfl, h1, k1, h2, k2⟩)
  | 1, hk => (simp [exS] at hk; subst hk; exact ⟨_, rfl, sub_cells 1 8 _ _ rfl, _, _, _, _, rfl, h3, k3, h4, k4⟩)
  | 2, hk => (simp [exS] at hk; subst hk; exact ⟨_, rfl, sub_cells 2 8 _ _ rfl, _, _, _, _, rfl, h5, k5, h6, k6⟩)
  | k + 3, hk => (simp [exS] at hk))
 circles := ArrAt.of_cells (xs := exS.circles) hCI (by simp [exS]) (by simp [exS]) (fun k x hk => by
  match k, hk with
  | 0, hk => (simp [exS] at hk; subst hk; exact ⟨_, rfl, sub_cells 0 5 _ _ rfl, _, _, rfl, h7, k7⟩)
  | 1, hk => (simp [exS] at hk; subst hk; exact ⟨_, rfl, sub_cells 1 5 _ _ rfl, _, _, rfl, h8, k8⟩)
  | k + 2, hk => (simp [exS] at hk))
 segs := ArrAt.nil
 arcs := ArrAt.of_cells (xs := exS.arcs) hAR (by simp [exS]) (by simp [exS]) (fun k x hk => by
  match k, hk with
  | 0, hk => (simp [exS] at hk; subst hk; exact ⟨_, rfl, sub_cells 0 4 _ _ rfl, rfl⟩)
  | k + 1, hk => (simp [exS] at hk))
 chains := ArrAt.nil
 cons := ArrAt.nil
set_option maxRecDepth 100000 in
set_option maxHeartbeats 3200000 in
theorem law_example (w : World) :
  Calls Tryz.prog 12 #[] w (Ret w fun r w' => ∃ v0 v1 v2 v3 v4 v5, r = .agg #[v0, v1, v2, v3, v4, v5] ∧ SkAt 1 w' v0 v1 v2 v3 v4 v5 exS) := by
 have F0 : ∀ W, Calls Tryz.prog 22 #[.int .i64 0] W (Ret W fun r w' => ∃ u1 u2, r = .agg #[.bool false, u1, .bool false, u2] ∧ Words w' u1 (limbs 0) ∧ Words w' u2 (limbs 1)) := fun W => ref02_FromInt 0 (by omega) W
 have F1 : ∀ W, Calls Tryz.prog 22 #[.int .i64 1] W (Ret W fun r w' => ∃ u1 u2, r = .agg #[.bool false, u1, .bool false, u2] ∧ Words w' u1 (limbs 1) ∧ Words w' u2 (limbs 1)) := fun W => ref02_FromInt 1 (by omega) W
 have F2 : ∀ W, Calls Tryz.prog 22 #[.int .i64 2] W (Ret W fun r w' => ∃ u1 u2, r = .agg #[.bool false, u1, .bool false, u2] ∧ Words w' u1 (limbs 2) ∧ Words w' u2 (limbs 1)) := fun W => ref02_FromInt 2 (by omega) W
 have F3 : ∀ W, Calls Tryz.prog 22 #[.int .i64 3] W (Ret W fun r w' => ∃ u1 u2, r = .agg #[.bool false, u1, .bool false, u2] ∧ Words w' u1 (limbs 3) ∧ Words w' u2 (limbs 1)) := fun W => ref02_FromInt 3 (by omega) W
 have F4 : ∀ W, Calls Tryz.prog 22 #[.int .i64 4] W (Ret W fun r w' => ∃ u1 u2, r = .agg #[.bool false, u1, .bool false, u2] ∧ Words w' u1 (limbs 4) ∧ Words w' u2 (limbs 1)) := fun W => ref02_FromInt 4 (by omega) W
 have G0 := Lib.hid F0
 have G1 := Lib.hid F1
 have G2 := Lib.hid F2
 have G3 := Lib.hid F3
 have G4 := Lib.hid F4
 clear F0 F1 F2 F3 F4
 have HNW := Lib.hid (NoWord.new w #[.slice none 0 0, .slice none 0 0, .slice none 0 0, .slice none 0 0, .slice none 0 0, .slice none 0 0] 29 (by simp))
 go_enter Tryz.func12, Tryz.ntmps12
 go_wp2_with fail
 refine (G0.out _).mono ?_
 rintro e w1 ⟨r, rfl, ⟨a1, b1, rfl, ha1, hb1⟩, hx1⟩
 obtain ⟨P1, p1, rfl, hp1, hp1'⟩ := ha1.form
 obtain ⟨Q1, q1, rfl, hq1, hq1'⟩ := hb1.form
 have HA1 := Lib.hid ha1
 have HB1 := Lib.hid hb1
 have HX := Lib.hid hx1
 have HX1 := Lib.hid hx1
 clear ha1 hb1 hx1
 go_wp2_with fail
 refine (G0.out _).mono ?_
 rintro e w2 ⟨r, rfl, ⟨a2, b2, rfl, ha2, hb2⟩, hx2⟩
 obtain ⟨P2, p2, rfl, hp2, hp2'⟩ := ha2.form
 obtain ⟨Q2, q2, rfl, hq2, hq2'⟩ := hb2.form
 have HA2 := Lib.hid ha2
 have HB2 := Lib.hid hb2
 have HY2 := Lib.hid hx2
 have HZ := Lib.hid (Ext.trans HX.out hx2)
 clear ha2 hb2 hx2 HX
 have HX := Lib.hid HZ.out
 clear HZ
 go_wp2_with fail
 refine (G2.out _).mono ?_
 rintro e w3 ⟨r, rfl, ⟨a3, b3, rfl, ha3, hb3⟩, hx3⟩
 obtain ⟨P3, p3, rfl, hp3, hp3'⟩ := ha3.form
 obtain ⟨Q3, q3, rfl, hq3, hq3'⟩ := hb3.form
 have HA3 := Lib.hid ha3
 have HB3 := Lib.hid hb3
 have HY3 := Lib.hid hx3
 have HZ := Lib.hid (Ext.trans HX.out hx3)
 clear ha3 hb3 hx3 HX
 have HX := Lib.hid HZ.out
 clear HZ
 go_wp2_with fail
 refine (G0.out _).mono ?_
 rintro e w4 ⟨r, rfl, ⟨a4, b4, rfl, ha4, hb4⟩, hx4⟩
 obtain ⟨P4, p4, rfl, hp4, hp4'⟩ := ha4.form
 obtain ⟨Q4, q4, rfl, hq4, hq4'⟩ := hb4.form
 have HA4 := Lib.hid ha4
 have HB4 := Lib.hid hb4
 have HY4 := Lib.hid hx4
 have HZ := Lib.hid (Ext.trans HX.out hx4)
 clear ha4 hb4 hx4 HX
 have HX := Lib.hid HZ.out
 clear HZ
 go_wp2_with fail
 refine (G3.out _).mono ?_
 rintro e w5 ⟨r, rfl, ⟨a5, b5, rfl, ha5, hb5⟩, hx5⟩
 obtain ⟨P5, p5, rfl, hp5, hp5'⟩ := ha5.form
 obtain ⟨Q5, q5, rfl, hq5, hq5'⟩ := hb5.form
 have HA5 := Lib.hid ha5
 have HB5 := Lib.hid hb5
 have HY5 := Lib.hid hx5
 have HZ := Lib.hid (Ext.trans HX.out hx5)
 clear ha5 hb5 hx5 HX
 have HX := Lib.hid HZ.out
 clear HZ
 go_wp2_with fail
 refine (G4.out _).mono ?_
 rintro e w6 ⟨r, rfl, ⟨a6, b6, rfl, ha6, hb6⟩, hx6⟩
 obtain ⟨P6, p6, rfl, hp6, hp6'⟩ := ha6.form
 obtain ⟨Q6, q6, rfl, hq6, hq6'⟩ := hb6.form
 have HA6 := Lib.hid ha6
 have HB6 := Lib.hid hb6
 have HY6 := Lib.hid hx6
 have HZ := Lib.hid (Ext.trans HX.out hx6)
 clear ha6 hb6 hx6 HX
 have HX := Lib.hid HZ.out
 clear HZ
 go_wp2_with fail
 refine (G2.out _).mono ?_
 rintro e w7 ⟨r, rfl, ⟨a7, b7, rfl, ha7, hb7⟩, hx7⟩
 obtain ⟨P7, p7, rfl, hp7, hp7'⟩ := ha7.form
 obtain ⟨Q7, q7, rfl, hq7, hq7'⟩ := hb7.form
 have HA7 := Lib.hid ha7
 have HB7 := Lib.hid hb7
 have HPT := Lib.hid ((CellsAt.new w6 [Value.bool false, Value.slice P1 (limbs 0).length p1, Value.bool false, Value.slice Q1 (limbs 1).length q1, Value.bool false, Value.slice P2 (limbs 0).length p2, Value.bool false, Value.slice Q2 (limbs 1).length q2, Value.bool false, Value.slice P3 (limbs 2).length p3, Value.bool false, Value.slice Q3 (limbs 1).length q3, Value.bool false, Value.slice P4 (limbs 0).length p4, Value.bool false, Value.slice Q4 (limbs 1).length q4, Value.bool false, Value.slice P5 (limbs 3).length p5, Value.bool false, Value.slice Q5 (limbs 1).length q5, Value.bool false, Value.slice P6 (limbs 4).length p6, Value.bool false, Value.slice Q6 (limbs 1).length q6] 51).ext hx7)
 have hz7 : Ext w6 w7 := Ext.trans (Ext.alloc _ _) hx7
 clear hx7
 have hx7 := hz7
 clear hz7
 have HY7 := Lib.hid hx7
 have HZ := Lib.hid (Ext.trans HX.out hx7)
 clear ha7 hb7 hx7 HX
 have HX := Lib.hid HZ.out
 clear HZ
 go_wp2_with fail
 refine (G1.out _).mono ?_
 rintro e w8 ⟨r, rfl, ⟨a8, b8, rfl, ha8, hb8⟩, hx8⟩
 obtain ⟨P8, p8, rfl, hp8, hp8'⟩ := ha8.form
 obtain ⟨Q8, q8, rfl, hq8, hq8'⟩ := hb8.form
 have HA8 := Lib.hid ha8
 have HB8 := Lib.hid hb8
 have HY8 := Lib.hid hx8
 have HZ := Lib.hid (Ext.trans HX.out hx8)
 clear ha8 hb8 hx8 HX
 have HX := Lib.hid HZ.out
 clear HZ
 have hx := HX.out
 obtain ⟨hc, hf⟩ := bcell hx
 have hz : w.heap.size < w8.heap.size := by have := hx.size; simp at this; omega
 have hz6 : w.heap.size < w6.heap.size := by
  have h1 := (HY2.out.size); have h2 := HY3.out.size; have h3 := HY4.out.size; have h4 := HY5.out.size; have h5 := HY6.out.size
  have h0 := HX1.out.size; simp at h0; omega
 have HE : Hid (Ext w w8) := Ext.trans (Ext.alloc _ _) hx
 go_wp2_with fail
 have hB6 := (CellsAt.new w [.slice none 0 0, .slice none 0 0, .slice none 0 0, .slice none 0 0, .slice none 0 0, .slice none 0 0] 29).ext hx
 have HNF : NoWord w8 w.heap.size := HNW.out.ext (by simp) hx
 obtain ⟨W0, hW0⟩ : ∃ W0, put6 w8 w.heap.size (.slice (some ⟨w6.heap.size, 0, none⟩) 3 3) (.slice (some ⟨w8.heap.size, 0, none⟩) 2 2) (.slice none 0 0) (.slice (some ⟨w8.heap.size + 1, 0, none⟩) 1 1) (.slice none 0 0) (.slice none 0 0) = W0 := ⟨_, rfl⟩
 have hs0 : W0.heap.size = w8.heap.size := by rw [← hW0]; exact size_put6
 have hW : ∀ v xs, Words w8 v xs → Words W0 v xs := fun v xs h => by rw [← hW0]; exact h.put6 HNF (by intro n; simp) (by intro n; simp) (by intro n; simp) (by intro n; simp) (by intro n; simp)
 have hPT0 : CellsAt W0 w6.heap.size [Value.bool false, Value.slice P1 (limbs 0).length p1, Value.bool false, Value.slice Q1 (limbs 1).length q1, Value.bool false, Value.slice P2 (limbs 0).length p2, Value.bool false, Value.slice Q2 (limbs 1).length q2, Value.bool false, Value.slice P3 (limbs 2).length p3, Value.bool false, Value.slice Q3 (limbs 1).length q3, Value.bool false, Value.slice P4 (limbs 0).length p4, Value.bool false, Value.slice Q4 (limbs 1).length q4, Value.bool false, Value.slice P5 (limbs 3).length p5, Value.bool false, Value.slice Q5 (limbs 1).length q5, Value.bool false, Value.slice P6 (limbs 4).length p6, Value.bool false, Value.slice Q6 (limbs 1).length q6] := by rw [← hW0]; exact (HPT.out.ext HY8.out).put6 (by omega)
 have hSK0 : CellsAt W0 w.heap.size [.slice (some ⟨w6.heap.size, 0, none⟩) 3 3, .slice (some ⟨w8.heap.size, 0, none⟩) 2 2, .slice none 0 0, .slice (some ⟨w8.heap.size + 1, 0, none⟩) 1 1, .slice none 0 0, .slice none 0 0] := by rw [← hW0]; exact hB6.of_put6
 have hE0 : Ext w W0 := by rw [← hW0]; exact HE.out.put6 (Nat.le_refl _)
 change bodyPost _ _ _ _ _ (((put6 w8 w.heap.size (.slice (some ⟨w6.heap.size, 0, none⟩) 3 3) (.slice (some ⟨w8.heap.size, 0, none⟩) 2 2) (.slice none 0 0) (.slice (some ⟨w8.heap.size + 1, 0, none⟩) 1 1) (.slice none 0 0) (.slice none 0 0)).alloc _).alloc _)
 rw [hW0]
 have hXa := Ext.alloc W0 (.cells #[Value.int .i64 0, Value.bool false, Value.slice P7 (limbs 2).length p7, Value.bool false, Value.slice Q7 (limbs 1).length q7, Value.int .i64 2, Value.bool false, Value.slice P8 (limbs 1).length p8, Value.bool false, Value.slice Q8 (limbs 1).length q8] 54)
 have hXb := Ext.trans hXa (Ext.alloc _ (.cells #[Value.int .i64 0, Value.int .i64 1, Value.int .i64 1, Value.bool false] 61))
 have hCI : CellsAt ((W0.alloc (.cells #[Value.int .i64 0, Value.bool false, Value.slice P7 (limbs 2).length p7, Value.bool false, Value.slice Q7 (limbs 1).length q7, Value.int .i64 2, Value.bool false, Value.slice P8 (limbs 1).length p8, Value.bool false, Value.slice Q8 (limbs 1).length q8] 54)).alloc (.cells #[Value.int .i64 0, Value.int .i64 1, Value.int .i64 1, Value.bool false] 61)) w8.heap.size [Value.int .i64 0, Value.bool false, Value.slice P7 (limbs 2).length p7, Value.bool false, Value.slice Q7 (limbs 1).length q7, Value.int .i64 2, Value.bool false, Value.slice P8 (limbs 1).length p8, Value.bool false, Value.slice Q8 (limbs 1).length q8] := by
  have := (CellsAt.new W0 [Value.int .i64 0, Value.bool false, Value.slice P7 (limbs 2).length p7, Value.bool false, Value.slice Q7 (limbs 1).length q7, Value.int .i64 2, Value.bool false, Value.slice P8 (limbs 1).length p8, Value.bool false, Value.slice Q8 (limbs 1).length q8] 54).ext (Ext.alloc _ (.cells #[Value.int .i64 0, Value.int .i64 1, Value.int .i64 1, Value.bool false] 61))
  rwa [hs0] at this
 have hAR : CellsAt ((W0.alloc (.cells #[Value.int .i64 0, Value.bool false, Value.slice P7 (limbs 2).length p7, Value.bool false, Value.slice Q7 (limbs 1).length q7, Value.int .i64 2, Value.bool false, Value.slice P8 (limbs 1).length p8, Value.bool false, Value.slice Q8 (limbs 1).length q8] 54)).alloc (.cells #[Value.int .i64 0, Value.int .i64 1, Value.int .i64 1, Value.bool false] 61)) (w8.heap.size + 1) [Value.int .i64 0, Value.int .i64 1, Value.int .i64 1, Value.bool false] := by
  have := CellsAt.new (W0.alloc (.cells #[Value.int .i64 0, Value.bool false, Value.slice P7 (limbs 2).length p7, Value.bool false, Value.slice Q7 (limbs 1).length q7, Value.int .i64 2, Value.bool false, Value.slice P8 (limbs 1).length p8, Value.bool false, Value.slice Q8 (limbs 1).length q8] 54)) [Value.int .i64 0, Value.int .i64 1, Value.int .i64 1, Value.bool false] 61
  rwa [World.size_alloc, hs0] at this
 have hWF : ∀ v xs, Words w8 v xs → Words ((W0.alloc (.cells #[Value.int .i64 0, Value.bool false, Value.slice P7 (limbs 2).length p7, Value.bool false, Value.slice Q7 (limbs 1).length q7, Value.int .i64 2, Value.bool false, Value.slice P8 (limbs 1).length p8, Value.bool false, Value.slice Q8 (limbs 1).length q8] 54)).alloc (.cells #[Value.int .i64 0, Value.int .i64 1, Value.int .i64 1, Value.bool false] 61)) v xs := fun v xs h => (hW v xs h).ext hXb
 have hPT := hPT0.ext hXb
 have hSKF := hSK0.ext hXb
 have hE := hE0.trans hXb
 have hSK := ex_SkAt hPT hCI hAR (hWF _ _ (((((((HA1.out.ext HY2.out).ext HY3.out).ext HY4.out).ext HY5.out).ext HY6.out).ext HY7.out).ext HY8.out)) (hWF _ _ (((((((HB1.out.ext HY2.out).ext HY3.out).ext HY4.out).ext HY5.out).ext HY6.out).ext HY7.out).ext HY8.out)) (hWF _ _ ((((((HA2.out.ext HY3.out).ext HY4.out).ext HY5.out).ext HY6.out).ext HY7.out).ext HY8.out)) (hWF _ _ ((((((HB2.out.ext HY3.out).ext HY4.out).ext HY5.out).ext HY6.out).ext HY7.out).ext HY8.out)) (hWF _ _ (((((HA3.out.ext HY4.out).ext HY5.out).ext HY6.out).ext HY7.out).ext HY8.out)) (hWF _ _ (((((HB3.out.ext HY4.out).ext HY5.out).ext HY6.out).ext HY7.out).ext HY8.out)) (hWF _ _ ((((HA4.out.ext HY5.out).ext HY6.out).ext HY7.out).ext HY8.out)) (hWF _ _ ((((HB4.out.ext HY5.out).ext HY6.out).ext HY7.out).ext HY8.out)) (hWF _ _ (((HA5.out.ext HY6.out).ext HY7.out).ext HY8.out)) (hWF _ _ (((HB5.out.ext HY6.out).ext HY7.out).ext HY8.out)) (hWF _ _ ((HA6.out.ext HY7.out).ext HY8.out)) (hWF _ _ ((HB6.out.ext HY7.out).ext HY8.out)) (hWF _ _ (HA7.out.ext HY8.out)) (hWF _ _ (HB7.out.ext HY8.out)) (hWF _ _ HA8.out) (hWF _ _ HB8.out)
 generalize (W0.alloc (.cells #[Value.int .i64 0, Value.bool false, Value.slice P7 (limbs 2).length p7, Value.bool false, Value.slice Q7 (limbs 1).length q7, Value.int .i64 2, Value.bool false, Value.slice P8 (limbs 1).length p8, Value.bool false, Value.slice Q8 (limbs 1).length q8] 54)).alloc (.cells #[Value.int .i64 0, Value.int .i64 1, Value.int .i64 1, Value.bool false] 61) = WF at *
 obtain ⟨z0, z1, z2, z3, z4, z5⟩ := hSKF.six
 refine bodyPost_ret (v := .agg #[.slice (some ⟨w6.heap.size, 0, none⟩) 3 3, .slice (some ⟨w8.heap.size, 0, none⟩) 2 2, .slice none 0 0, .slice (some ⟨w8.heap.size + 1, 0, none⟩) 1 1, .slice none 0 0, .slice none 0 0]) ?_ rfl ⟨_, rfl, ⟨_, _, _, _, _, _, rfl, hSK⟩, hE⟩
 simp [results, Tryz.results12, go_sem, z0, z1, z2, z3, z4, z5]
end Go.Proofs.YtjigihlhjhbkpaaGreatDoor
