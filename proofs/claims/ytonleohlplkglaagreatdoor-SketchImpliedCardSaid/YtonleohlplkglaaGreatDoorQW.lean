/- The example of the statements of layer 26. -/
import Derived.Test.YtonleohlplkglaaGreatDoorQJ
import Derived.Test.YtonleohlplkglaaGreatDoorQF
import Derived.Test.YtonleohlplkglaaGreatDoorQQ
import Derived.Test.YtonleohlplkglaaGreatDoorQV
namespace Go.Proofs.YtonleohlplkglaaGreatDoor
open Go Go.RowKit

def qOf (n : Nat) : QI := ⟨⟨false, limbs n⟩, ⟨false, limbs 1⟩⟩
/-- The example. -/
def exS : SkI := { points := [⟨qOf 0, qOf 0⟩, ⟨qOf 2, qOf 0⟩, ⟨qOf 3, qOf 4⟩], circles := [⟨0, qOf 2⟩, ⟨2, qOf 1⟩], segs := [], arcs := [⟨0, 1, 1, false⟩], chains := [], cons := [] }

/-- Six cells of a block written. -/
def put6 (w : World) (g : Nat) (a b c d e f : Value) : World := (((((w.setCell ⟨g, 0, none⟩ a).setCell ⟨g, 1, none⟩ b).setCell ⟨g, 2, none⟩ c).setCell ⟨g, 3, none⟩ d).setCell ⟨g, 4, none⟩ e).setCell ⟨g, 5, none⟩ f
def isSl (v : Value) : Prop := ∀ n, v ≠ .int .u32 n
theorem Words.put6 {w : World} {v : Value} {xs : List Nat} (h : Words w v xs) {g : Nat} (hg : NoWord w g) {a b c d e f : Value} (ha : isSl a) (hb : isSl b) (hc : isSl c) (hd : isSl d) (he : isSl e) : Words (put6 w g a b c d e f) v xs := by
  have g1 := hg.set_ 0 ha
  have g2 := g1.set_ 1 hb
  have g3 := g2.set_ 2 hc
  have g4 := g3.set_ 3 hd
  have g5 := g4.set_ 4 he
  exact (((((h.box hg _ _).box g1 _ _).box g2 _ _).box g3 _ _).box g4 _ _).box g5 _ _
theorem cell_put6 {w : World} {g : Nat} {a b c d e f : Value} {p : Addr} (hp : p.block ≠ g) : (put6 w g a b c d e f).cell? p = w.cell? p := by
  unfold Proofs.YtonleohlplkglaaGreatDoor.put6
  rw [World.cell?_setCell_other, World.cell?_setCell_other, World.cell?_setCell_other, World.cell?_setCell_other, World.cell?_setCell_other, World.cell?_setCell_other]
  all_goals (intro e; rw [← e] at hp; exact hp rfl)
theorem size_put6 {w : World} {g : Nat} {a b c d e f : Value} : (put6 w g a b c d e f).heap.size = w.heap.size := by simp [put6, World.setCell]
theorem CellsAt.put6 {w : World} {p g : Nat} {cs : List Value} (h : CellsAt w p cs) (hp : p ≠ g) {a b c d e f : Value} : CellsAt (put6 w g a b c d e f) p cs :=
  ⟨by rw [size_put6]; exact h.1, fun i v hi => (cell_put6 hp).trans (h.2 i v hi)⟩
theorem cell_set_ne {w : World} {g i j : Nat} {u : Value} (h : i ≠ j) : (w.setCell ⟨g, i, none⟩ u).cell? ⟨g, j, none⟩ = w.cell? ⟨g, j, none⟩ := by
  rw [World.cell?_setCell_other]
  intro e; injection e with _ e2 _; exact h e2
theorem CellsAt.of_put6 {w : World} {g : Nat} {x0 x1 x2 x3 x4 x5 a b c d e f : Value} (h : CellsAt w g [x0, x1, x2, x3, x4, x5]) : CellsAt (Proofs.YtonleohlplkglaaGreatDoor.put6 w g a b c d e f) g [a, b, c, d, e, f] := by
  refine ⟨by rw [size_put6]; exact h.1, fun i v hi => ?_⟩
  unfold Proofs.YtonleohlplkglaaGreatDoor.put6
  match i, hi with
  | 0, hi => (cases hi; rw [cell_set_ne (by decide), cell_set_ne (by decide), cell_set_ne (by decide), cell_set_ne (by decide), cell_set_ne (by decide)]; exact World.cell?_setCell_same _ _ _ (h.2 0 _ rfl))
  | 1, hi => (cases hi; rw [cell_set_ne (by decide), cell_set_ne (by decide), cell_set_ne (by decide), cell_set_ne (by decide)]; exact World.cell?_setCell_same _ _ _ ((cell_set_ne (by decide)).trans (h.2 1 _ rfl)))
  | 2, hi => (cases hi; rw [cell_set_ne (by decide), cell_set_ne (by decide), cell_set_ne (by decide)]; exact World.cell?_setCell_same _ _ _ ((cell_set_ne (by decide)).trans ((cell_set_ne (by decide)).trans (h.2 2 _ rfl))))
  | 3, hi => (cases hi; rw [cell_set_ne (by decide), cell_set_ne (by decide)]; exact World.cell?_setCell_same _ _ _ ((cell_set_ne (by decide)).trans ((cell_set_ne (by decide)).trans ((cell_set_ne (by decide)).trans (h.2 3 _ rfl)))))
  | 4, hi => (cases hi; rw [cell_set_ne (by decide)]; exact World.cell?_setCell_same _ _ _ ((cell_set_ne (by decide)).trans ((cell_set_ne (by decide)).trans ((cell_set_ne (by decide)).trans ((cell_set_ne (by decide)).trans (h.2 4 _ rfl))))))
  | 5, hi => (cases hi; exact World.cell?_setCell_same _ _ _ ((cell_set_ne (by decide)).trans ((cell_set_ne (by decide)).trans ((cell_set_ne (by decide)).trans ((cell_set_ne (by decide)).trans ((cell_set_ne (by decide)).trans (h.2 5 _ rfl)))))))
  | i + 6, hi => simp at hi
theorem Ext.put6 {w W : World} (h : Ext w W) {g : Nat} (hg : w.heap.size ≤ g) {a b c d e f : Value} : Ext w (put6 W g a b c d e f) :=
  (((((h.pset hg _).pset hg _).pset hg _).pset hg _).pset hg _).pset hg _

/-- A slice over a block of which the cells are known. -/
theorem ArrAt.of_cells {α : Type} {sz : Nat} {R : World → List Value → α → Prop} {w : World} {g c : Nat} {cs : List Value} {xs : List α} (h : CellsAt w g cs) (hl : xs.length ≤ c) (hc : xs.length ≤ 35184372088832)
    (he : ∀ k x, xs[k]? = some x → ∃ ds : List Value, ds.length = sz ∧ (∀ j u, ds[j]? = some u → cs[k * sz + j]? = some u) ∧ R w ds x) : ArrAt sz R w (.slice (some ⟨g, 0, none⟩) xs.length c) xs :=
  ⟨_, _, rfl, hl, hc, fun _ => ⟨g, 0, rfl, h.1, fun k x hk => by
    obtain ⟨ds, h1, h2, h3⟩ := he k x hk
    exact ⟨ds, h1, fun j u hj => by rw [Nat.zero_add]; exact h.2 _ _ (h2 j u hj), h3⟩⟩⟩
theorem ArrAt.nil {α : Type} {sz : Nat} {R : World → List Value → α → Prop} {w : World} : ArrAt sz R w (.slice none 0 0) ([] : List α) :=
  ⟨none, 0, rfl, Nat.le_refl _, by simp, fun h => absurd rfl h⟩

theorem sub_cells (k sz : Nat) (cs ds : List Value) (h : (cs.drop (k * sz)).take sz = ds) : ∀ j u, ds[j]? = some u → cs[k * sz + j]? = some u := by
  intro j u hj
  rw [← h, List.getElem?_take] at hj
  split at hj
  · rwa [List.getElem?_drop] at hj
  · cases hj

theorem ex_SkAt {W : World} {b0 b1 b2 : Nat} {P1 Q1 P2 Q2 P3 Q3 P4 Q4 P5 Q5 P6 Q6 P7 Q7 P8 Q8 : Option Addr} {p1 q1 p2 q2 p3 q3 p4 q4 p5 q5 p6 q6 p7 q7 p8 q8 : Nat} (hPT : CellsAt W b0 [Value.bool false, Value.slice P1 (limbs 0).length p1, Value.bool false, Value.slice Q1 (limbs 1).length q1, Value.bool false, Value.slice P2 (limbs 0).length p2, Value.bool false, Value.slice Q2 (limbs 1).length q2, Value.bool false, Value.slice P3 (limbs 2).length p3, Value.bool false, Value.slice Q3 (limbs 1).length q3, Value.bool false, Value.slice P4 (limbs 0).length p4, Value.bool false, Value.slice Q4 (limbs 1).length q4, Value.bool false, Value.slice P5 (limbs 3).length p5, Value.bool false, Value.slice Q5 (limbs 1).length q5, Value.bool false, Value.slice P6 (limbs 4).length p6, Value.bool false, Value.slice Q6 (limbs 1).length q6]) (hCI : CellsAt W b1 [Value.int .i64 0, Value.bool false, Value.slice P7 (limbs 2).length p7, Value.bool false, Value.slice Q7 (limbs 1).length q7, Value.int .i64 2, Value.bool false, Value.slice P8 (limbs 1).length p8, Value.bool false, Value.slice Q8 (limbs 1).length q8]) (hAR : CellsAt W b2 [Value.int .i64 0, Value.int .i64 1, Value.int .i64 1, Value.bool false]) (h1 : Words W (.slice P1 (limbs 0).length p1) (limbs 0)) (k1 : Words W (.slice Q1 (limbs 1).length q1) (limbs 1)) (h2 : Words W (.slice P2 (limbs 0).length p2) (limbs 0)) (k2 : Words W (.slice Q2 (limbs 1).length q2) (limbs 1)) (h3 : Words W (.slice P3 (limbs 2).length p3) (limbs 2)) (k3 : Words W (.slice Q3 (limbs 1).length q3) (limbs 1)) (h4 : Words W (.slice P4 (limbs 0).length p4) (limbs 0)) (k4 : Words W (.slice Q4 (limbs 1).length q4) (limbs 1)) (h5 : Words W (.slice P5 (limbs 3).length p5) (limbs 3)) (k5 : Words W (.slice Q5 (limbs 1).length q5) (limbs 1)) (h6 : Words W (.slice P6 (limbs 4).length p6) (limbs 4)) (k6 : Words W (.slice Q6 (limbs 1).length q6) (limbs 1)) (h7 : Words W (.slice P7 (limbs 2).length p7) (limbs 2)) (k7 : Words W (.slice Q7 (limbs 1).length q7) (limbs 1)) (h8 : Words W (.slice P8 (limbs 1).length p8) (limbs 1)) (k8 : Words W (.slice Q8 (limbs 1).length q8) (limbs 1)) :
    SkAt 1 W (.slice (some ⟨b0, 0, none⟩) 3 3) (.slice (some ⟨b1, 0, none⟩) 2 2) (.slice none 0 0) (.slice (some ⟨b2, 0, none⟩) 1 1) (.slice none 0 0) (.slice none 0 0) exS where
  points := ArrAt.of_cells (xs := exS.points) hPT (by simp [exS]) (by simp [exS]) (fun k x hk => by
    match k, hk with
    | 0, hk => (simp [exS] at hk; subst hk; exact ⟨_, rfl, sub_cells 0 8 _ _ rfl, _, _, _, _, rfl, h1, k1, h2, k2⟩)
    | 1, hk => (simp [exS] at hk; subst hk; exact ⟨_, rfl, sub_cells 1 8 _ _ rfl, _, _, _, _, rfl, h3, k3, h4, k4⟩)
    | 2, hk => (simp [exS] at hk; subst hk; exact ⟨_, rfl, sub_cells 2 8 _ _ rfl, _, _, _, _, rfl, h5, k5, h6, k6⟩)
    | k + 3, hk => (simp [exS] at hk))
  circles := ArrAt.of_cells (xs := exS.circles) hCI (by simp [exS]) (by simp [exS]) (fun k x hk => by
    match k, hk with
    | 0, hk => (simp [exS] at hk; subst hk; exact ⟨_, rfl, sub_cells 0 5 _ _ rfl, _, _, rfl, h7, k7⟩)
    | 1, hk => (simp [exS] at hk; subst hk; exact ⟨_, rfl, sub_cells 1 5 _ _ rfl, _, _, rfl, h8, k8⟩)
    | k + 2, hk => (simp [exS] at hk))
  segs := ArrAt.nil
  arcs := ArrAt.of_cells (xs := exS.arcs) hAR (by simp [exS]) (by simp [exS]) (fun k x hk => by
    match k, hk with
    | 0, hk => (simp [exS] at hk; subst hk; exact ⟨_, rfl, sub_cells 0 4 _ _ rfl, rfl⟩)
    | k + 1, hk => (simp [exS] at hk))
  chains := ArrAt.nil
  cons := ArrAt.nil

set_option maxRecDepth 100000 in
set_option maxHeartbeats 3200000 in
theorem law_example (w : World) :
    Calls Tryz.prog 28 #[] w (Ret w fun r w' => ∃ v0 v1 v2 v3 v4 v5, r = .agg #[v0, v1, v2, v3, v4, v5] ∧ SkAt 1 w' v0 v1 v2 v3 v4 v5 exS) := by
  have F0 : ∀ W, Calls Tryz.prog 74 #[.int .i64 0] W (Ret W fun r w' => ∃ u1 u2, r = .agg #[.bool false, u1, .bool false, u2] ∧ Words w' u1 (limbs 0) ∧ Words w' u2 (limbs 1)) := fun W => ref02_FromInt 0 (by omega) W
  have F1 : ∀ W, Calls Tryz.prog 74 #[.int .i64 1] W (Ret W fun r w' => ∃ u1 u2, r = .agg #[.bool false, u1, .bool false, u2] ∧ Words w' u1 (limbs 1) ∧ Words w' u2 (limbs 1)) := fun W => ref02_FromInt 1 (by omega) W
  have F2 : ∀ W, Calls Tryz.prog 74 #[.int .i64 2] W (Ret W fun r w' => ∃ u1 u2, r = .agg #[.bool false, u1, .bool false, u2] ∧ Words w' u1 (limbs 2) ∧ Words w' u2 (limbs 1)) := fun W => ref02_FromInt 2 (by omega) W
  have F3 : ∀ W, Calls Tryz.prog 74 #[.int .i64 3] W (Ret W fun r w' => ∃ u1 u2, r = .agg #[.bool false, u1, .bool false, u2] ∧ Words w' u1 (limbs 3) ∧ Words w' u2 (limbs 1)) := fun W => ref02_FromInt 3 (by omega) W
  have F4 : ∀ W, Calls Tryz.prog 74 #[.int .i64 4] W (Ret W fun r w' => ∃ u1 u2, r = .agg #[.bool false, u1, .bool false, u2] ∧ Words w' u1 (limbs 4) ∧ Words w' u2 (limbs 1)) := fun W => ref02_FromInt 4 (by omega) W
  have G0 := Lib.hid F0
  have G1 := Lib.hid F1
  have G2 := Lib.hid F2
  have G3 := Lib.hid F3
  have G4 := Lib.hid F4
  clear F0 F1 F2 F3 F4
  have HNW := Lib.hid (NoWord.new w #[.slice none 0 0, .slice none 0 0, .slice none 0 0, .slice none 0 0, .slice none 0 0, .slice none 0 0] 29 (by simp))
  go_enter Tryz.func28, Tryz.ntmps28
  go_wp2_with fail
  refine (G0.out _).mono ?_
  rintro e w1 ⟨r, rfl, ⟨a1, b1, rfl, ha1, hb1⟩, hx1⟩
  obtain ⟨P1, p1, rfl, hp1, hp1'⟩ := ha1.form
  obtain ⟨Q1, q1, rfl, hq1, hq1'⟩ := hb1.form
  have HA1 := Lib.hid ha1
  have HB1 := Lib.hid hb1
  have HX := Lib.hid hx1
  have HX1 := Lib.hid hx1
  clear ha1 hb1 hx1
  go_wp2_with fail
  refine (G0.out _).mono ?_
  rintro e w2 ⟨r, rfl, ⟨a2, b2, rfl, ha2, hb2⟩, hx2⟩
  obtain ⟨P2, p2, rfl, hp2, hp2'⟩ := ha2.form
  obtain ⟨Q2, q2, rfl, hq2, hq2'⟩ := hb2.form
  have HA2 := Lib.hid ha2
  have HB2 := Lib.hid hb2
  have HY2 := Lib.hid hx2
  have HZ := Lib.hid (Ext.trans HX.out hx2)
  clear ha2 hb2 hx2 HX
  have HX := Lib.hid HZ.out
  clear HZ
  go_wp2_with fail
  refine (G2.out _).mono ?_
  rintro e w3 ⟨r, rfl, ⟨a3, b3, rfl, ha3, hb3⟩, hx3⟩
  obtain ⟨P3, p3, rfl, hp3, hp3'⟩ := ha3.form
  obtain ⟨Q3, q3, rfl, hq3, hq3'⟩ := hb3.form
  have HA3 := Lib.hid ha3
  have HB3 := Lib.hid hb3
  have HY3 := Lib.hid hx3
  have HZ := Lib.hid (Ext.trans HX.out hx3)
  clear ha3 hb3 hx3 HX
  have HX := Lib.hid HZ.out
  clear HZ
  go_wp2_with fail
  refine (G0.out _).mono ?_
  rintro e w4 ⟨r, rfl, ⟨a4, b4, rfl, ha4, hb4⟩, hx4⟩
  obtain ⟨P4, p4, rfl, hp4, hp4'⟩ := ha4.form
  obtain ⟨Q4, q4, rfl, hq4, hq4'⟩ := hb4.form
  have HA4 := Lib.hid ha4
  have HB4 := Lib.hid hb4
  have HY4 := Lib.hid hx4
  have HZ := Lib.hid (Ext.trans HX.out hx4)
  clear ha4 hb4 hx4 HX
  have HX := Lib.hid HZ.out
  clear HZ
  go_wp2_with fail
  refine (G3.out _).mono ?_
  rintro e w5 ⟨r, rfl, ⟨a5, b5, rfl, ha5, hb5⟩, hx5⟩
  obtain ⟨P5, p5, rfl, hp5, hp5'⟩ := ha5.form
  obtain ⟨Q5, q5, rfl, hq5, hq5'⟩ := hb5.form
  have HA5 := Lib.hid ha5
  have HB5 := Lib.hid hb5
  have HY5 := Lib.hid hx5
  have HZ := Lib.hid (Ext.trans HX.out hx5)
  clear ha5 hb5 hx5 HX
  have HX := Lib.hid HZ.out
  clear HZ
  go_wp2_with fail
  refine (G4.out _).mono ?_
  rintro e w6 ⟨r, rfl, ⟨a6, b6, rfl, ha6, hb6⟩, hx6⟩
  obtain ⟨P6, p6, rfl, hp6, hp6'⟩ := ha6.form
  obtain ⟨Q6, q6, rfl, hq6, hq6'⟩ := hb6.form
  have HA6 := Lib.hid ha6
  have HB6 := Lib.hid hb6
  have HY6 := Lib.hid hx6
  have HZ := Lib.hid (Ext.trans HX.out hx6)
  clear ha6 hb6 hx6 HX
  have HX := Lib.hid HZ.out
  clear HZ
  go_wp2_with fail
  refine (G2.out _).mono ?_
  rintro e w7 ⟨r, rfl, ⟨a7, b7, rfl, ha7, hb7⟩, hx7⟩
  obtain ⟨P7, p7, rfl, hp7, hp7'⟩ := ha7.form
  obtain ⟨Q7, q7, rfl, hq7, hq7'⟩ := hb7.form
  have HA7 := Lib.hid ha7
  have HB7 := Lib.hid hb7
  have HPT := Lib.hid ((CellsAt.new w6 [Value.bool false, Value.slice P1 (limbs 0).length p1, Value.bool false, Value.slice Q1 (limbs 1).length q1, Value.bool false, Value.slice P2 (limbs 0).length p2, Value.bool false, Value.slice Q2 (limbs 1).length q2, Value.bool false, Value.slice P3 (limbs 2).length p3, Value.bool false, Value.slice Q3 (limbs 1).length q3, Value.bool false, Value.slice P4 (limbs 0).length p4, Value.bool false, Value.slice Q4 (limbs 1).length q4, Value.bool false, Value.slice P5 (limbs 3).length p5, Value.bool false, Value.slice Q5 (limbs 1).length q5, Value.bool false, Value.slice P6 (limbs 4).length p6, Value.bool false, Value.slice Q6 (limbs 1).length q6] 40).ext hx7)
  have hz7 : Ext w6 w7 := Ext.trans (Ext.alloc _ _) hx7
  clear hx7
  have hx7 := hz7
  clear hz7
  have HY7 := Lib.hid hx7
  have HZ := Lib.hid (Ext.trans HX.out hx7)
  clear ha7 hb7 hx7 HX
  have HX := Lib.hid HZ.out
  clear HZ
  go_wp2_with fail
  refine (G1.out _).mono ?_
  rintro e w8 ⟨r, rfl, ⟨a8, b8, rfl, ha8, hb8⟩, hx8⟩
  obtain ⟨P8, p8, rfl, hp8, hp8'⟩ := ha8.form
  obtain ⟨Q8, q8, rfl, hq8, hq8'⟩ := hb8.form
  have HA8 := Lib.hid ha8
  have HB8 := Lib.hid hb8
  have HY8 := Lib.hid hx8
  have HZ := Lib.hid (Ext.trans HX.out hx8)
  clear ha8 hb8 hx8 HX
  have HX := Lib.hid HZ.out
  clear HZ
  have hx := HX.out
  obtain ⟨hc, hf⟩ := bcell hx
  have hz : w.heap.size < w8.heap.size := by have := hx.size; simp at this; omega
  have hz6 : w.heap.size < w6.heap.size := by
    have h1 := (HY2.out.size); have h2 := HY3.out.size; have h3 := HY4.out.size; have h4 := HY5.out.size; have h5 := HY6.out.size
    have h0 := HX1.out.size; simp at h0; omega
  have HE : Hid (Ext w w8) := Ext.trans (Ext.alloc _ _) hx
  go_wp2_with fail
  have hB6 := (CellsAt.new w [.slice none 0 0, .slice none 0 0, .slice none 0 0, .slice none 0 0, .slice none 0 0, .slice none 0 0] 29).ext hx
  have HNF : NoWord w8 w.heap.size := HNW.out.ext (by simp) hx
  obtain ⟨W0, hW0⟩ : ∃ W0, put6 w8 w.heap.size (.slice (some ⟨w6.heap.size, 0, none⟩) 3 3) (.slice (some ⟨w8.heap.size, 0, none⟩) 2 2) (.slice none 0 0) (.slice (some ⟨w8.heap.size + 1, 0, none⟩) 1 1) (.slice none 0 0) (.slice none 0 0) = W0 := ⟨_, rfl⟩
  have hs0 : W0.heap.size = w8.heap.size := by rw [← hW0]; exact size_put6
  have hW : ∀ v xs, Words w8 v xs → Words W0 v xs := fun v xs h => by rw [← hW0]; exact h.put6 HNF (by intro n; simp) (by intro n; simp) (by intro n; simp) (by intro n; simp) (by intro n; simp)
  have hPT0 : CellsAt W0 w6.heap.size [Value.bool false, Value.slice P1 (limbs 0).length p1, Value.bool false, Value.slice Q1 (limbs 1).length q1, Value.bool false, Value.slice P2 (limbs 0).length p2, Value.bool false, Value.slice Q2 (limbs 1).length q2, Value.bool false, Value.slice P3 (limbs 2).length p3, Value.bool false, Value.slice Q3 (limbs 1).length q3, Value.bool false, Value.slice P4 (limbs 0).length p4, Value.bool false, Value.slice Q4 (limbs 1).length q4, Value.bool false, Value.slice P5 (limbs 3).length p5, Value.bool false, Value.slice Q5 (limbs 1).length q5, Value.bool false, Value.slice P6 (limbs 4).length p6, Value.bool false, Value.slice Q6 (limbs 1).length q6] := by rw [← hW0]; exact (HPT.out.ext HY8.out).put6 (by omega)
  have hSK0 : CellsAt W0 w.heap.size [.slice (some ⟨w6.heap.size, 0, none⟩) 3 3, .slice (some ⟨w8.heap.size, 0, none⟩) 2 2, .slice none 0 0, .slice (some ⟨w8.heap.size + 1, 0, none⟩) 1 1, .slice none 0 0, .slice none 0 0] := by rw [← hW0]; exact hB6.of_put6
  have hE0 : Ext w W0 := by rw [← hW0]; exact HE.out.put6 (Nat.le_refl _)
  change bodyPost _ _ _ _ _ (((put6 w8 w.heap.size (.slice (some ⟨w6.heap.size, 0, none⟩) 3 3) (.slice (some ⟨w8.heap.size, 0, none⟩) 2 2) (.slice none 0 0) (.slice (some ⟨w8.heap.size + 1, 0, none⟩) 1 1) (.slice none 0 0) (.slice none 0 0)).alloc _).alloc _)
  rw [hW0]
  have hXa := Ext.alloc W0 (.cells #[Value.int .i64 0, Value.bool false, Value.slice P7 (limbs 2).length p7, Value.bool false, Value.slice Q7 (limbs 1).length q7, Value.int .i64 2, Value.bool false, Value.slice P8 (limbs 1).length p8, Value.bool false, Value.slice Q8 (limbs 1).length q8] 66)
  have hXb := Ext.trans hXa (Ext.alloc _ (.cells #[Value.int .i64 0, Value.int .i64 1, Value.int .i64 1, Value.bool false] 81))
  have hCI : CellsAt ((W0.alloc (.cells #[Value.int .i64 0, Value.bool false, Value.slice P7 (limbs 2).length p7, Value.bool false, Value.slice Q7 (limbs 1).length q7, Value.int .i64 2, Value.bool false, Value.slice P8 (limbs 1).length p8, Value.bool false, Value.slice Q8 (limbs 1).length q8] 66)).alloc (.cells #[Value.int .i64 0, Value.int .i64 1, Value.int .i64 1, Value.bool false] 81)) w8.heap.size [Value.int .i64 0, Value.bool false, Value.slice P7 (limbs 2).length p7, Value.bool false, Value.slice Q7 (limbs 1).length q7, Value.int .i64 2, Value.bool false, Value.slice P8 (limbs 1).length p8, Value.bool false, Value.slice Q8 (limbs 1).length q8] := by
    have := (CellsAt.new W0 [Value.int .i64 0, Value.bool false, Value.slice P7 (limbs 2).length p7, Value.bool false, Value.slice Q7 (limbs 1).length q7, Value.int .i64 2, Value.bool false, Value.slice P8 (limbs 1).length p8, Value.bool false, Value.slice Q8 (limbs 1).length q8] 66).ext (Ext.alloc _ (.cells #[Value.int .i64 0, Value.int .i64 1, Value.int .i64 1, Value.bool false] 81))
    rwa [hs0] at this
  have hAR : CellsAt ((W0.alloc (.cells #[Value.int .i64 0, Value.bool false, Value.slice P7 (limbs 2).length p7, Value.bool false, Value.slice Q7 (limbs 1).length q7, Value.int .i64 2, Value.bool false, Value.slice P8 (limbs 1).length p8, Value.bool false, Value.slice Q8 (limbs 1).length q8] 66)).alloc (.cells #[Value.int .i64 0, Value.int .i64 1, Value.int .i64 1, Value.bool false] 81)) (w8.heap.size + 1) [Value.int .i64 0, Value.int .i64 1, Value.int .i64 1, Value.bool false] := by
    have := CellsAt.new (W0.alloc (.cells #[Value.int .i64 0, Value.bool false, Value.slice P7 (limbs 2).length p7, Value.bool false, Value.slice Q7 (limbs 1).length q7, Value.int .i64 2, Value.bool false, Value.slice P8 (limbs 1).length p8, Value.bool false, Value.slice Q8 (limbs 1).length q8] 66)) [Value.int .i64 0, Value.int .i64 1, Value.int .i64 1, Value.bool false] 81
    rwa [World.size_alloc, hs0] at this
  have hWF : ∀ v xs, Words w8 v xs → Words ((W0.alloc (.cells #[Value.int .i64 0, Value.bool false, Value.slice P7 (limbs 2).length p7, Value.bool false, Value.slice Q7 (limbs 1).length q7, Value.int .i64 2, Value.bool false, Value.slice P8 (limbs 1).length p8, Value.bool false, Value.slice Q8 (limbs 1).length q8] 66)).alloc (.cells #[Value.int .i64 0, Value.int .i64 1, Value.int .i64 1, Value.bool false] 81)) v xs := fun v xs h => (hW v xs h).ext hXb
  have hPT := hPT0.ext hXb
  have hSKF := hSK0.ext hXb
  have hE := hE0.trans hXb
  have hSK := ex_SkAt hPT hCI hAR (hWF _ _ (((((((HA1.out.ext HY2.out).ext HY3.out).ext HY4.out).ext HY5.out).ext HY6.out).ext HY7.out).ext HY8.out)) (hWF _ _ (((((((HB1.out.ext HY2.out).ext HY3.out).ext HY4.out).ext HY5.out).ext HY6.out).ext HY7.out).ext HY8.out)) (hWF _ _ ((((((HA2.out.ext HY3.out).ext HY4.out).ext HY5.out).ext HY6.out).ext HY7.out).ext HY8.out)) (hWF _ _ ((((((HB2.out.ext HY3.out).ext HY4.out).ext HY5.out).ext HY6.out).ext HY7.out).ext HY8.out)) (hWF _ _ (((((HA3.out.ext HY4.out).ext HY5.out).ext HY6.out).ext HY7.out).ext HY8.out)) (hWF _ _ (((((HB3.out.ext HY4.out).ext HY5.out).ext HY6.out).ext HY7.out).ext HY8.out)) (hWF _ _ ((((HA4.out.ext HY5.out).ext HY6.out).ext HY7.out).ext HY8.out)) (hWF _ _ ((((HB4.out.ext HY5.out).ext HY6.out).ext HY7.out).ext HY8.out)) (hWF _ _ (((HA5.out.ext HY6.out).ext HY7.out).ext HY8.out)) (hWF _ _ (((HB5.out.ext HY6.out).ext HY7.out).ext HY8.out)) (hWF _ _ ((HA6.out.ext HY7.out).ext HY8.out)) (hWF _ _ ((HB6.out.ext HY7.out).ext HY8.out)) (hWF _ _ (HA7.out.ext HY8.out)) (hWF _ _ (HB7.out.ext HY8.out)) (hWF _ _ HA8.out) (hWF _ _ HB8.out)
  generalize (W0.alloc (.cells #[Value.int .i64 0, Value.bool false, Value.slice P7 (limbs 2).length p7, Value.bool false, Value.slice Q7 (limbs 1).length q7, Value.int .i64 2, Value.bool false, Value.slice P8 (limbs 1).length p8, Value.bool false, Value.slice Q8 (limbs 1).length q8] 66)).alloc (.cells #[Value.int .i64 0, Value.int .i64 1, Value.int .i64 1, Value.bool false] 81) = WF at *
  obtain ⟨z0, z1, z2, z3, z4, z5⟩ := hSKF.six
  refine bodyPost_ret (v := .agg #[.slice (some ⟨w6.heap.size, 0, none⟩) 3 3, .slice (some ⟨w8.heap.size, 0, none⟩) 2 2, .slice none 0 0, .slice (some ⟨w8.heap.size + 1, 0, none⟩) 1 1, .slice none 0 0, .slice none 0 0]) ?_ rfl ⟨_, rfl, ⟨_, _, _, _, _, _, rfl, hSK⟩, hE⟩
  simp [results, Tryz.results28, go_sem, z0, z1, z2, z3, z4, z5]
end Go.Proofs.YtonleohlplkglaaGreatDoor

/- The list that the program's Implied builds, as data. -/
namespace Go.Proofs.YtonleohlplkglaaGreatDoor
open Go Go.RowKit

/-- A point on a circle. -/
def onC (pc : Int × Int) : CI := ⟨13, [pc.1], [pc.2], [], 0⟩
def onV (bp bc : Nat) : List Value := [.int .i64 13, .slice (some ⟨bp, 0, none⟩) 1 1, .slice (some ⟨bc, 0, none⟩) 1 1, .slice none 0 0, .int .i64 0]
/-- The list of constraints, whose numbers lie in blocks of their own. -/
def OutAt (base : Nat) (w : World) (v : Value) (l : List (Int × Int)) : Prop :=
  ∃ xs, w.ownsRow base 52 5 v l.length xs ∧ ∀ k pc, l[k]? = some pc → ∃ bp bc, (∀ j u, (onV bp bc)[j]? = some u → xs[k * 5 + j]? = some u) ∧ CellsAt w bp [.int .i64 pc.1] ∧ CellsAt w bc [.int .i64 pc.2] ∧ some bp ≠ v.ownBlock ∧ some bc ≠ v.ownBlock
theorem OutAt.nil (base : Nat) (w : World) : OutAt base w (.slice none 0 0) [] := ⟨[], World.ownsRow_nil _ _ _ _, fun k pc h => by simp at h⟩
theorem OutAt.ext {base : Nat} {w w' : World} {v : Value} {l : List (Int × Int)} (h : OutAt base w v l) (hx : Ext w w') : OutAt base w' v l := by
  obtain ⟨xs, ho, hel⟩ := h
  refine ⟨xs, ownsRow_ext ho hx, fun k pc hk => ?_⟩
  obtain ⟨bp, bc, h1, h2, h3, h4, h5⟩ := hel k pc hk
  exact ⟨bp, bc, h1, h2.ext hx, h3.ext hx, h4, h5⟩
theorem ints_one {w : World} {g c : Nat} {x : Int} (h : CellsAt w g [.int .i64 x]) (hc : 1 ≤ c) : Ints w (.slice (some ⟨g, 0, none⟩) 1 c) [x] := by
  refine ⟨some ⟨g, 0, none⟩, c, rfl, hc, by simp, fun _ => ⟨g, 0, rfl, h.1, fun k y hk => ?_⟩⟩
  rcases k with _ | k
  · simp at hk
    subst hk
    refine ⟨[.int .i64 x], rfl, fun j u hj => ?_, rfl⟩
    have := h.2 j u hj
    simpa using this
  · simp at hk
theorem OutAt.form {base : Nat} {w : World} {v : Value} {l : List (Int × Int)} (h : OutAt base w v l) : ∃ A c, v = .slice A l.length c := by
  obtain ⟨xs, ho, -⟩ := h
  rcases ho.2 with ⟨rfl, hn⟩ | ⟨g, cap, cur, rfl, -⟩
  · exact ⟨none, 0, by rw [hn]⟩
  · exact ⟨_, _, rfl⟩
theorem OutAt.arr {base : Nat} {w : World} {v : Value} {l : List (Int × Int)} (K : Nat) (h : OutAt base w v l) (hl : l.length ≤ 1000000) : ArrAt 5 (ConR K) w v (l.map onC) := by
  obtain ⟨xs, ho, hel⟩ := h
  rcases ho.2 with ⟨rfl, hn⟩ | ⟨g, cap, cur, rfl, hb, hg, hcap, hcm, hcs, htk⟩
  · obtain rfl := List.eq_nil_of_length_eq_zero hn
    exact ArrAt.nil
  · refine ⟨some ⟨g, 0, none⟩, cap, by simp, by simpa using hcap, by simp; omega, fun _ => ⟨g, 0, rfl, (Array.getElem?_eq_some_iff.1 hg).1, fun k x hk => ?_⟩⟩
    rw [List.getElem?_map] at hk
    obtain ⟨pc, hpc, rfl⟩ := Option.map_eq_some_iff.1 hk
    obtain ⟨bp, bc, h1, h2, h3, -, -⟩ := hel k pc hpc
    refine ⟨onV bp bc, rfl, fun j u hj => ?_, _, _, _, rfl, ints_one h2 (Nat.le_refl _), ints_one h3 (Nat.le_refl _), ArrAt.nil⟩
    have h6 := h1 j u hj
    rw [← htk, List.getElem?_take] at h6
    split at h6
    · rw [cell_of_row w g _ cur _ _ hg, Nat.zero_add]
      simpa using h6
    · cases h6
theorem OutAt.grow {base : Nat} {X w' : World} {v : Value} {l : List (Int × Int)} {xs : List Value} (hel : ∀ k pc, l[k]? = some pc → ∃ bp bc, (∀ j u, (onV bp bc)[j]? = some u → xs[k * 5 + j]? = some u) ∧ CellsAt X bp [.int .i64 pc.1] ∧ CellsAt X bc [.int .i64 pc.2] ∧ some bp ≠ v.ownBlock ∧ some bc ≠ v.ownBlock)
    (hxs : xs.length = l.length * 5) {pc : Int × Int} {bp bc g cap : Nat} (hp : CellsAt X bp [.int .i64 pc.1]) (hc : CellsAt X bc [.int .i64 pc.2]) (np : some bp ≠ v.ownBlock) (nc : some bc ≠ v.ownBlock)
    (hown : w'.ownsRow base 52 5 (.slice (some ⟨g, 0, none⟩) (l.length + 1) cap) (l.length + 1) (xs ++ onV bp bc)) (hg : X.grownBy w' v.ownBlock) (hat : v.ownBlock = some g ∨ g = X.heap.size) :
    OutAt base w' (.slice (some ⟨g, 0, none⟩) (l.length + 1) cap) (l ++ [pc]) := by
  have keep : ∀ b c, CellsAt X b c → some b ≠ v.ownBlock → CellsAt w' b c ∧ some b ≠ (Value.slice (some ⟨g, 0, none⟩) (l.length + 1) cap).ownBlock := by
    intro b c hb hne
    refine ⟨⟨Nat.lt_of_lt_of_le hb.1 hg.size, fun i u hi => (hg.cell_far ⟨b, i, none⟩ hb.1 hne).trans (hb.2 i u hi)⟩, ?_⟩
    intro e
    simp [Value.ownBlock] at e
    subst e
    rcases hat with h1 | h1
    · exact hne h1.symm
    · exact absurd hb.1 (by omega)
  refine ⟨xs ++ onV bp bc, by simpa using hown, fun k qc hk => ?_⟩
  rcases Nat.lt_or_ge k l.length with hlt | hge
  · rw [List.getElem?_append_left hlt] at hk
    obtain ⟨b1, b2, h1, h2, h3, h4, h5⟩ := hel k qc hk
    refine ⟨b1, b2, fun j u hj => ?_, (keep _ _ h2 h4).1, (keep _ _ h3 h5).1, (keep _ _ h2 h4).2, (keep _ _ h3 h5).2⟩
    have := h1 j u hj
    rw [List.getElem?_append_left ((List.getElem?_eq_some_iff.1 this).1)]
    exact this
  · rw [List.getElem?_append_right hge] at hk
    have hk0 : k = l.length := by
      have := (List.getElem?_eq_some_iff.1 hk).1
      simp at this; omega
    subst hk0
    simp at hk
    subst hk
    refine ⟨bp, bc, fun j u hj => ?_, (keep _ _ hp np).1, (keep _ _ hc nc).1, (keep _ _ hp np).2, (keep _ _ hc nc).2⟩
    rw [List.getElem?_append_right (by omega), show l.length * 5 + j - xs.length = j by omega]
    exact hj

def knownB (s : SkI) (out : List (Int × Int)) (pc : Int × Int) : Bool := s.cons.any (eqC (onC pc)) || (out.map onC).any (eqC (onC pc))
def impStep (s : SkI) (out : List (Int × Int)) (pc : Int × Int) : List (Int × Int) := if knownB s out pc then out else out ++ [pc]
def arcEnds (l : List ArI) : List (Int × Int) := l.flatMap fun a => [(a.a, a.circle), (a.b, a.circle)]
/-- The points and circles of the constraints that the program's Implied returns. -/
def impP (s : SkI) : List (Int × Int) := (arcEnds s.arcs).foldl (impStep s) []
theorem impStep_len (s : SkI) (out : List (Int × Int)) (pc : Int × Int) : (impStep s out pc).length ≤ out.length + 1 := by
  unfold impStep; split <;> simp
end Go.Proofs.YtonleohlplkglaaGreatDoor

/- The program's Implied, Vars. -/
namespace Go.Proofs.YtonleohlplkglaaGreatDoor
open Go Go.RowKit

theorem infoCon : (Tryz.prog.info? 52).map (fun i => (i.zero, i.size, i.bytes)) = some (some (.agg #[.int .i64 0, .slice none 0 0, .slice none 0 0, .slice none 0 0, .int .i64 0]), 5, 88) := by kernel_rfl

theorem enters_impl1 : ∀ args w, (callFunc 58 args).run Tryz.prog w = .ok (.enter 58 args) w := enters_of Tryz.func58 (by kernel_rfl) rfl

theorem CellsAt.far {X w' : World} {row : Option Nat} {b : Nat} {cs : List Value} (h : CellsAt X b cs) (hg : X.grownBy w' row) (hne : some b ≠ row) : CellsAt w' b cs :=
  ⟨Nat.lt_of_lt_of_le h.1 hg.size, fun i u hi => (hg.cell_far ⟨b, i, none⟩ h.1 hne).trans (h.2 i u hi)⟩
theorem CellsAt.ne_own {X : World} {v : Value} {g b : Nat} {cs : List Value} (h : CellsAt X b cs) (hne : some b ≠ v.ownBlock) (hat : v.ownBlock = some g ∨ g = X.heap.size) (n cap : Nat) : some b ≠ (Value.slice (some ⟨g, 0, none⟩) n cap).ownBlock := by
  intro e
  simp [Value.ownBlock] at e
  subst e
  rcases hat with h1 | h1
  · exact hne h1.symm
  · exact absurd h.1 (by omega)
theorem OutAt.grow' {base : Nat} {X X' w' : World} {v : Value} {l : List (Int × Int)} {xs : List Value} (hel : ∀ k pc, l[k]? = some pc → ∃ bp bc, (∀ j u, (onV bp bc)[j]? = some u → xs[k * 5 + j]? = some u) ∧ CellsAt X bp [.int .i64 pc.1] ∧ CellsAt X bc [.int .i64 pc.2] ∧ some bp ≠ v.ownBlock ∧ some bc ≠ v.ownBlock) (hx : Ext X X')
    (hxs : xs.length = l.length * 5) {pc : Int × Int} {bp bc g cap : Nat} (hp : CellsAt X bp [.int .i64 pc.1]) (hc : CellsAt X bc [.int .i64 pc.2]) (np : some bp ≠ v.ownBlock) (nc : some bc ≠ v.ownBlock)
    (hown : w'.ownsRow base 52 5 (.slice (some ⟨g, 0, none⟩) (l.length + 1) cap) (l.length + 1) (xs ++ onV bp bc)) (hg : X'.grownBy w' v.ownBlock) (hat : v.ownBlock = some g ∨ g = X'.heap.size) :
    OutAt base w' (.slice (some ⟨g, 0, none⟩) (l ++ [pc]).length cap) (l ++ [pc]) := by
  rw [List.length_append]
  refine OutAt.grow (X := X') (v := v) (fun k qc h => ?_) hxs (hp.ext hx) (hc.ext hx) np nc hown hg hat
  obtain ⟨b1, b2, h1, h2, h3, h4, h5⟩ := hel k qc h
  exact ⟨b1, b2, h1, h2.ext hx, h3.ext hx, h4, h5⟩

set_option maxHeartbeats 800000 in
theorem sketch_Vars {K : Nat} {s : SkI} {v0 v1 v2 v3 v4 v5 : Value} {w : World} (h : SkAt K w v0 v1 v2 v3 v4 v5 s) (hp : s.points.length ≤ 1000) (hc : s.circles.length ≤ 1000) :
    Calls Tryz.prog 29 #[.agg #[v0, v1, v2, v3, v4, v5]] w fun e w' => e = .returned (.int .i64 ((2 * s.points.length + s.circles.length : Nat) : Int)) ∧ Ext w w' := by
  obtain ⟨A0, c0, rfl, hl0, hm0⟩ := h.points.form
  obtain ⟨A1, c1, rfl, hl1, hm1⟩ := h.circles.form
  clear h
  generalize s.points.length = n at *
  generalize s.circles.length = m at *
  go_enter Tryz.func29, Tryz.ntmps29
  go_wp2_with fail
  go_ret
  exact ⟨by simp, (by repeat (first | exact Ext.refl _ | assumption | refine Ext.pdrewN ?_ _ | refine Ext.pdrew ?_ | refine Ext.palloc ?_ _ | refine Ext.pset ?_ (by simp <;> omega) _ | refine Ext.trans ?_ (by assumption)))⟩

set_option maxRecDepth 100000 in
set_option maxHeartbeats 3200000 in
theorem sketch_Implied {K : Nat} {s : SkI} {v0 v1 v2 v3 v4 v5 : Value} {w : World} (h : SkAt K w v0 v1 v2 v3 v4 v5 s) (ha : s.arcs.length ≤ 1000) :
    Calls Tryz.prog 15 #[.agg #[v0, v1, v2, v3, v4, v5]] w (Ret w fun r w' => OutAt (w.heap.size + 1) w' r (impP s) ∧ (impP s).length ≤ 2000) := by
  obtain ⟨A3, c3, rfl, hl3, hm3⟩ := h.arcs.form
  obtain ⟨A5, c5, rfl, hl5, hm5⟩ := h.cons.form
  have HAR := Lib.hid h.arcs
  have HC1 := Lib.hid (fun (W : World) (hx : Ext w W) (B bp bc : Nat) (p c : Int) (hp : CellsAt W bp [.int .i64 p]) (hc : CellsAt W bc [.int .i64 c]) (hB : CellsAt W B (onV bp bc)) => con_Con K 58 #[.pointer (some ⟨B, 0, none⟩)] enters_impl1 (h.cons.ext (ConR.stable K) hx) (impl1 (K := K) (c := onC (p, c)) (xs := s.cons) (ints_one hp (Nat.le_refl _)) (ints_one hc (Nat.le_refl _)) hB))
  have HC2 := Lib.hid (fun (W : World) (B bp bc : Nat) (p c : Int) (hp : CellsAt W bp [.int .i64 p]) (hc : CellsAt W bc [.int .i64 c]) (hB : CellsAt W B (onV bp bc)) (base : Nat) (A : Option Addr) (cp : Nat) (out : List (Int × Int)) (ho : OutAt base W (.slice A out.length cp) out) (hl : out.length ≤ 1000000) => con_Con K 58 #[.pointer (some ⟨B, 0, none⟩)] enters_impl1 (ho.arr K hl) (impl1 (K := K) (c := onC (p, c)) (xs := out.map onC) (ints_one hp (Nat.le_refl _)) (ints_one hc (Nat.le_refl _)) hB))
  have HBX := Lib.hid (CellsAt.new w [v0, v1, v2, .slice A3 s.arcs.length c3, v4, .slice A5 s.cons.length c5] 29)
  obtain ⟨w1, hw1⟩ : ∃ w1, w.alloc (.cells #[v0, v1, v2, .slice A3 s.arcs.length c3, v4, .slice A5 s.cons.length c5] 29) = w1 := ⟨_, rfl⟩
  have HE1 : Hid (Ext w w1) := by rw [← hw1]; exact Ext.alloc _ _
  have HB1 : Hid (CellsAt w1 w.heap.size [v0, v1, v2, .slice A3 s.arcs.length c3, v4, .slice A5 s.cons.length c5]) := by rw [← hw1]; exact HBX.out
  have hs1 : w1.heap.size = w.heap.size + 1 := by rw [← hw1]; simp
  have HS1 := Lib.hid hs1
  have HW1 := Lib.hid hw1
  clear hw1 HBX h hs1
  obtain ⟨i0, hi, hz0, hz1, hz2⟩ := info_parts infoCon
  have hE1 := HE1.out
  obtain ⟨y0, y1, y2, y3, y4, y5⟩ := HB1.out.six
  go_enter Tryz.func15, Tryz.ntmps15
  go_upto_region 1 with fail
  rw [HW1.out]
  go_wp2_with fail
  clear y0 y1 y2 y3 y4 y5
  go_loopg [3, 13] s.arcs.length (fun gk v x wr => ∃ (i : Nat) (out : List (Int × Int)) (A : Option Addr) (c : Nat), v = .slice A out.length c ∧ x = .int .i64 (i : Int) ∧ i + gk = s.arcs.length ∧ out.length ≤ 2 * i ∧ Hid (OutAt w1.heap.size wr (.slice A out.length c) out) ∧ Hid ((arcEnds (s.arcs.drop i)).foldl (impStep s) out = impP s) ∧ Hid (Ext w1 wr))
  case atStart => exact ⟨0, [], none, 0, rfl, rfl, by omega, by simp, OutAt.nil _ _, rfl, Ext.refl _⟩
  case round =>
    obtain ⟨i, out, A, c, rfl, rfl, hk, hol, HO, HF, HE⟩ := hrel
    have HB2 := Lib.hid (HB1.out.ext HE.out)
    obtain ⟨y0, y1, y2, y3, y4, y5⟩ := HB2.out.six
    have hE0 := HE.out
    have hEr : Ext w wr := Ext.trans hE1 HE.out
    by_cases hlt : i < s.arcs.length
    · obtain ⟨b, off, rfl, hb, ds, hds, hcell, hR⟩ := HAR.out.at_ hlt
      rw [hR] at hcell
      have q0 : wr.cell? ⟨b, off + i * 4, none⟩ = _ := (hEr.cell (p := ⟨b, off + (i * 4 + 0), none⟩) hb).trans (hcell 0 _ rfl)
      have q1 : wr.cell? ⟨b, off + i * 4 + 1, none⟩ = _ := (hEr.cell (p := ⟨b, off + (i * 4 + 1), none⟩) hb).trans (hcell 1 _ rfl)
      have q2 : wr.cell? ⟨b, off + i * 4 + 2, none⟩ = _ := (hEr.cell (p := ⟨b, off + (i * 4 + 2), none⟩) hb).trans (hcell 2 _ rfl)
      have q3 : wr.cell? ⟨b, off + i * 4 + 3, none⟩ = _ := (hEr.cell (p := ⟨b, off + (i * 4 + 3), none⟩) hb).trans (hcell 3 _ rfl)
      have hz3 : b < wr.heap.size := Nat.lt_of_lt_of_le hb hEr.size
      have HF1 : Hid ((([(s.arcs[i].a, s.arcs[i].circle), (s.arcs[i].b, s.arcs[i].circle)] : List (Int × Int)) ++ arcEnds (s.arcs.drop (i + 1))).foldl (impStep s) out = impP s) := by
        show _ = _
        rw [← HF.out, List.drop_eq_getElem_cons hlt]
        rfl
      clear hcell hds hR HF
      generalize s.arcs[i].a = pa at *
      generalize s.arcs[i].b = pb at *
      generalize s.arcs[i].circle = pc at *
      generalize s.arcs[i].cw = pw at *
      go_upto_region 6 with fail
      obtain ⟨W2, hW2⟩ : ∃ W2, (wr.alloc (.cells #[.int .i64 pc, .int .i64 pa, .int .i64 pb, .bool pw] 81)).alloc (.cells #[.int .i64 pa, .int .i64 pb] 3) = W2 := ⟨_, rfl⟩
      have HGA : Hid (CellsAt W2 wr.heap.size [.int .i64 pc, .int .i64 pa, .int .i64 pb, .bool pw]) := by rw [← hW2]; exact (CellsAt.new _ _ _).ext (Ext.alloc _ _)
      have HGI : Hid (CellsAt W2 (wr.heap.size + 1) [.int .i64 pa, .int .i64 pb]) := by
        rw [← hW2]
        have := CellsAt.new (wr.alloc (.cells #[.int .i64 pc, .int .i64 pa, .int .i64 pb, .bool pw] 81)) [.int .i64 pa, .int .i64 pb] 3
        rwa [World.size_alloc] at this
      have HX2 : Hid (Ext wr W2) := by rw [← hW2]; exact (Ext.alloc _ _).palloc _
      have HNA : Hid (∀ r, (Value.slice A out.length c).ownBlock = some r → r < wr.heap.size) := by
        intro r hr
        obtain ⟨xs, ho, -⟩ := HO.out
        exact (ho.lt r hr).2
      rw [hW2]
      clear hW2 y0 y1 y2 y3 y4 y5 q0 q1 q2 q3
      generalize wr.heap.size = ga at *
      go_loopg [3, 23] 2 (fun gk2 v x wr2 => ∃ (k : Nat) (out2 : List (Int × Int)) (A2 : Option Addr) (c2 : Nat), v = .slice A2 out2.length c2 ∧ x = .int .i64 (k : Int) ∧ k + gk2 = 2 ∧ out2.length ≤ 2 * i + k ∧ Hid (OutAt w1.heap.size wr2 (.slice A2 out2.length c2) out2) ∧ Hid ((([(pa, pc), (pb, pc)] : List (Int × Int)).drop k ++ arcEnds (s.arcs.drop (i + 1))).foldl (impStep s) out2 = impP s) ∧ Hid (Ext w1 wr2) ∧ Hid (CellsAt wr2 ga [.int .i64 pc, .int .i64 pa, .int .i64 pb, .bool pw]) ∧ Hid (CellsAt wr2 (ga + 1) [.int .i64 pa, .int .i64 pb]) ∧ Hid (some ga ≠ (Value.slice A2 out2.length c2).ownBlock ∧ some (ga + 1) ≠ (Value.slice A2 out2.length c2).ownBlock))
      case atStart =>
        refine ⟨0, out, A, c, rfl, rfl, by omega, by omega, HO.out.ext HX2.out, HF1.out, Ext.trans hE0 HX2.out, HGA.out, HGI.out, ?_, ?_⟩
        · intro e; have := HNA.out _ e.symm; omega
        · intro e; have := HNA.out _ e.symm; omega
      case round =>
        clear HO HGA HGI HX2 HNA HF1 HE hE0 hEr HB2 hol
        obtain ⟨k, out, A, c, rfl, rfl, hk2, hol, HO, HF, HE, HGA, HGI, HNE⟩ := hrel
        have HB2 := Lib.hid (HB1.out.ext HE.out)
        obtain ⟨y0, y1, y2, y3, y4, y5⟩ := HB2.out.six
        have hE0 := HE.out
        have hEr : Ext w wr := Ext.trans hE1 HE.out
        by_cases hlt2 : k < 2
        · obtain ⟨p, hp⟩ : ∃ p, Hid (([(pa, pc), (pb, pc)] : List (Int × Int)).drop k = (p, pc) :: ([(pa, pc), (pb, pc)] : List (Int × Int)).drop (k + 1)) ∧ wr.cell? ⟨ga + 1, k, none⟩ = some (.int .i64 p) := by
            match k, hlt2 with
            | 0, _ => exact ⟨pa, rfl, HGI.out.2 0 _ rfl⟩
            | 1, _ => exact ⟨pb, rfl, HGI.out.2 1 _ rfl⟩
          obtain ⟨HD, qk⟩ := hp
          have qc := HGA.out.2 0 _ rfl
          have hz4 : ga < wr.heap.size := HGA.out.1
          have hz5 : ga + 1 < wr.heap.size := HGI.out.1
          have HF2 : Hid ((([(pa, pc), (pb, pc)] : List (Int × Int)).drop (k + 1) ++ arcEnds (s.arcs.drop (i + 1))).foldl (impStep s) (impStep s out (p, pc)) = impP s) := by
            show _ = _
            rw [← HF.out, HD.out]
            rfl
          have HLT : Hid (∀ r, (Value.slice A out.length c).ownBlock = some r → r < wr.heap.size) := by
            intro r hr
            obtain ⟨xs, ho, -⟩ := HO.out
            exact (ho.lt r hr).2
          clear HF HD
          go_upto_region 9 with fail
          obtain ⟨X, hX⟩ : ∃ X, ((wr.alloc (.cells #[.int .i64 p] 3)).alloc (.cells #[.int .i64 pc] 3)).alloc (.cells #[.int .i64 13, .slice (some ⟨wr.heap.size, 0, none⟩) 1 1, .slice (some ⟨wr.heap.size + 1, 0, none⟩) 1 1, .slice none 0 0, .int .i64 0] 52) = X := ⟨_, rfl⟩
          have HXX : Hid (Ext wr X) := by rw [← hX]; exact ((Ext.alloc _ _).palloc _).palloc _
          have HXP : Hid (CellsAt X wr.heap.size [.int .i64 p]) := by rw [← hX]; exact (CellsAt.new wr [.int .i64 p] 3).ext ((Ext.alloc _ _).palloc _)
          have HXC : Hid (CellsAt X (wr.heap.size + 1) [.int .i64 pc]) := by
            rw [← hX]
            have := (CellsAt.new (wr.alloc (.cells #[.int .i64 p] 3)) [.int .i64 pc] 3).ext (Ext.alloc _ (.cells (onV wr.heap.size (wr.heap.size + 1)).toArray 52))
            rwa [World.size_alloc] at this
          have HXB : Hid (CellsAt X (wr.heap.size + 1 + 1) (onV wr.heap.size (wr.heap.size + 1))) := by
            rw [← hX]
            have := CellsAt.new ((wr.alloc (.cells #[.int .i64 p] 3)).alloc (.cells #[.int .i64 pc] 3)) (onV wr.heap.size (wr.heap.size + 1)) 52
            rwa [World.size_alloc, World.size_alloc] at this
          rw [hX]
          have hsX : X.heap.size = wr.heap.size + 1 + 1 + 1 := by rw [← hX]; simp
          have HEX : Hid (Ext w1 X) := hE0.trans HXX.out
          have hEX : Ext w X := hEr.trans HXX.out
          have HLX : Hid ((some wr.heap.size ≠ (Value.slice A out.length c).ownBlock) ∧ (some (wr.heap.size + 1) ≠ (Value.slice A out.length c).ownBlock)) := by
            constructor
            · intro e; have := HLT.out _ e.symm; omega
            · intro e; have := HLT.out _ e.symm; omega
          have HOX := Lib.hid (HO.out.ext HXX.out)
          have HGAX := Lib.hid (HGA.out.ext HXX.out)
          have HGIX := Lib.hid (HGI.out.ext HXX.out)
          have HKN : Hid (impStep s out (p, pc) = if (s.cons.any (eqC (onC (p, pc))) || (out.map onC).any (eqC (onC (p, pc)))) = true then out else out ++ [(p, pc)]) := rfl
          have HWS : Hid (w1.heap.size ≤ wr.heap.size) := hE0.size
          clear hX y0 y1 y2 y3 y4 y5 qk qc HO HGA HGI hz4 hz5 HLT
          generalize hbp : wr.heap.size = bp at *
          have HCX1 := Lib.hid (HC1.out X hEX (bp + 1 + 1) bp (bp + 1) p pc HXP.out HXC.out HXB.out)
          generalize s.cons.any (eqC (onC (p, pc))) = b1 at *
          obtain ⟨y0, y1, y2, y3, y4, y5⟩ := (HB1.out.ext HEX.out).six
          have hlt1 := (HB1.out.ext HEX.out).1
          go_wp2_with fail
          refine HCX1.out.mono ?_
          rintro e X1 ⟨rfl, hx1⟩
          clear HCX1 y0 y1 y2 y3 y4 y5
          cases b1 with
          | true =>
            have HS2 : Hid (impStep s out (p, pc) = out) := by show _ = _; rw [HKN.out]; rfl
            rw [HS2.out] at HF2
            go_wp2_with fail
            go_roundg (2 - (k + 1))
            case measure => omega
            case rel => exact ⟨k + 1, out, A, c, rfl, by simp, by omega, by omega, HOX.out.ext hx1, HF2.out, Ext.trans HEX.out hx1, HGAX.out.ext hx1, HGIX.out.ext hx1, HNE.out⟩
          | false =>
            have HCX2 := Lib.hid (HC2.out X1 (bp + 1 + 1) bp (bp + 1) p pc (HXP.out.ext hx1) (HXC.out.ext hx1) (HXB.out.ext hx1) w1.heap.size A c out (HOX.out.ext hx1) (by omega))
            generalize (out.map onC).any (eqC (onC (p, pc))) = b2 at *
            go_wp2_with fail
            refine HCX2.out.mono ?_
            rintro e X2 ⟨rfl, hx2⟩
            clear HCX2
            have hx12 := Ext.trans hx1 hx2
            cases b2 with
            | true =>
              have HS2 : Hid (impStep s out (p, pc) = out) := by show _ = _; rw [HKN.out]; rfl
              rw [HS2.out] at HF2
              go_wp2_with fail
              go_roundg (2 - (k + 1))
              case measure => omega
              case rel => exact ⟨k + 1, out, A, c, rfl, by simp, by omega, by omega, HOX.out.ext hx12, HF2.out, Ext.trans HEX.out hx12, HGAX.out.ext hx12, HGIX.out.ext hx12, HNE.out⟩
            | false =>
              have HS2 : Hid (impStep s out (p, pc) = out ++ [(p, pc)]) := by show _ = _; rw [HKN.out]; rfl
              rw [HS2.out] at HF2
              obtain ⟨xs, ho, hel⟩ := HOX.out.ext hx12
              have HOW := Lib.hid ho
              have HEL := Lib.hid hel
              have HB3 := Lib.hid (HXB.out.ext hx12)
              obtain ⟨t0, t1, t2, t3, t4⟩ := HB3.out.five
              have hlt3 := HB3.out.1
              have hX2 : Ext w1 X2 := Ext.trans HEX.out hx12
              clear ho hel
              go_wp2_with (at_builtin; refine wpList_append_lies _ rfl _ _ 27 rfl w1.heap.size 52 i0 (.agg #[.int .i64 0, .slice none 0 0, .slice none 0 0, .slice none 0 0, .int .i64 0]) 5 88 Tryz.underlying27 hi hz0 hz1 hz2 rfl (by decide) _ out.length xs rfl (ownsRow_ext HOW.out (by repeat (first | exact Ext.refl _ | assumption | refine Ext.pdrewN ?_ _ | refine Ext.pdrew ?_ | refine Ext.palloc ?_ _ | refine Ext.pset ?_ (by simp <;> omega) _ | refine Ext.trans ?_ (by assumption)))) _ 1 1 (onV bp (bp + 1)) rfl rfl (news_new _ (onV bp (bp + 1)) _) (by simp [onV, Value.oneCell']) (by omega) (by unfold maxLen; omega) (by omega) (by have := hX2.size; simp; omega) _ rfl ?_; intro g cap w4 hown4 hgrow hat hlt4)
              go_roundg (2 - (k + 1))
              case measure => omega
              case rel =>
                have hGA := (HGAX.out.ext hx12).ext (Ext.alloc X2 (.cells (onV bp (bp + 1)).toArray 52))
                have hGI := (HGIX.out.ext hx12).ext (Ext.alloc X2 (.cells (onV bp (bp + 1)).toArray 52))
                exact ⟨k + 1, out ++ [(p, pc)], some ⟨g, 0, none⟩, cap, by simp, by simp, by omega, by simp; omega, OutAt.grow' HEL.out (Ext.alloc X2 (.cells (onV bp (bp + 1)).toArray 52)) HOW.out.1 (HXP.out.ext hx12) (HXC.out.ext hx12) HLX.out.1 HLX.out.2 hown4 hgrow hat, HF2.out, ext_grown hgrow (hX2.palloc _) (ownsRow_block HOW.out), hGA.far hgrow HNE.out.1, hGI.far hgrow HNE.out.2, hGA.ne_own HNE.out.1 hat _ _, hGI.ne_own HNE.out.2 hat _ _⟩
        · obtain rfl : k = 2 := by omega
          go_wp2_with fail
          go_roundg (s.arcs.length - (i + 1))
          case measure => omega
          case rel => exact ⟨i + 1, out, A, c, rfl, by simp, by omega, by omega, HO.out, HF.out, HE.out⟩
    · have HU : Hid (out = impP s) := by show _ = _; rw [← HF.out, List.drop_eq_nil_of_le (by omega)]; rfl
      go_wp2_with fail
      go_ret
      refine ⟨_, rfl, ⟨?_, ?_⟩, hEr⟩
      · have := HO.out
        rw [HS1.out] at this
        rw [← HU.out]
        exact this
      · rw [← HU.out]; omega
end Go.Proofs.YtonleohlplkglaaGreatDoor
