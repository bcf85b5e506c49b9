/- The statement SketchLarge: its walk. -/
import Derived.Test.YtonleohlplkglaaGreatDoorYU
import Derived.Test.YtonleohlplkglaaGreatDoorYQ
import Derived.Test.YtonleohlplkglaaGreatDoorYR
import Derived.Test.YtonleohlplkglaaGreatDoorYE
import Derived.Test.YtonleohlplkglaaGreatDoorYN
namespace Go.Proofs.YtonleohlplkglaaGreatDoor
open Go Go.RowKit
/-- A box into which the call may store. -/
def BoxS (w : World) (g : Nat) (vs : List Value) : Prop := CellsAt w g vs ∧ ∀ j, w.frozen? ⟨g, j, none⟩ = false
theorem BoxS.ext {w w' : World} {g : Nat} {vs : List Value} (h : BoxS w g vs) (hx : Ext w w') : BoxS w' g vs :=
 ⟨h.1.ext hx, fun j => (World.frozen?_of_block (a := ⟨g, j, none⟩) (hx.block g h.1.1)).trans (h.2 j)⟩
theorem BoxS.new (w : World) (vs : List Value) (T : TypeId) : BoxS (w.alloc (.cells vs.toArray T)) w.heap.size vs := ⟨CellsAt.new w vs T, fun _ => World.frozen?_alloc_new _ _ _ _⟩
theorem BoxS.set_ {w : World} {g : Nat} {vs : List Value} (h : BoxS w g vs) {j : Nat} (hj : j < vs.length) (u : Value) : BoxS (w.setCell ⟨g, j, none⟩ u) g (vs.set j u) := by
 refine ⟨⟨by simpa [World.setCell] using h.1.1, fun i v hi => ?_⟩, fun i => by rw [World.frozen?_setCell]; exact h.2 i⟩
 by_cases e : j = i
 ·subst e
  rw [List.getElem?_set_self hj] at hi
  injection hi with hi
  subst hi
  exact World.cell?_setCell_same _ _ _ (h.1.2 j _ (List.getElem?_eq_getElem hj))
 ·rw [List.getElem?_set_ne e] at hi
  rw [World.cell?_setCell_other _ _ _ _ (by intro e'; injection e' with _ e2 _; exact e e2)]
  exact h.1.2 i v hi
abbrev PtW (w : World) : World → List Value → PtI → Prop := fun _ => PtR w
theorem PtW.stable (w : World) : Stable (PtW w) := fun _ _ _ _ _ h => h
theorem one_PtW (w0 : World) : ∀ (w : World) (ds : List Value) (x : PtI), PtW w0 w ds x → ∀ u ∈ ds, u.oneCell' = true := by
 rintro w ds x ⟨u, v, u', v', rfl, h1, h2, h3, h4⟩ y hy
 obtain ⟨_, _, rfl, -, -⟩ := h1.form
 obtain ⟨_, _, rfl, -, -⟩ := h2.form
 obtain ⟨_, _, rfl, -, -⟩ := h3.form
 obtain ⟨_, _, rfl, -, -⟩ := h4.form
 simp only [List.mem_cons, List.not_mem_nil, or_false] at hy
 rcases hy with rfl | rfl | rfl | rfl | rfl | rfl | rfl | rfl <;> rfl
def SgS (cs : List Value) (p : SgI) : Prop := cs = [.int .i64 p.a, .int .i64 p.b]
abbrev SgW : World → List Value → SgI → Prop := fun _ => SgS
theorem SgW.stable : Stable SgW := fun _ _ _ _ _ h => h
theorem one_SgW : ∀ (w : World) (ds : List Value) (x : SgI), SgW w ds x → ∀ u ∈ ds, u.oneCell' = true := by
 rintro w ds x h y hy
 rw [show ds = [.int .i64 x.a, .int .i64 x.b] from h] at hy
 simp only [List.mem_cons, List.not_mem_nil, or_false] at hy
 rcases hy with rfl | rfl <;> rfl
theorem small_points {s : SkI} {p : PtI} {m : Nat} (h : SmallS 61 s) (hp : p ∈ s.points) : SmallS 61 { s with points := s.points ++ List.replicate m p } :=
 ⟨fun q hq => by
  rcases List.mem_append.1 hq with hq | hq
  ·exact h.points q hq
  ·rw [List.eq_of_mem_replicate hq]; exact h.points p hp, h.circles, h.cons⟩
def wantB : Bool → Int
 | true => 3
 | false => 0
theorem want_of {er : Int} {n : Nat} {b : Bool} (h : er = if 200 < n then 3 else 0) (hw : (if 200 < n then (3 : Int) else 0) = wantB b) : er = wantB b := h.trans hw
theorem mk_segs (n : Nat) (hn : n ≤ 1000) (W : World) :
  (Instr.makeSlice 24 (.int .i64 (n : Int)) (.int .i64 (n : Int))).run Tryz.prog W = .ok (.slice (some ⟨W.heap.size, 0, none⟩) n n) (W.alloc (.cells (madeCells #[.int .i64 0, .int .i64 0] (n * 2)) 42)) := by
 obtain ⟨i, hi, hz0, hz1, hz2⟩ := info_parts inf_Segment
 have hb : (i.bytes : Int) * (n : Int) ≤ 281474976710656 := by rw [hz2]; omega
 have hr := run_make (P := Tryz.prog) W 24 42 i _ Tryz.underlying24 hi hz0 .i64 .i64 n n (by omega) (by omega) hb (by omega)
 simp only [Int.toNat_natCast, hz1] at hr
 exact hr
theorem mk_pieces (n : Nat) (hn : n ≤ 1000) (W : World) :
  (Instr.makeSlice 43 (.int .i64 (n : Int)) (.int .i64 (n : Int))).run Tryz.prog W = .ok (.slice (some ⟨W.heap.size, 0, none⟩) n n) (W.alloc (.cells (madeCells #[.bool false, .int .i64 0, .bool false] (n * 3)) 45)) := by
 obtain ⟨i, hi, hz0, hz1, hz2⟩ := info_parts inf_Piece
 have hb : (i.bytes : Int) * (n : Int) ≤ 281474976710656 := by rw [hz2]; omega
 have hr := run_make (P := Tryz.prog) W 43 45 i _ Tryz.underlying43 hi hz0 .i64 .i64 n n (by omega) (by omega) hb (by omega)
 simp only [Int.toNat_natCast, hz1] at hr
 exact hr
theorem cell_made (w : World) (z : Array Value) (n : Nat) (T : TypeId) {i : Nat} (hi : i < n) : (w.alloc (.cells (madeCells z n) T)).cell? ⟨w.heap.size, i, none⟩ = some z[i % z.size]! := by
 rw [World.cell?_alloc_new]
 simp [madeCells, hi]
theorem segs_made (w : World) (n : Nat) (hn : n ≤ 1000) : ArrAt 2 SgR (w.alloc (.cells (madeCells #[.int .i64 0, .int .i64 0] (n * 2)) 42)) (.slice (some ⟨w.heap.size, 0, none⟩) n n) (List.replicate n ⟨0, 0⟩) := by
 refine ⟨_, n, by rw [List.length_replicate], by rw [List.length_replicate]; exact Nat.le_refl _, by rw [List.length_replicate]; omega, fun _ => ⟨w.heap.size, 0, rfl, by simp, fun k x hk => ?_⟩⟩
 rw [List.getElem?_replicate] at hk
 obtain ⟨hk1, hk⟩ : k < n ∧ some (⟨0, 0⟩ : SgI) = some x := by
  split at hk
  ·exact ⟨by assumption, hk⟩
  ·cases hk
 injection hk with hk
 subst hk
 refine ⟨[.int .i64 0, .int .i64 0], rfl, fun j u hj => ?_, rfl⟩
 match j, hj with
 | 0, hj =>
  simp only [List.getElem?_cons_zero, Option.some.injEq] at hj
  subst hj
  rw [Nat.zero_add, cell_made _ _ _ _ (by omega), show (k * 2 + 0) % (#[(.int .i64 0 : Value), .int .i64 0]).size = 0 by simp]
  rfl
 | 1, hj =>
  simp only [List.getElem?_cons_succ, List.getElem?_cons_zero, Option.some.injEq] at hj
  subst hj
  rw [Nat.zero_add, cell_made _ _ _ _ (by omega), show (k * 2 + 1) % (#[(.int .i64 0 : Value), .int .i64 0]).size = 1 by simp]
  rfl
 | j + 2, hj => simp at hj
/-- The pieces, of which the first i have been turned. -/
def PRow (w : World) (g n i : Nat) : Prop := g < w.heap.size ∧ (∀ j, w.frozen? ⟨g, j, none⟩ = false) ∧ ∀ k, k < n → w.cell? ⟨g, k * 3, none⟩ = some (.bool false) ∧ w.cell? ⟨g, k * 3 + 1, none⟩ = some (.int .i64 0) ∧ w.cell? ⟨g, k * 3 + 2, none⟩ = some (.bool (decide (k < i ∧ k % 2 = 1)))
theorem PRow.made (w : World) (n : Nat) : PRow (w.alloc (.cells (madeCells #[.bool false, .int .i64 0, .bool false] (n * 3)) 45)) w.heap.size n 0 := by
 refine ⟨by simp, fun j => World.frozen?_alloc_new _ _ _ _, fun k hk => ⟨?_, ?_, ?_⟩⟩
 ·rw [cell_made _ _ _ _ (by omega), show (k * 3) % (#[(.bool false : Value), .int .i64 0, .bool false]).size = 0 by simp]; rfl
 ·rw [cell_made _ _ _ _ (by omega), show (k * 3 + 1) % (#[(.bool false : Value), .int .i64 0, .bool false]).size = 1 by simp]; rfl
 ·rw [cell_made _ _ _ _ (by omega), show (k * 3 + 2) % (#[(.bool false : Value), .int .i64 0, .bool false]).size = 2 by simp]; simp
theorem PRow.set_ {w : World} {g n i : Nat} (h : PRow w g n i) (_ : i < n) : PRow (w.setCell ⟨g, i * 3 + 2, none⟩ (.bool (decide (i % 2 = 1)))) g n (i + 1) := by
 refine ⟨by simpa [World.setCell] using h.1, fun j => by rw [World.frozen?_setCell]; exact h.2.1 j, fun k hk => ?_⟩
 obtain ⟨h1, h2, h3⟩ := h.2.2 k hk
 refine ⟨?_, ?_, ?_⟩
 ·rw [World.cell?_setCell_other _ _ _ _ (by intro e; injection e with _ e _; omega)]; exact h1
 ·rw [World.cell?_setCell_other _ _ _ _ (by intro e; injection e with _ e _; omega)]; exact h2
 ·by_cases e : i = k
  ·subst e
   rw [World.cell?_setCell_same _ _ _ h3]
   congr 2
   exact decide_eq_decide.2 ⟨fun h => ⟨by omega, h⟩, fun h => h.2⟩
  ·rw [World.cell?_setCell_other _ _ _ _ (by intro e'; injection e' with _ e' _; omega), h3]
   congr 2
   exact decide_eq_decide.2 ⟨fun h => ⟨by omega, h.2⟩, fun h => ⟨by omega, h.2⟩⟩
theorem PRow.arr {w : World} {g n : Nat} (h : PRow w g n n) (hn : n ≤ 1000) : ArrAt 3 PcR w (.slice (some ⟨g, 0, none⟩) n n) (zig n) := by
 have hz : (zig n).length = n := by simp [zig]
 refine ⟨_, n, by rw [hz], by rw [hz]; exact Nat.le_refl _, by rw [hz]; omega, fun _ => ⟨g, 0, rfl, h.1, fun k x hk => ?_⟩⟩
 have hkn : k < n := by have := (List.getElem?_eq_some_iff.1 hk).1; omega
 have hx : x = ⟨false, 0, decide (k % 2 = 1)⟩ := by
  unfold zig at hk
  rw [List.getElem?_map, List.getElem?_range hkn] at hk
  simpa using hk.symm
 subst hx
 obtain ⟨h1, h2, h3⟩ := h.2.2 k hkn
 refine ⟨[.bool false, .int .i64 0, .bool (decide (k % 2 = 1))], rfl, fun j u hj => ?_, rfl⟩
 rw [Nat.zero_add]
 match j, hj with
 | 0, hj => simp only [List.getElem?_cons_zero, Option.some.injEq] at hj; subst hj; exact h1
 | 1, hj => simp only [List.getElem?_cons_succ, List.getElem?_cons_zero, Option.some.injEq] at hj; subst hj; exact h2
 | 2, hj =>
  simp only [List.getElem?_cons_succ, List.getElem?_cons_zero, Option.some.injEq] at hj
  subst hj
  rw [h3]
  congr 2
  exact decide_eq_decide.2 ⟨fun h => h.2, fun h => ⟨hkn, h⟩⟩
 | j + 3, hj => simp at hj
def wantC : Bool → Int
 | true => 3
 | false => 1
def ChW (w : World) (V : Value) (n : Nat) : List Value → List PcI → Prop := fun cs c => ChR w cs c ∨ (cs = [V] ∧ c = zig n)
theorem one_ChW (w0 : World) (A : Option Addr) (m c n : Nat) : ∀ (_ : World) (ds : List Value) (x : List PcI), ChW w0 (.slice A m c) n ds x → ∀ u ∈ ds, u.oneCell' = true := by
 rintro w ds x (⟨v, rfl, h⟩ | ⟨rfl, -⟩) y hy
 ·obtain ⟨A, c, rfl, -, -⟩ := h.form
  simp only [List.mem_singleton] at hy
  subst hy; rfl
 ·simp only [List.mem_singleton] at hy
  subst hy; rfl
theorem head_few {s : SkI} (h : headS s = true) : s.points.length ≤ 10 ∧ s.circles.length ≤ 10 ∧ s.segs.length ≤ 10 ∧ s.arcs.length ≤ 10 ∧ s.chains.length ≤ 10 ∧ s.cons.length ≤ 20 := by
 unfold headS at h
 simp only [Bool.and_eq_true, decide_eq_true_eq] at h
 obtain ⟨⟨⟨⟨⟨h1, h2⟩, h3⟩, h4⟩, h5⟩, h6⟩ := h
 exact ⟨h1, h2, h3, h4, h5, h6⟩
theorem arr_head {α : Type} {sz : Nat} {R : World → List Value → α → Prop} {w : World} {A : Option Addr} {n c : Nat} {x : α} {l : List α} (h : ArrAt sz R w (.slice A n c) (x :: l)) :
  ∃ b off cs, A = some ⟨b, off, none⟩ ∧ b < w.heap.size ∧ cs.length = sz ∧ (∀ j u, cs[j]? = some u → w.cell? ⟨b, off + j, none⟩ = some u) ∧ R w cs x := by
 obtain ⟨A', c', hv, -, -, hc⟩ := h
 obtain ⟨rfl, rfl, rfl⟩ : A = A' ∧ n = (x :: l).length ∧ c = c' := by injection hv with h1 h2 h3; exact ⟨h1, h2, h3⟩
 obtain ⟨b, off, rfl, hb, hel⟩ := hc (by simp)
 obtain ⟨cs, h1, h2, h3⟩ := hel 0 x rfl
 exact ⟨b, off, cs, rfl, hb, h1, fun j u hj => by have := h2 j u hj; rwa [Nat.zero_mul, Nat.zero_add] at this, h3⟩
set_option maxRecDepth 100000 in
set_option maxHeartbeats 6400000 in
theorem law_Large {K : Nat} {s : SkI} {v0 v1 v2 v3 v4 v5 : Value} {w : World} (h : SkAt K w v0 v1 v2 v3 v4 v5 s) (kind more : Nat) (_ : kind < 256) (_ : more < 256) (hgk : GLk w) (hgo : GLo w) :
  Calls Tryz.prog 4 #[.agg #[v0, v1, v2, v3, v4, v5], .int .u8 (kind : Int), .int .u8 (more : Int)] w fun e w' => e = .returned (.bool true) ∧ Ext w w' := by
 have mixed : Tryz.prog.follows .mixedOrders = true := by kernel_rfl
 obtain ⟨A0, c0, rfl, -, -⟩ := h.points.form
 obtain ⟨A1, c1, rfl, -, -⟩ := h.circles.form
 obtain ⟨A2, c2, rfl, -, -⟩ := h.segs.form
 obtain ⟨A3, c3, rfl, -, -⟩ := h.arcs.form
 obtain ⟨A4, c4, rfl, -, -⟩ := h.chains.form
 obtain ⟨A5, c5, rfl, -, -⟩ := h.cons.form
 have HBX := Lib.hid (BoxS.new w [.slice A0 s.points.length c0, .slice A1 s.circles.length c1, .slice A2 s.segs.length c2, .slice A3 s.arcs.length c3, .slice A4 s.chains.length c4, .slice A5 s.cons.length c5] 29)
 have HA := Lib.hid law_awake
 have HV := Lib.hid (fun w1 (hx : Ext w w1) => law_valid (h.ext hx))
 have HG : Hid (vld K s = true → GoodS s ∧ errS 61 s = 0) := fun hv => ⟨vld_good hv, by unfold vld at hv; rw [Bool.and_eq_true] at hv; exact of_decide_eq_true hv.2⟩
 have HSK := Lib.hid (fun (hg : GoodS s) => h.lower hg.small)
 have HGK := Lib.hid (And.intro hgk hgo)
 clear h hgk hgo
 generalize vld K s = vd at *
 obtain ⟨y0, y1, y2, y3, y4, y5⟩ := HBX.out.1.six
 go_enter Tryz.func4, Tryz.ntmps4
 go_wp2_with fail
 refine (HA.out _).mono ?_
 rintro e w1 ⟨rfl, hx1⟩
 have hE1 : Ext w w1 := Ext.trans (Ext.alloc _ _) hx1
 clear y0 y1 y2 y3 y4 y5
 obtain ⟨y0, y1, y2, y3, y4, y5⟩ := (HBX.out.ext hx1).1.six
 have hlt := (HBX.out.ext hx1).1.1
 go_wp2_with fail
 refine (HV.out _ hE1).mono ?_
 rintro e w2 ⟨rfl, hx2⟩
 have hB2 := Ext.trans hx1 hx2
 have hE2 := Ext.trans hE1 hx2
 clear y0 y1 y2 y3 y4 y5 hlt
 obtain ⟨y0, y1, y2, y3, y4, y5⟩ := (HBX.out.ext hB2).1.six
 have hlt := (HBX.out.ext hB2).1.1
 cases vd with
 | false =>
  go_wp2_with fail
  refine (HA.out _).mono ?_
  rintro e w3 ⟨rfl, hx3⟩
  go_wp2_with fail
  go_ret
  exact ⟨rfl, Ext.trans hE2 hx3⟩
 | true =>
  by_cases hp2 : s.points.length < 2
  ·go_wp2_with fail
   refine (HA.out _).mono ?_
   rintro e w3 ⟨rfl, hx3⟩
   go_wp2_with fail
   go_ret
   exact ⟨rfl, Ext.trans hE2 hx3⟩
  by_cases hs0 : s.segs.length = 0
  ·go_wp2_with fail
   refine (HA.out _).mono ?_
   rintro e w3 ⟨rfl, hx3⟩
   go_wp2_with fail
   go_ret
   exact ⟨rfl, Ext.trans hE2 hx3⟩
  obtain ⟨hgood, herr⟩ := HG.out rfl
  obtain ⟨f1, -, f3, -, f5, -⟩ := head_few hgood.few
  have HSK0 := Lib.hid (HSK.out hgood)
  have HB2 := Lib.hid (HBX.out.ext hB2)
  have HER := Lib.hid herr
  have HSM := Lib.hid hgood.small
  have hgood' := hgood
  clear HA HV HG HSK hx1 hx2 hB2 hE1 HBX herr hgood hgood'
  obtain ⟨n, hn⟩ : ∃ n : Nat, n = 199 + more % 3 := ⟨_, rfl⟩
  have hn1 : 199 ≤ n := by omega
  have hn2 : n ≤ 201 := by omega
  have e1 : (199 + (more : Int) % 3) = (n : Int) := by omega
  obtain ⟨b2, hb2⟩ : ∃ b : Bool, ((more : Int) % 3 == 2) = b := ⟨_, rfl⟩
  have HW : Hid ((if 200 < n then (3 : Int) else 0) = wantB b2) := by
   show _ = _
   by_cases h2 : more % 3 = 2
   ·have hb : b2 = true := by rw [← hb2, beq_iff_eq]; omega
    rw [if_pos (by omega), hb]; rfl
   ·have hb : b2 = false := by rw [← hb2, beq_eq_false_iff_ne]; omega
    rw [if_neg (by omega), hb]; rfl
  clear hn
  have hc1 : decide ((s.points.length : Int) < 2) = false := decide_eq_false (by omega)
  have hc2 : ((s.segs.length : Int) == 0) = false := by rw [beq_eq_false_iff_ne]; omega
  have hc3 : ¬ ((s.points.length : Int) < 2) := by omega
  have hc4 : 2 ≤ s.points.length := by omega
  have hc5 : 1 ≤ s.segs.length := by omega
  obtain ⟨q, hq⟩ : ∃ q : Nat, q = kind % 4 := ⟨_, rfl⟩
  have hq4 : q < 4 := by omega
  clear hp2 hs0
  have e2 : ((kind : Int) % 4) = (q : Int) := by omega
  clear hq
  match q, hq4 with
  | 0, _ =>
   obtain ⟨p0, pl, hpe⟩ : ∃ p l, s.points = p :: l := by
    cases hp : s.points with
    | nil => rw [hp] at hc4; simp at hc4
    | cons p l => exact ⟨p, l, rfl⟩
   have HPE := Lib.hid hpe
   have hpts := HSK0.out.points
   have HX2 : Hid (ArrAt 8 (PtW w) w2 (.slice A0 s.points.length c0) s.points) := (hpts.mono (S := PtW w) fun _ _ _ h => h).ext (PtW.stable w) hE2
   rw [hpe] at hpts
   obtain ⟨b0, off0, cs0, rfl, hb0, -⟩ := arr_head hpts
   clear hpe hpts
   obtain ⟨i0, hi, hz0, hz1, hz2⟩ := info_parts inf_Point
   cases b2
   all_goals
    go_wp2_with fail
    clear e1 e2 hb2
    go_loopg [48] (n - s.points.length) (fun gk x wr => ∃ (b off k c m : Nat), Hid (k = s.points.length + m ∧ k + gk = n) ∧ b ≠ w.heap.size ∧ Hid (BoxS wr w.heap.size [.slice (some ⟨b, off, none⟩) k c, .slice A1 s.circles.length c1, .slice A2 s.segs.length c2, .slice A3 s.arcs.length c3, .slice A4 s.chains.length c4, .slice A5 s.cons.length c5]) ∧ Hid (ArrAt 8 (PtW w) wr (.slice (some ⟨b, off, none⟩) k c) (s.points ++ List.replicate m p0)) ∧ Ext w wr)
    case atStart => exact ⟨b0, off0, s.points.length, c0, 0, ⟨rfl, by omega⟩, by omega, HB2, by simpa using HX2, hE2⟩
    case round =>
     obtain ⟨b, off, k, c, m, HKM, hbB, HB, HX, hEr⟩ := hrel
     obtain ⟨y0, y1, y2, y3, y4, y5⟩ := HB.out.1.six
     have hlt := HB.out.1.1
     by_cases hg0 : gk = 0
     ·have hkm := HKM.out
      have hkn : ¬ ((k : Int) < (n : Int)) := by omega
      have hmem : p0 ∈ s.points := by rw [HPE.out]; simp
      have her := want_of (er := errS 61 { s with points := s.points ++ List.replicate m p0 }) (n := n) (by have h := big_points (K := 61) (m := m) HER.out hmem; rw [show s.points.length + m = n by omega] at h; exact h) HW.out
      have HVV := Lib.hid (fun w1 (hx : Ext wr w1) => sketch_Valid_any decC (K := 61) (by omega) (s := { s with points := s.points ++ List.replicate m p0 })
       (SkAt.ext ⟨HX.out.mono fun cs x _ h => PtR.stable _ _ _ _ hEr h, HSK0.out.circles.ext RdR.stable hEr, HSK0.out.segs.ext SgR.stable hEr, HSK0.out.arcs.ext ArR.stable hEr, HSK0.out.chains.ext ChR.stable hEr, HSK0.out.cons.ext (ConR.stable 61) hEr⟩ hx)
       (small_points HSM.out hmem) (HGK.out.1.ext (hEr.trans hx)) (HGK.out.2.ext (hEr.trans hx)))
      generalize errS 61 { s with points := s.points ++ List.replicate m p0 } = er at *
      first
       | (obtain rfl : er = 0 := her)
       | (obtain rfl : er = 3 := her)
      clear hkm hmem
      go_wp2_with fail
      refine (HVV.out _ (Ext.refl _)).mono ?_
      rintro e w5 ⟨rfl, hx5⟩
      go_wp2_with fail
      go_ret
      exact ⟨rfl, hEr.trans hx5⟩
     ·have hkn : (k : Int) < (n : Int) := by have := HKM.out; omega
      have hxs := HX.out
      rw [HPE.out, List.cons_append] at hxs
      obtain ⟨b', off', cs, hA, hb, hcl, hcc, u1, u2, u3, u4, rfl, hu1, hu2, hu3, hu4⟩ := arr_head hxs
      injection hA with hA
      injection hA with hA1 hA2 _
      subst hA1 hA2
      obtain ⟨B1, k1, rfl, -, -⟩ := hu1.form
      obtain ⟨B2, k2, rfl, -, -⟩ := hu2.form
      obtain ⟨B3, k3, rfl, -, -⟩ := hu3.form
      obtain ⟨B4, k4, rfl, -, -⟩ := hu4.form
      have HP0 : Hid (PtR w [.bool p0.x.num.neg, .slice B1 p0.x.num.mag.length k1, .bool p0.x.den.neg, .slice B2 p0.x.den.mag.length k2, .bool p0.y.num.neg, .slice B3 p0.y.num.mag.length k3, .bool p0.y.den.neg, .slice B4 p0.y.den.mag.length k4] p0) := ⟨_, _, _, _, rfl, hu1, hu2, hu3, hu4⟩
      have HPC := Lib.hid (fun w' (hE : Ext wr w') => (⟨(hE.cell (p := ⟨b, off, none⟩) hb).trans (hcc 0 _ rfl), (hE.cell (p := ⟨b, off + 1, none⟩) hb).trans (hcc 1 _ rfl), (hE.cell (p := ⟨b, off + 2, none⟩) hb).trans (hcc 2 _ rfl), (hE.cell (p := ⟨b, off + 3, none⟩) hb).trans (hcc 3 _ rfl), (hE.cell (p := ⟨b, off + 4, none⟩) hb).trans (hcc 4 _ rfl), (hE.cell (p := ⟨b, off + 5, none⟩) hb).trans (hcc 5 _ rfl), (hE.cell (p := ⟨b, off + 6, none⟩) hb).trans (hcc 6 _ rfl), (hE.cell (p := ⟨b, off + 7, none⟩) hb).trans (hcc 7 _ rfl)⟩ : _ ∧ _ ∧ _ ∧ _ ∧ _ ∧ _ ∧ _ ∧ _))
      clear hxs hcc hcl hu1 hu2 hu3 hu4
      have hkc : k ≤ c := HX.out.len.2.1
      have hk0 : 0 < k := by have := HKM.out; omega
      have hk1 : k ≤ 300 := by have := HKM.out; omega
      generalize p0.x.num.mag.length = n1 at *
      generalize p0.x.den.mag.length = n2 at *
      generalize p0.y.num.mag.length = n3 at *
      generalize p0.y.den.mag.length = n4 at *
      go_upto_region 1 with fail
      clear y0 y1 y2 y3 y4 y5 hlt
      refine wp_region_ext 16 126 (fun op v w' => match op with
       | 0 => v = .pointer (some ⟨w.heap.size, 0, none⟩)
       | 1 => v = .slice (some ⟨b, off, none⟩) k c
       | 2 => v = .pointer (some ⟨w.heap.size, 0, none⟩)
       | 3 => v = .slice (some ⟨b, off, none⟩) k c
       | 4 => v = .int .i64 (k : Int)
       | 5 => v = .pointer (some ⟨w.heap.size, 0, none⟩)
       | 6 => v = .slice (some ⟨b, off, none⟩) k c
       | 7 => v = .int .i64 (k : Int)
       | 8 => v = .slice (some ⟨b, off, none⟩) k k
       | 9 => v = .pointer (some ⟨w.heap.size, 0, none⟩)
       | 10 => v = .slice (some ⟨b, off, none⟩) k c
       | 11 => v = .pointer (some ⟨b, off, none⟩)
       | 12 => v = .agg #[.bool p0.x.num.neg, .slice B1 n1 k1, .bool p0.x.den.neg, .slice B2 n2 k2, .bool p0.y.num.neg, .slice B3 n3 k3, .bool p0.y.den.neg, .slice B4 n4 k4]
       | 13 => ∃ g, v = .slice (some ⟨g, 0, none⟩) 1 1 ∧ CellsAt w' g [.bool p0.x.num.neg, .slice B1 n1 k1, .bool p0.x.den.neg, .slice B2 n2 k2, .bool p0.y.num.neg, .slice B3 n3 k3, .bool p0.y.den.neg, .slice B4 n4 k4]
       | 14 => ∃ g c', v = .slice (some ⟨g, 0, none⟩) (k + 1) c' ∧ w.heap.size < g ∧ ArrAt 8 (PtW w) w' (.slice (some ⟨g, 0, none⟩) (k + 1) c') (s.points ++ List.replicate m p0 ++ [p0])
       | 15 => v = .pointer (some ⟨w.heap.size, 0, none⟩)
       | _ => False)
       ((fun _ _ _ _ => True)) mixed (by kernel_rfl) rfl ?_ (AllLt.all ?_) ?_
      ·intro i v wa wb hx
       match i with
       | 13 => exact fun ⟨g, h, h'⟩ => ⟨g, h, h'.ext hx⟩
       | 14 => exact fun ⟨g, c', h, h', h''⟩ => ⟨g, c', h, h', h''.ext (PtW.stable w) hx⟩
       | 0 | 1 | 2 | 3 | 4 | 5 | 6 | 7 | 8 | 9 | 10 | 11 | 12 | 15 => exact id
       | _ + 16 => exact id
      ·refine ⟨⟨⟨⟨⟨⟨⟨⟨⟨⟨⟨⟨⟨⟨⟨⟨trivial, ?_⟩, ?_⟩, ?_⟩, ?_⟩, ?_⟩, ?_⟩, ?_⟩, ?_⟩, ?_⟩, ?_⟩, ?_⟩, ?_⟩, ?_⟩, ?_⟩, ?_⟩, ?_⟩
       ·refine PreOp.of _ _ rfl rfl rfl ?_
        intro vs w' hx hnd
        have hE : Ext wr w' := Ext.trans (Ext.drew _) hx
        clear hnd
        simp only [fill]
        obtain ⟨y0, y1, y2, y3, y4, y5⟩ := (HB.out.ext hE).1.six
        have hlt := (HB.out.ext hE).1.1
        go_wp2_with fail
        exact ⟨rfl, Ext.refl _, rfl, fun _ _ _ _ => trivial⟩
       ·refine PreOp.of _ _ rfl rfl rfl ?_
        intro vs w' hx hnd
        have hE : Ext wr w' := Ext.trans (Ext.drew _) hx
        have e0 : vs 0 = .pointer (some ⟨w.heap.size, 0, none⟩) := hnd 0 (by kernel_rfl) (by omega)
        clear hnd
        simp only [fill, dstOf, List.getElem?_toArray, List.getElem?_cons_zero, Option.bind_some, Act.put, List.setIfInBounds_toArray, List.set_cons_zero, List.set_cons_succ]
        rw [e0]
        obtain ⟨y0, y1, y2, y3, y4, y5⟩ := (HB.out.ext hE).1.six
        have hlt := (HB.out.ext hE).1.1
        go_wp2_with fail
        exact ⟨rfl, Ext.refl _, rfl, fun _ _ _ _ => trivial⟩
       ·refine PreOp.of _ _ rfl rfl rfl ?_
        intro vs w' hx hnd
        have hE : Ext wr w' := Ext.trans (Ext.drew _) hx
        clear hnd
        simp only [fill, dstOf, List.getElem?_toArray, List.getElem?_cons_zero, List.getElem?_cons_succ, Option.bind_some, Act.put, List.setIfInBounds_toArray, List.set_cons_zero, List.set_cons_succ]
        obtain ⟨y0, y1, y2, y3, y4, y5⟩ := (HB.out.ext hE).1.six
        have hlt := (HB.out.ext hE).1.1
        go_wp2_with fail
        exact ⟨rfl, Ext.refl _, rfl, fun _ _ _ _ => trivial⟩
       ·refine PreOp.of _ _ rfl rfl rfl ?_
        intro vs w' hx hnd
        have hE : Ext wr w' := Ext.trans (Ext.drew _) hx
        have e2 : vs 2 = .pointer (some ⟨w.heap.size, 0, none⟩) := hnd 2 (by kernel_rfl) (by omega)
        clear hnd
        simp only [fill, dstOf, List.getElem?_toArray, List.getElem?_cons_zero, List.getElem?_cons_succ, Option.bind_some, Act.put, List.setIfInBounds_toArray, List.set_cons_zero, List.set_cons_succ]
        rw [e2]
        obtain ⟨y0, y1, y2, y3, y4, y5⟩ := (HB.out.ext hE).1.six
        have hlt := (HB.out.ext hE).1.1
        go_wp2_with fail
        exact ⟨rfl, Ext.refl _, rfl, fun _ _ _ _ => trivial⟩
       ·refine PreOp.of _ _ rfl rfl rfl ?_
        intro vs w' hx hnd
        have hE : Ext wr w' := Ext.trans (Ext.drew _) hx
        have e3 : vs 3 = .slice (some ⟨b, off, none⟩) k c := hnd 3 (by kernel_rfl) (by omega)
        clear hnd
        simp only [fill, dstOf, List.getElem?_toArray, List.getElem?_cons_zero, List.getElem?_cons_succ, Option.bind_some, Act.put, List.setIfInBounds_toArray, List.set_cons_zero, List.set_cons_succ]
        rw [e3]
        obtain ⟨y0, y1, y2, y3, y4, y5⟩ := (HB.out.ext hE).1.six
        have hlt := (HB.out.ext hE).1.1
        go_wp2_with fail
        exact ⟨rfl, Ext.refl _, rfl, fun _ _ _ _ => trivial⟩
       ·refine PreOp.of _ _ rfl rfl rfl ?_
        intro vs w' hx hnd
        have hE : Ext wr w' := Ext.trans (Ext.drew _) hx
        clear hnd
        simp only [fill, dstOf, List.getElem?_toArray, List.getElem?_cons_zero, List.getElem?_cons_succ, Option.bind_some, Act.put, List.setIfInBounds_toArray, List.set_cons_zero, List.set_cons_succ]
        obtain ⟨y0, y1, y2, y3, y4, y5⟩ := (HB.out.ext hE).1.six
        have hlt := (HB.out.ext hE).1.1
        go_wp2_with fail
        exact ⟨rfl, Ext.refl _, rfl, fun _ _ _ _ => trivial⟩
       ·refine PreOp.of _ _ rfl rfl rfl ?_
        intro vs w' hx hnd
        have hE : Ext wr w' := Ext.trans (Ext.drew _) hx
        have e5 : vs 5 = .pointer (some ⟨w.heap.size, 0, none⟩) := hnd 5 (by kernel_rfl) (by omega)
        clear hnd
        simp only [fill, dstOf, List.getElem?_toArray, List.getElem?_cons_zero, List.getElem?_cons_succ, Option.bind_some, Act.put, List.setIfInBounds_toArray, List.set_cons_zero, List.set_cons_succ]
        rw [e5]
        obtain ⟨y0, y1, y2, y3, y4, y5⟩ := (HB.out.ext hE).1.six
        have hlt := (HB.out.ext hE).1.1
        go_wp2_with fail
        exact ⟨rfl, Ext.refl _, rfl, fun _ _ _ _ => trivial⟩
       ·refine PreOp.of _ _ rfl rfl rfl ?_
        intro vs w' hx hnd
        have hE : Ext wr w' := Ext.trans (Ext.drew _) hx
        have e6 : vs 6 = .slice (some ⟨b, off, none⟩) k c := hnd 6 (by kernel_rfl) (by omega)
        clear hnd
        simp only [fill, dstOf, List.getElem?_toArray, List.getElem?_cons_zero, List.getElem?_cons_succ, Option.bind_some, Act.put, List.setIfInBounds_toArray, List.set_cons_zero, List.set_cons_succ]
        rw [e6]
        obtain ⟨y0, y1, y2, y3, y4, y5⟩ := (HB.out.ext hE).1.six
        have hlt := (HB.out.ext hE).1.1
        go_wp2_with fail
        exact ⟨rfl, Ext.refl _, rfl, fun _ _ _ _ => trivial⟩
       ·refine PreOp.of _ _ rfl rfl rfl ?_
        intro vs w' hx hnd
        have hE : Ext wr w' := Ext.trans (Ext.drew _) hx
        have e1 : vs 1 = .slice (some ⟨b, off, none⟩) k c := hnd 1 (by kernel_rfl) (by omega)
        have e4 : vs 4 = .int .i64 (k : Int) := hnd 4 (by kernel_rfl) (by omega)
        have e7 : vs 7 = .int .i64 (k : Int) := hnd 7 (by kernel_rfl) (by omega)
        clear hnd
        simp only [fill, dstOf, List.getElem?_toArray, List.getElem?_cons_zero, List.getElem?_cons_succ, Option.bind_some, Act.put, List.setIfInBounds_toArray, List.set_cons_zero, List.set_cons_succ]
        rw [e1, e4, e7]
        obtain ⟨y0, y1, y2, y3, y4, y5⟩ := (HB.out.ext hE).1.six
        have hlt := (HB.out.ext hE).1.1
        go_wp2_with fail
        exact ⟨rfl, Ext.refl _, rfl, fun _ _ _ _ => trivial⟩
       ·refine PreOp.of _ _ rfl rfl rfl ?_
        intro vs w' hx hnd
        have hE : Ext wr w' := Ext.trans (Ext.drew _) hx
        clear hnd
        simp only [fill, dstOf, List.getElem?_toArray, List.getElem?_cons_zero, List.getElem?_cons_succ, Option.bind_some, Act.put, List.setIfInBounds_toArray, List.set_cons_zero, List.set_cons_succ]
        obtain ⟨y0, y1, y2, y3, y4, y5⟩ := (HB.out.ext hE).1.six
        have hlt := (HB.out.ext hE).1.1
        go_wp2_with fail
        exact ⟨rfl, Ext.refl _, rfl, fun _ _ _ _ => trivial⟩
       ·refine PreOp.of _ _ rfl rfl rfl ?_
        intro vs w' hx hnd
        have hE : Ext wr w' := Ext.trans (Ext.drew _) hx
        have e9 : vs 9 = .pointer (some ⟨w.heap.size, 0, none⟩) := hnd 9 (by kernel_rfl) (by omega)
        clear hnd
        simp only [fill, dstOf, List.getElem?_toArray, List.getElem?_cons_zero, List.getElem?_cons_succ, Option.bind_some, Act.put, List.setIfInBounds_toArray, List.set_cons_zero, List.set_cons_succ]
        rw [e9]
        obtain ⟨y0, y1, y2, y3, y4, y5⟩ := (HB.out.ext hE).1.six
        have hlt := (HB.out.ext hE).1.1
        go_wp2_with fail
        exact ⟨rfl, Ext.refl _, rfl, fun _ _ _ _ => trivial⟩
       ·refine PreOp.of _ _ rfl rfl rfl ?_
        intro vs w' hx hnd
        have hE : Ext wr w' := Ext.trans (Ext.drew _) hx
        have e10 : vs 10 = .slice (some ⟨b, off, none⟩) k c := hnd 10 (by kernel_rfl) (by omega)
        clear hnd
        simp only [fill, dstOf, List.getElem?_toArray, List.getElem?_cons_zero, List.getElem?_cons_succ, Option.bind_some, Act.put, List.setIfInBounds_toArray, List.set_cons_zero, List.set_cons_succ]
        rw [e10]
        obtain ⟨y0, y1, y2, y3, y4, y5⟩ := (HB.out.ext hE).1.six
        have hlt := (HB.out.ext hE).1.1
        go_wp2_with fail
        exact ⟨rfl, Ext.refl _, rfl, fun _ _ _ _ => trivial⟩
       ·refine PreOp.of _ _ rfl rfl rfl ?_
        intro vs w' hx hnd
        have hE : Ext wr w' := Ext.trans (Ext.drew _) hx
        have e11 : vs 11 = .pointer (some ⟨b, off, none⟩) := hnd 11 (by kernel_rfl) (by omega)
        clear hnd
        simp only [fill, dstOf, List.getElem?_toArray, List.getElem?_cons_zero, List.getElem?_cons_succ, Option.bind_some, Act.put, List.setIfInBounds_toArray, List.set_cons_zero, List.set_cons_succ]
        rw [e11]
        obtain ⟨y0, y1, y2, y3, y4, y5⟩ := (HB.out.ext hE).1.six
        have hlt := (HB.out.ext hE).1.1
        obtain ⟨q0, q1, q2, q3, q4, q5, q6, q7⟩ := HPC.out w' hE
        have hbl : b < w'.heap.size := Nat.lt_of_lt_of_le hb hE.size
        go_wp2_with fail
        exact ⟨rfl, Ext.refl _, rfl, fun _ _ _ _ => trivial⟩
       ·refine PreOp.of _ _ rfl rfl rfl ?_
        intro vs w' hx hnd
        have hE : Ext wr w' := Ext.trans (Ext.drew _) hx
        have e12 : vs 12 = .agg #[.bool p0.x.num.neg, .slice B1 n1 k1, .bool p0.x.den.neg, .slice B2 n2 k2, .bool p0.y.num.neg, .slice B3 n3 k3, .bool p0.y.den.neg, .slice B4 n4 k4] := hnd 12 (by kernel_rfl) (by omega)
        clear hnd
        simp only [fill, dstOf, List.getElem?_toArray, List.getElem?_cons_zero, List.getElem?_cons_succ, Option.bind_some, Act.put, List.setIfInBounds_toArray, List.set_cons_zero, List.set_cons_succ]
        rw [e12]
        obtain ⟨y0, y1, y2, y3, y4, y5⟩ := (HB.out.ext hE).1.six
        have hlt := (HB.out.ext hE).1.1
        go_wp2_with fail
        exact ⟨rfl, Ext.alloc _ _, ⟨_, rfl, CellsAt.new _ [.bool p0.x.num.neg, .slice B1 n1 k1, .bool p0.x.den.neg, .slice B2 n2 k2, .bool p0.y.num.neg, .slice B3 n3 k3, .bool p0.y.den.neg, .slice B4 n4 k4] _⟩, fun _ _ _ _ => trivial⟩
       ·refine PreOp.of _ _ rfl rfl rfl ?_
        intro vs w' hx hnd
        have hE : Ext wr w' := Ext.trans (Ext.drew _) hx
        have e8 : vs 8 = .slice (some ⟨b, off, none⟩) k k := hnd 8 (by kernel_rfl) (by omega)
        obtain ⟨g, e13, hg⟩ := hnd 13 (by kernel_rfl) (by omega)
        clear hnd
        simp only [fill, dstOf, List.getElem?_toArray, List.getElem?_cons_zero, List.getElem?_cons_succ, Option.bind_some, Act.put, List.setIfInBounds_toArray, List.set_cons_zero, List.set_cons_succ]
        rw [e8, e13]
        obtain ⟨y0, y1, y2, y3, y4, y5⟩ := (HB.out.ext hE).1.six
        have hlt := (HB.out.ext hE).1.1
        have hfull : ArrAt 8 (PtW w) w' (.slice (some ⟨b, off, none⟩) k k) (s.points ++ List.replicate m p0) := (HX.out.ext (PtW.stable w) hE).full
        have hone : ArrAt 8 (PtW w) w' (.slice (some ⟨g, 0, none⟩) 1 1) [p0] := arr_one hg.1 rfl (fun j u hj => hg.2 j u hj) HP0.out (Nat.le_refl _)
        refine wpList_append_full w' rfl _ _ 22 rfl 40 i0 (.agg #[.bool false, .slice none 0 0, .bool false, .slice none 0 0, .bool false, .slice none 0 0, .bool false, .slice none 0 0]) 8 128 Tryz.underlying22 hi hz0 hz1 hz2 rfl (by decide) (PtW.stable w) rfl hfull rfl (by decide) hone (one_PtW w) (by omega) (by omega) ?_
        intro g4 c4 w4 hg4 h1 h2
        go_wp2_with fail
        exact ⟨rfl, h2, ⟨g4, c4, rfl, by have := hE.size; have := HB.out.1.1; omega, h1⟩, fun _ _ _ _ => trivial⟩
       ·refine PreOp.of _ _ rfl rfl rfl ?_
        intro vs w' hx hnd
        have hE : Ext wr w' := Ext.trans (Ext.drew _) hx
        clear hnd
        simp only [fill, dstOf, List.getElem?_toArray, List.getElem?_cons_zero, List.getElem?_cons_succ, Option.bind_some, Act.put, List.setIfInBounds_toArray, List.set_cons_zero, List.set_cons_succ]
        obtain ⟨y0, y1, y2, y3, y4, y5⟩ := (HB.out.ext hE).1.six
        have hlt := (HB.out.ext hE).1.1
        go_wp2_with fail
        exact ⟨rfl, Ext.refl _, rfl, fun _ _ _ _ => trivial⟩
      ·intro vs w' hx hP hD
       have hE : Ext wr w' := Ext.trans (Ext.drew _) hx
       obtain ⟨g4, c4, e14, hg4, h14⟩ := hP 14 (by omega)
       have e15 : vs 15 = .pointer (some ⟨w.heap.size, 0, none⟩) := hP 15 (by omega)
       clear hP hD
       simp only [fill, dstOf, List.getElem?_toArray, List.getElem?_cons_zero, List.getElem?_cons_succ, Option.bind_some, Act.put, List.setIfInBounds_toArray, List.set_cons_zero, List.set_cons_succ]
       rw [e14, e15]
       show wpList _ _ _ (List.cons _ List.nil) _ _
       clear e14 e15 hx
       have HB4 := Lib.hid (HB.out.ext hE)
       have HX4 := Lib.hid h14
       have hf0 := HB4.out.2 0
       obtain ⟨y0, y1, y2, y3, y4, y5⟩ := HB4.out.1.six
       have hlt := HB4.out.1.1
       clear h14
       go_wp2_with fail
       go_roundg (gk - 1)
       case measure => have := HKM.out; omega
       case rel =>
        refine ⟨g4, 0, k + 1, c4, m + 1, ⟨by have := HKM.out; omega, by have := HKM.out; omega⟩, by omega, ?_, ?_, ?_⟩
        ·exact HB4.out.set_ (j := 0) (by simp) _
        ·have := arr_far HX4.out (p := ⟨w.heap.size, 0, none⟩) (by simp; omega) (.slice (some ⟨g4, 0, none⟩) (k + 1) c4)
         rwa [List.append_assoc, ← List.replicate_succ'] at this
        ·exact (hEr.trans hE).pset (by simp) _
  | 1, _ =>
   obtain ⟨p0, pl, hpe⟩ : ∃ p l, s.segs = p :: l := by
    cases hp : s.segs with
    | nil => rw [hp] at hc5; simp at hc5
    | cons p l => exact ⟨p, l, rfl⟩
   have HPE := Lib.hid hpe
   have hpts := HSK0.out.segs
   have HX2 : Hid (ArrAt 2 SgW w2 (.slice A2 s.segs.length c2) s.segs) := (hpts.mono (S := SgW) fun _ _ _ h => h).ext (SgW.stable) hE2
   rw [hpe] at hpts
   obtain ⟨b0, off0, cs0, rfl, hb0, -⟩ := arr_head hpts
   clear hpe hpts
   obtain ⟨i0, hi, hz0, hz1, hz2⟩ := info_parts inf_Segment
   cases b2
   all_goals
    go_wp2_with fail
    clear e1 e2 hb2
    go_loopg [71] (n - s.segs.length) (fun gk x wr => ∃ (b off k c m : Nat), Hid (k = s.segs.length + m ∧ k + gk = n) ∧ b ≠ w.heap.size ∧ Hid (BoxS wr w.heap.size [.slice A0 s.points.length c0, .slice A1 s.circles.length c1, .slice (some ⟨b, off, none⟩) k c, .slice A3 s.arcs.length c3, .slice A4 s.chains.length c4, .slice A5 s.cons.length c5]) ∧ Hid (ArrAt 2 SgW wr (.slice (some ⟨b, off, none⟩) k c) (s.segs ++ List.replicate m p0)) ∧ Ext w wr)
    case atStart => exact ⟨b0, off0, s.segs.length, c2, 0, ⟨rfl, by omega⟩, by omega, HB2, by simpa using HX2, hE2⟩
    case round =>
     obtain ⟨b, off, k, c, m, HKM, hbB, HB, HX, hEr⟩ := hrel
     obtain ⟨y0, y1, y2, y3, y4, y5⟩ := HB.out.1.six
     have hlt := HB.out.1.1
     by_cases hg0 : gk = 0
     ·have hkm := HKM.out
      have hkn : ¬ ((k : Int) < (n : Int)) := by omega
      have hmem : p0 ∈ s.segs := by rw [HPE.out]; simp
      have her := want_of (er := errS 61 { s with segs := s.segs ++ List.replicate m p0 }) (n := n) (by have h := big_segs (K := 61) (m := m) HER.out hmem; rw [show s.segs.length + m = n by omega] at h; exact h) HW.out
      have HVV := Lib.hid (fun w1 (hx : Ext wr w1) => sketch_Valid_any decC (K := 61) (by omega) (s := { s with segs := s.segs ++ List.replicate m p0 })
       (SkAt.ext ⟨HSK0.out.points.ext PtR.stable hEr, HSK0.out.circles.ext RdR.stable hEr, HX.out.mono fun cs x _ h => h, HSK0.out.arcs.ext ArR.stable hEr, HSK0.out.chains.ext ChR.stable hEr, HSK0.out.cons.ext (ConR.stable 61) hEr⟩ hx)
       ⟨HSM.out.points, HSM.out.circles, HSM.out.cons⟩ (HGK.out.1.ext (hEr.trans hx)) (HGK.out.2.ext (hEr.trans hx)))
      generalize errS 61 { s with segs := s.segs ++ List.replicate m p0 } = er at *
      first
       | (obtain rfl : er = 0 := her)
       | (obtain rfl : er = 3 := her)
      clear hkm hmem
      go_wp2_with fail
      refine (HVV.out _ (Ext.refl _)).mono ?_
      rintro e w5 ⟨rfl, hx5⟩
      go_wp2_with fail
      go_ret
      exact ⟨rfl, hEr.trans hx5⟩
     ·have hkn : (k : Int) < (n : Int) := by have := HKM.out; omega
      have hxs := HX.out
      rw [HPE.out, List.cons_append] at hxs
      obtain ⟨b', off', cs, hA, hb, hcl, hcc, hcs⟩ := arr_head hxs
      have hcs : cs = [.int .i64 p0.a, .int .i64 p0.b] := hcs
      subst hcs
      injection hA with hA
      injection hA with hA1 hA2 _
      subst hA1 hA2
      have HP0 : Hid (SgS [.int .i64 p0.a, .int .i64 p0.b] p0) := rfl
      have HPC := Lib.hid (fun w' (hE : Ext wr w') => (⟨(hE.cell (p := ⟨b, off, none⟩) hb).trans (hcc 0 _ rfl), (hE.cell (p := ⟨b, off + 1, none⟩) hb).trans (hcc 1 _ rfl)⟩ : _ ∧ _))
      clear hxs hcc hcl
      have hkc : k ≤ c := HX.out.len.2.1
      have hk0 : 0 < k := by have := HKM.out; omega
      have hk1 : k ≤ 300 := by have := HKM.out; omega
      go_upto_region 1 with fail
      clear y0 y1 y2 y3 y4 y5 hlt
      refine wp_region_ext 16 126 (fun op v w' => match op with
       | 0 => v = .pointer (some ⟨w.heap.size, 2, none⟩)
       | 1 => v = .slice (some ⟨b, off, none⟩) k c
       | 2 => v = .pointer (some ⟨w.heap.size, 2, none⟩)
       | 3 => v = .slice (some ⟨b, off, none⟩) k c
       | 4 => v = .int .i64 (k : Int)
       | 5 => v = .pointer (some ⟨w.heap.size, 2, none⟩)
       | 6 => v = .slice (some ⟨b, off, none⟩) k c
       | 7 => v = .int .i64 (k : Int)
       | 8 => v = .slice (some ⟨b, off, none⟩) k k
       | 9 => v = .pointer (some ⟨w.heap.size, 2, none⟩)
       | 10 => v = .slice (some ⟨b, off, none⟩) k c
       | 11 => v = .pointer (some ⟨b, off, none⟩)
       | 12 => v = .agg #[.int .i64 p0.a, .int .i64 p0.b]
       | 13 => ∃ g, v = .slice (some ⟨g, 0, none⟩) 1 1 ∧ CellsAt w' g [.int .i64 p0.a, .int .i64 p0.b]
       | 14 => ∃ g c', v = .slice (some ⟨g, 0, none⟩) (k + 1) c' ∧ w.heap.size < g ∧ ArrAt 2 (SgW) w' (.slice (some ⟨g, 0, none⟩) (k + 1) c') (s.segs ++ List.replicate m p0 ++ [p0])
       | 15 => v = .pointer (some ⟨w.heap.size, 2, none⟩)
       | _ => False)
       ((fun _ _ _ _ => True)) mixed (by kernel_rfl) rfl ?_ (AllLt.all ?_) ?_
      ·intro i v wa wb hx
       match i with
       | 13 => exact fun ⟨g, h, h'⟩ => ⟨g, h, h'.ext hx⟩
       | 14 => exact fun ⟨g, c', h, h', h''⟩ => ⟨g, c', h, h', h''.ext (SgW.stable) hx⟩
       | 0 | 1 | 2 | 3 | 4 | 5 | 6 | 7 | 8 | 9 | 10 | 11 | 12 | 15 => exact id
       | _ + 16 => exact id
      ·refine ⟨⟨⟨⟨⟨⟨⟨⟨⟨⟨⟨⟨⟨⟨⟨⟨trivial, ?_⟩, ?_⟩, ?_⟩, ?_⟩, ?_⟩, ?_⟩, ?_⟩, ?_⟩, ?_⟩, ?_⟩, ?_⟩, ?_⟩, ?_⟩, ?_⟩, ?_⟩, ?_⟩
       ·refine PreOp.of _ _ rfl rfl rfl ?_
        intro vs w' hx hnd
        have hE : Ext wr w' := Ext.trans (Ext.drew _) hx
        clear hnd
        simp only [fill]
        obtain ⟨y0, y1, y2, y3, y4, y5⟩ := (HB.out.ext hE).1.six
        have hlt := (HB.out.ext hE).1.1
        go_wp2_with fail
        exact ⟨rfl, Ext.refl _, rfl, fun _ _ _ _ => trivial⟩
       ·refine PreOp.of _ _ rfl rfl rfl ?_
        intro vs w' hx hnd
        have hE : Ext wr w' := Ext.trans (Ext.drew _) hx
        have e0 : vs 0 = .pointer (some ⟨w.heap.size, 2, none⟩) := hnd 0 (by kernel_rfl) (by omega)
        clear hnd
        simp only [fill, dstOf, List.getElem?_toArray, List.getElem?_cons_zero, Option.bind_some, Act.put, List.setIfInBounds_toArray, List.set_cons_zero, List.set_cons_succ]
        rw [e0]
        obtain ⟨y0, y1, y2, y3, y4, y5⟩ := (HB.out.ext hE).1.six
        have hlt := (HB.out.ext hE).1.1
        go_wp2_with fail
        exact ⟨rfl, Ext.refl _, rfl, fun _ _ _ _ => trivial⟩
       ·refine PreOp.of _ _ rfl rfl rfl ?_
        intro vs w' hx hnd
        have hE : Ext wr w' := Ext.trans (Ext.drew _) hx
        clear hnd
        simp only [fill, dstOf, List.getElem?_toArray, List.getElem?_cons_zero, List.getElem?_cons_succ, Option.bind_some, Act.put, List.setIfInBounds_toArray, List.set_cons_zero, List.set_cons_succ]
        obtain ⟨y0, y1, y2, y3, y4, y5⟩ := (HB.out.ext hE).1.six
        have hlt := (HB.out.ext hE).1.1
        go_wp2_with fail
        exact ⟨rfl, Ext.refl _, rfl, fun _ _ _ _ => trivial⟩
       ·refine PreOp.of _ _ rfl rfl rfl ?_
        intro vs w' hx hnd
        have hE : Ext wr w' := Ext.trans (Ext.drew _) hx
        have e2 : vs 2 = .pointer (some ⟨w.heap.size, 2, none⟩) := hnd 2 (by kernel_rfl) (by omega)
        clear hnd
        simp only [fill, dstOf, List.getElem?_toArray, List.getElem?_cons_zero, List.getElem?_cons_succ, Option.bind_some, Act.put, List.setIfInBounds_toArray, List.set_cons_zero, List.set_cons_succ]
        rw [e2]
        obtain ⟨y0, y1, y2, y3, y4, y5⟩ := (HB.out.ext hE).1.six
        have hlt := (HB.out.ext hE).1.1
        go_wp2_with fail
        exact ⟨rfl, Ext.refl _, rfl, fun _ _ _ _ => trivial⟩
       ·refine PreOp.of _ _ rfl rfl rfl ?_
        intro vs w' hx hnd
        have hE : Ext wr w' := Ext.trans (Ext.drew _) hx
        have e3 : vs 3 = .slice (some ⟨b, off, none⟩) k c := hnd 3 (by kernel_rfl) (by omega)
        clear hnd
        simp only [fill, dstOf, List.getElem?_toArray, List.getElem?_cons_zero, List.getElem?_cons_succ, Option.bind_some, Act.put, List.setIfInBounds_toArray, List.set_cons_zero, List.set_cons_succ]
        rw [e3]
        obtain ⟨y0, y1, y2, y3, y4, y5⟩ := (HB.out.ext hE).1.six
        have hlt := (HB.out.ext hE).1.1
        go_wp2_with fail
        exact ⟨rfl, Ext.refl _, rfl, fun _ _ _ _ => trivial⟩
       ·refine PreOp.of _ _ rfl rfl rfl ?_
        intro vs w' hx hnd
        have hE : Ext wr w' := Ext.trans (Ext.drew _) hx
        clear hnd
        simp only [fill, dstOf, List.getElem?_toArray, List.getElem?_cons_zero, List.getElem?_cons_succ, Option.bind_some, Act.put, List.setIfInBounds_toArray, List.set_cons_zero, List.set_cons_succ]
        obtain ⟨y0, y1, y2, y3, y4, y5⟩ := (HB.out.ext hE).1.six
        have hlt := (HB.out.ext hE).1.1
        go_wp2_with fail
        exact ⟨rfl, Ext.refl _, rfl, fun _ _ _ _ => trivial⟩
       ·refine PreOp.of _ _ rfl rfl rfl ?_
        intro vs w' hx hnd
        have hE : Ext wr w' := Ext.trans (Ext.drew _) hx
        have e5 : vs 5 = .pointer (some ⟨w.heap.size, 2, none⟩) := hnd 5 (by kernel_rfl) (by omega)
        clear hnd
        simp only [fill, dstOf, List.getElem?_toArray, List.getElem?_cons_zero, List.getElem?_cons_succ, Option.bind_some, Act.put, List.setIfInBounds_toArray, List.set_cons_zero, List.set_cons_succ]
        rw [e5]
        obtain ⟨y0, y1, y2, y3, y4, y5⟩ := (HB.out.ext hE).1.six
        have hlt := (HB.out.ext hE).1.1
        go_wp2_with fail
        exact ⟨rfl, Ext.refl _, rfl, fun _ _ _ _ => trivial⟩
       ·refine PreOp.of _ _ rfl rfl rfl ?_
        intro vs w' hx hnd
        have hE : Ext wr w' := Ext.trans (Ext.drew _) hx
        have e6 : vs 6 = .slice (some ⟨b, off, none⟩) k c := hnd 6 (by kernel_rfl) (by omega)
        clear hnd
        simp only [fill, dstOf, List.getElem?_toArray, List.getElem?_cons_zero, List.getElem?_cons_succ, Option.bind_some, Act.put, List.setIfInBounds_toArray, List.set_cons_zero, List.set_cons_succ]
        rw [e6]
        obtain ⟨y0, y1, y2, y3, y4, y5⟩ := (HB.out.ext hE).1.six
        have hlt := (HB.out.ext hE).1.1
        go_wp2_with fail
        exact ⟨rfl, Ext.refl _, rfl, fun _ _ _ _ => trivial⟩
       ·refine PreOp.of _ _ rfl rfl rfl ?_
        intro vs w' hx hnd
        have hE : Ext wr w' := Ext.trans (Ext.drew _) hx
        have e1 : vs 1 = .slice (some ⟨b, off, none⟩) k c := hnd 1 (by kernel_rfl) (by omega)
        have e4 : vs 4 = .int .i64 (k : Int) := hnd 4 (by kernel_rfl) (by omega)
        have e7 : vs 7 = .int .i64 (k : Int) := hnd 7 (by kernel_rfl) (by omega)
        clear hnd
        simp only [fill, dstOf, List.getElem?_toArray, List.getElem?_cons_zero, List.getElem?_cons_succ, Option.bind_some, Act.put, List.setIfInBounds_toArray, List.set_cons_zero, List.set_cons_succ]
        rw [e1, e4, e7]
        obtain ⟨y0, y1, y2, y3, y4, y5⟩ := (HB.out.ext hE).1.six
        have hlt := (HB.out.ext hE).1.1
        go_wp2_with fail
        exact ⟨rfl, Ext.refl _, rfl, fun _ _ _ _ => trivial⟩
       ·refine PreOp.of _ _ rfl rfl rfl ?_
        intro vs w' hx hnd
        have hE : Ext wr w' := Ext.trans (Ext.drew _) hx
        clear hnd
        simp only [fill, dstOf, List.getElem?_toArray, List.getElem?_cons_zero, List.getElem?_cons_succ, Option.bind_some, Act.put, List.setIfInBounds_toArray, List.set_cons_zero, List.set_cons_succ]
        obtain ⟨y0, y1, y2, y3, y4, y5⟩ := (HB.out.ext hE).1.six
        have hlt := (HB.out.ext hE).1.1
        go_wp2_with fail
        exact ⟨rfl, Ext.refl _, rfl, fun _ _ _ _ => trivial⟩
       ·refine PreOp.of _ _ rfl rfl rfl ?_
        intro vs w' hx hnd
        have hE : Ext wr w' := Ext.trans (Ext.drew _) hx
        have e9 : vs 9 = .pointer (some ⟨w.heap.size, 2, none⟩) := hnd 9 (by kernel_rfl) (by omega)
        clear hnd
        simp only [fill, dstOf, List.getElem?_toArray, List.getElem?_cons_zero, List.getElem?_cons_succ, Option.bind_some, Act.put, List.setIfInBounds_toArray, List.set_cons_zero, List.set_cons_succ]
        rw [e9]
        obtain ⟨y0, y1, y2, y3, y4, y5⟩ := (HB.out.ext hE).1.six
        have hlt := (HB.out.ext hE).1.1
        go_wp2_with fail
        exact ⟨rfl, Ext.refl _, rfl, fun _ _ _ _ => trivial⟩
       ·refine PreOp.of _ _ rfl rfl rfl ?_
        intro vs w' hx hnd
        have hE : Ext wr w' := Ext.trans (Ext.drew _) hx
        have e10 : vs 10 = .slice (some ⟨b, off, none⟩) k c := hnd 10 (by kernel_rfl) (by omega)
        clear hnd
        simp only [fill, dstOf, List.getElem?_toArray, List.getElem?_cons_zero, List.getElem?_cons_succ, Option.bind_some, Act.put, List.setIfInBounds_toArray, List.set_cons_zero, List.set_cons_succ]
        rw [e10]
        obtain ⟨y0, y1, y2, y3, y4, y5⟩ := (HB.out.ext hE).1.six
        have hlt := (HB.out.ext hE).1.1
        go_wp2_with fail
        exact ⟨rfl, Ext.refl _, rfl, fun _ _ _ _ => trivial⟩
       ·refine PreOp.of _ _ rfl rfl rfl ?_
        intro vs w' hx hnd
        have hE : Ext wr w' := Ext.trans (Ext.drew _) hx
        have e11 : vs 11 = .pointer (some ⟨b, off, none⟩) := hnd 11 (by kernel_rfl) (by omega)
        clear hnd
        simp only [fill, dstOf, List.getElem?_toArray, List.getElem?_cons_zero, List.getElem?_cons_succ, Option.bind_some, Act.put, List.setIfInBounds_toArray, List.set_cons_zero, List.set_cons_succ]
        rw [e11]
        obtain ⟨y0, y1, y2, y3, y4, y5⟩ := (HB.out.ext hE).1.six
        have hlt := (HB.out.ext hE).1.1
        obtain ⟨q0, q1⟩ := HPC.out w' hE
        have hbl : b < w'.heap.size := Nat.lt_of_lt_of_le hb hE.size
        go_wp2_with fail
        exact ⟨rfl, Ext.refl _, rfl, fun _ _ _ _ => trivial⟩
       ·refine PreOp.of _ _ rfl rfl rfl ?_
        intro vs w' hx hnd
        have hE : Ext wr w' := Ext.trans (Ext.drew _) hx
        have e12 : vs 12 = .agg #[.int .i64 p0.a, .int .i64 p0.b] := hnd 12 (by kernel_rfl) (by omega)
        clear hnd
        simp only [fill, dstOf, List.getElem?_toArray, List.getElem?_cons_zero, List.getElem?_cons_succ, Option.bind_some, Act.put, List.setIfInBounds_toArray, List.set_cons_zero, List.set_cons_succ]
        rw [e12]
        obtain ⟨y0, y1, y2, y3, y4, y5⟩ := (HB.out.ext hE).1.six
        have hlt := (HB.out.ext hE).1.1
        go_wp2_with fail
        exact ⟨rfl, Ext.alloc _ _, ⟨_, rfl, CellsAt.new _ [.int .i64 p0.a, .int .i64 p0.b] _⟩, fun _ _ _ _ => trivial⟩
       ·refine PreOp.of _ _ rfl rfl rfl ?_
        intro vs w' hx hnd
        have hE : Ext wr w' := Ext.trans (Ext.drew _) hx
        have e8 : vs 8 = .slice (some ⟨b, off, none⟩) k k := hnd 8 (by kernel_rfl) (by omega)
        obtain ⟨g, e13, hg⟩ := hnd 13 (by kernel_rfl) (by omega)
        clear hnd
        simp only [fill, dstOf, List.getElem?_toArray, List.getElem?_cons_zero, List.getElem?_cons_succ, Option.bind_some, Act.put, List.setIfInBounds_toArray, List.set_cons_zero, List.set_cons_succ]
        rw [e8, e13]
        obtain ⟨y0, y1, y2, y3, y4, y5⟩ := (HB.out.ext hE).1.six
        have hlt := (HB.out.ext hE).1.1
        have hfull : ArrAt 2 (SgW) w' (.slice (some ⟨b, off, none⟩) k k) (s.segs ++ List.replicate m p0) := (HX.out.ext (SgW.stable) hE).full
        have hone : ArrAt 2 (SgW) w' (.slice (some ⟨g, 0, none⟩) 1 1) [p0] := arr_one hg.1 rfl (fun j u hj => hg.2 j u hj) HP0.out (Nat.le_refl _)
        refine wpList_append_full w' rfl _ _ 24 rfl 42 i0 (.agg #[.int .i64 0, .int .i64 0]) 2 16 Tryz.underlying24 hi hz0 hz1 hz2 rfl (by decide) (SgW.stable) rfl hfull rfl (by decide) hone (one_SgW) (by omega) (by omega) ?_
        intro g4 c4 w4 hg4 h1 h2
        go_wp2_with fail
        exact ⟨rfl, h2, ⟨g4, c4, rfl, by have := hE.size; have := HB.out.1.1; omega, h1⟩, fun _ _ _ _ => trivial⟩
       ·refine PreOp.of _ _ rfl rfl rfl ?_
        intro vs w' hx hnd
        have hE : Ext wr w' := Ext.trans (Ext.drew _) hx
        clear hnd
        simp only [fill, dstOf, List.getElem?_toArray, List.getElem?_cons_zero, List.getElem?_cons_succ, Option.bind_some, Act.put, List.setIfInBounds_toArray, List.set_cons_zero, List.set_cons_succ]
        obtain ⟨y0, y1, y2, y3, y4, y5⟩ := (HB.out.ext hE).1.six
        have hlt := (HB.out.ext hE).1.1
        go_wp2_with fail
        exact ⟨rfl, Ext.refl _, rfl, fun _ _ _ _ => trivial⟩
      ·intro vs w' hx hP hD
       have hE : Ext wr w' := Ext.trans (Ext.drew _) hx
       obtain ⟨g4, c4, e14, hg4, h14⟩ := hP 14 (by omega)
       have e15 : vs 15 = .pointer (some ⟨w.heap.size, 2, none⟩) := hP 15 (by omega)
       clear hP hD
       simp only [fill, dstOf, List.getElem?_toArray, List.getElem?_cons_zero, List.getElem?_cons_succ, Option.bind_some, Act.put, List.setIfInBounds_toArray, List.set_cons_zero, List.set_cons_succ]
       rw [e14, e15]
       show wpList _ _ _ (List.cons _ List.nil) _ _
       clear e14 e15 hx
       have HB4 := Lib.hid (HB.out.ext hE)
       have HX4 := Lib.hid h14
       have hf0 := HB4.out.2 2
       obtain ⟨y0, y1, y2, y3, y4, y5⟩ := HB4.out.1.six
       have hlt := HB4.out.1.1
       clear h14
       go_wp2_with fail
       go_roundg (gk - 1)
       case measure => have := HKM.out; omega
       case rel =>
        refine ⟨g4, 0, k + 1, c4, m + 1, ⟨by have := HKM.out; omega, by have := HKM.out; omega⟩, by omega, ?_, ?_, ?_⟩
        ·exact HB4.out.set_ (j := 2) (by simp) _
        ·have := arr_far HX4.out (p := ⟨w.heap.size, 2, none⟩) (by simp; omega) (.slice (some ⟨g4, 0, none⟩) (k + 1) c4)
         rwa [List.append_assoc, ← List.replicate_succ'] at this
        ·exact (hEr.trans hE).pset (by simp) _
  | 2, _ =>
   have hmk := mk_pieces n (by omega)
   cases b2
   all_goals
    go_wp2_with fail
    clear e1 e2 hb2
    go_loopg [98] n (fun gk x wr => ∃ i : Nat, x = .int .i64 (i : Int) ∧ Hid (i + gk = n) ∧ Hid (PRow wr w2.heap.size n i) ∧ Ext w2 wr)
    case atStart => exact ⟨0, rfl, (by show 0 + n = n; omega), PRow.made w2 n, Ext.alloc _ _⟩
    case round =>
     obtain ⟨i, rfl, HI, HR, hEr⟩ := hrel
     by_cases hg0 : gk = 0
     ·have hin : ¬ ((i : Int) < (n : Int)) := by have := HI.out; omega
      obtain rfl : i = n := by have := HI.out; omega
      have HBr := Lib.hid (HB2.out.ext hEr)
      obtain ⟨y0, y1, y2, y3, y4, y5⟩ := HBr.out.1.six
      have hlt := HBr.out.1.1
      have hf4 := HBr.out.2 4
      have hlc : s.chains.length ≤ c4 := HSK0.out.chains.len.2.1
      have hEw : Ext w wr := hE2.trans hEr
      have hch := HSK0.out.chains
      have HFU : Hid (ArrAt 1 (fun _ => ChW w (.slice (some ⟨w2.heap.size, 0, none⟩) i i) i) (wr.alloc (.cells #[.slice (some ⟨w2.heap.size, 0, none⟩) i i] 43)) (.slice A4 s.chains.length s.chains.length) s.chains) :=
       ((hch.mono (S := fun _ => ChW w (.slice (some ⟨w2.heap.size, 0, none⟩) i i) i) fun _ _ _ h => .inl h).ext (fun _ _ _ _ _ h => h) (hEw.palloc _)).full
      have HON : Hid (ArrAt 1 (fun _ => ChW w (.slice (some ⟨w2.heap.size, 0, none⟩) i i) i) (wr.alloc (.cells #[.slice (some ⟨w2.heap.size, 0, none⟩) i i] 43)) (.slice (some ⟨wr.heap.size, 0, none⟩) 1 1) [zig i]) :=
       arr_one (cs := [.slice (some ⟨w2.heap.size, 0, none⟩) i i]) (by simp) rfl (CellsAt.new wr [.slice (some ⟨w2.heap.size, 0, none⟩) i i] _).2 (.inr ⟨rfl, rfl⟩) (Nat.le_refl _)
      obtain ⟨i0, hi, hz0, hz1, hz2⟩ := info_parts inf_Chain
      clear HI hch
      go_wp2_with (at_builtin; refine wpList_append_full _ rfl _ _ 26 rfl 43 i0 (.slice none 0 0) 1 24 Tryz.underlying26 hi hz0 hz1 hz2 rfl (by decide) (R := fun _ => ChW w (.slice (some ⟨w2.heap.size, 0, none⟩) i i) i) (fun _ _ _ _ _ h => h) rfl HFU.out rfl (by decide) HON.out (one_ChW w _ _ _ _) (by omega) (by omega) ?_; intro g4 c4' w4 hg4 h1 h2; have hx4 : Ext wr w4 := Ext.trans (Ext.alloc _ _) h2; have H1 := Lib.hid h1; clear h1 h2; clear y0 y1 y2 y3 y4 y5 hlt hf4; obtain ⟨y0, y1, y2, y3, y4, y5⟩ := (HBr.out.ext hx4).1.six; have hlt := (HBr.out.ext hx4).1.1; have hf4 := (HBr.out.ext hx4).2 4)
      have hEf : Ext w (w4.setCell ⟨w.heap.size, 4, none⟩ (.slice (some ⟨g4, 0, none⟩) (s.chains.length + 1) c4')) := (hEw.trans hx4).pset (Nat.le_refl _) _
      have hzig : ArrAt 3 PcR (w4.setCell ⟨w.heap.size, 4, none⟩ (.slice (some ⟨g4, 0, none⟩) (s.chains.length + 1) c4')) (.slice (some ⟨w2.heap.size, 0, none⟩) i i) (zig i) :=
       arr_far (S := fun cs (p : PcI) => cs = [.bool p.arc, .int .i64 p.index, .bool p.back]) ((HR.out.arr (by omega)).ext PcR.stable hx4) (by have := HB2.out.1.1; simp; omega) _
      have hB4 : w.heap.size < g4 := by simp at hg4; have := HBr.out.1.1; omega
      have hcs := (arr_far H1.out (p := ⟨w.heap.size, 4, none⟩) (by simp; omega) (.slice (some ⟨g4, 0, none⟩) (s.chains.length + 1) c4')).mono (S := ChR) fun cs x _ h => by
       rcases h with h | ⟨rfl, rfl⟩
       ·exact ChR.stable _ _ _ _ hEf h
       ·exact ⟨_, rfl, hzig⟩
      have her := want_of (er := errS 61 { s with chains := s.chains ++ [zig i] }) (n := i) (big_chain HER.out (by omega) (by omega) (by omega)) HW.out
      have HVV := Lib.hid (sketch_Valid_any decC (K := 61) (by omega) (s := { s with chains := s.chains ++ [zig i] })
       ⟨HSK0.out.points.ext PtR.stable hEf, HSK0.out.circles.ext RdR.stable hEf, HSK0.out.segs.ext SgR.stable hEf, HSK0.out.arcs.ext ArR.stable hEf, hcs, HSK0.out.cons.ext (ConR.stable 61) hEf⟩
       ⟨HSM.out.points, HSM.out.circles, HSM.out.cons⟩ (HGK.out.1.ext hEf) (HGK.out.2.ext hEf))
      clear hcs hzig
      generalize errS 61 { s with chains := s.chains ++ [zig i] } = er at *
      generalize (w4.setCell ⟨w.heap.size, 4, none⟩ (.slice (some ⟨g4, 0, none⟩) (s.chains.length + 1) c4')) = W5 at *
      first
       | (obtain rfl : er = 0 := her)
       | (obtain rfl : er = 3 := her)
      refine HVV.out.mono ?_
      rintro e w5 ⟨rfl, hx5⟩
      go_wp2_with fail
      go_ret
      exact ⟨rfl, hEf.trans hx5⟩
     ·have hin : (i : Int) < (n : Int) := by have := HI.out; omega
      have hin' : i < n := by have := HI.out; omega
      obtain ⟨q1, q2, q3⟩ := HR.out.2.2 i hin'
      have qf := HR.out.2.1 (i * 3 + 2)
      have hbit : (((i : Int) % 2) == 1) = decide (i % 2 = 1) := by
       rcases Nat.mod_two_eq_zero_or_one i with h | h
       ·rw [show ((i : Int) % 2) = 0 by omega, h]; rfl
       ·rw [show ((i : Int) % 2) = 1 by omega, h]; rfl
      go_wp2_with fail
      go_roundg (gk - 1)
      case measure => omega
      case rel => exact ⟨i + 1, by simp, (by have := HI.out; show _ = _; omega), HR.out.set_ hin', hEr.pset (by simp) _⟩
  | 3, _ =>
   have hmk := mk_segs n (by omega)
   have HW3 : Hid ((if 200 < n then (3 : Int) else 1) = wantC b2) := by
    show _ = _
    have := HW.out
    by_cases h2 : 200 < n
    ·rw [if_pos h2] at this ⊢
     cases b2
     ·cases this
     ·rfl
    ·rw [if_neg h2] at this ⊢
     cases b2
     ·rfl
     ·cases this
   have hf2 := HB2.out.2 2
   have hf4 := HB2.out.2 4
   cases b2
   all_goals
    go_wp2_with fail
    have hX : ((w2.setCell ⟨w.heap.size, 2, none⟩ (.slice (some ⟨w2.heap.size, 0, none⟩) n n)).setCell ⟨w.heap.size, 4, none⟩ (.slice none 0 0)).heap.size = w2.heap.size := by simp [World.setCell]
    have hseg := segs_made ((w2.setCell ⟨w.heap.size, 2, none⟩ (.slice (some ⟨w2.heap.size, 0, none⟩) n n)).setCell ⟨w.heap.size, 4, none⟩ (.slice none 0 0)) n (by omega)
    rw [hX] at hseg
    have hEw : Ext w (((w2.setCell ⟨w.heap.size, 2, none⟩ (.slice (some ⟨w2.heap.size, 0, none⟩) n n)).setCell ⟨w.heap.size, 4, none⟩ (.slice none 0 0)).alloc (.cells (madeCells #[.int .i64 0, .int .i64 0] (n * 2)) 42)) := ((hE2.pset (by simp) _).pset (by simp) _).palloc _
    generalize (((w2.setCell ⟨w.heap.size, 2, none⟩ (.slice (some ⟨w2.heap.size, 0, none⟩) n n)).setCell ⟨w.heap.size, 4, none⟩ (.slice none 0 0)).alloc (.cells (madeCells #[.int .i64 0, .int .i64 0] (n * 2)) 42)) = W4 at *
    have her : errS 61 { s with segs := List.replicate n ⟨0, 0⟩, chains := [] } = wantC _ := (big_none HER.out (by omega)).trans HW3.out
    have HVV := Lib.hid (sketch_Valid_any decC (K := 61) (by omega) (s := { s with segs := List.replicate n ⟨0, 0⟩, chains := [] })
     ⟨HSK0.out.points.ext PtR.stable hEw, HSK0.out.circles.ext RdR.stable hEw, hseg, HSK0.out.arcs.ext ArR.stable hEw, ArrAt.nil, HSK0.out.cons.ext (ConR.stable 61) hEw⟩
     ⟨HSM.out.points, HSM.out.circles, HSM.out.cons⟩ (HGK.out.1.ext hEw) (HGK.out.2.ext hEw))
    generalize errS 61 { s with segs := List.replicate n ⟨0, 0⟩, chains := [] } = er at *
    first
     | (obtain rfl : er = 1 := her)
     | (obtain rfl : er = 3 := her)
    refine HVV.out.mono ?_
    rintro e w5 ⟨rfl, hx5⟩
    go_wp2_with fail
    go_ret
    exact ⟨rfl, hEw.trans hx5⟩
end Go.Proofs.YtonleohlplkglaaGreatDoor
