/- on, ints, SameConstraint (of constraints without values) of the reference's layer 26. -/
import Derived.Test.YtonleohlplkglaaGreatDoorRC
import Derived.Test.YtonleohlplkglaaGreatDoorRA
import Derived.Deep.RegionWith
import Derived.Deep.RegionLaw
import Derived.Deep.RegionHeld3
namespace Go.Proofs.YtonleohlplkglaaGreatDoor
open Go Go.RowKit

def onB (c : CI) (p q : Int) : Bool := decide (c.kind = 13) && decide (c.points.getD 0 0 = p) && decide (c.circles.getD 0 0 = q)

set_option maxHeartbeats 1600000 in
theorem ref26_on {K : Nat} {c : CI} {pv cv vv : Value} {p q : Int} {w : World} (hp : Ints w pv c.points) (hc : Ints w cv c.circles) (hv : ArrAt 7 (ExprR K) w vv c.values) (hk : c.kind = 13 → 0 < c.points.length ∧ 0 < c.circles.length) :
    Calls Tryz.prog 61 #[.agg #[.int .i64 c.kind, pv, cv, vv, .int .i64 c.side], .int .i64 p, .int .i64 q] w fun e w' => e = .returned (.bool (onB c p q)) ∧ Ext w w' := by
  obtain ⟨A1, c1, rfl, hl1, hm1⟩ := hp.form
  obtain ⟨A2, c2, rfl, hl2, hm2⟩ := hc.form
  obtain ⟨A3, c3, rfl, hl3, hm3⟩ := hv.form
  have HE : Hid (onB c p q = (decide (c.kind = 13) && decide (c.points.getD 0 0 = p) && decide (c.circles.getD 0 0 = q))) := rfl
  generalize onB c p q = r at *
  by_cases h13 : c.kind = 13
  · obtain ⟨hl, hl'⟩ := hk h13
    obtain ⟨b, off, rfl, hb, hcell⟩ := ints_cells hp hl
    obtain ⟨b', off', rfl, hb', hcell'⟩ := ints_cells hc hl'
    have q1 : w.cell? ⟨b, off, none⟩ = some (.int .i64 (c.points.getD 0 0)) := by
      have := hcell 0 hl
      rw [Nat.add_zero] at this
      rw [this, List.getD_eq_getElem?_getD, List.getElem?_eq_getElem hl]; rfl
    have q2 : w.cell? ⟨b', off', none⟩ = some (.int .i64 (c.circles.getD 0 0)) := by
      have := hcell' 0 hl'
      rw [Nat.add_zero] at this
      rw [this, List.getD_eq_getElem?_getD, List.getElem?_eq_getElem hl']; rfl
    rw [decide_eq_true h13] at HE
    clear hp hc hv hcell hcell' hk
    generalize c.points.getD 0 0 = x at *
    generalize c.circles.getD 0 0 = y at *
    generalize c.points.length = n1 at *
    generalize c.circles.length = n2 at *
    generalize c.values.length = n3 at *
    generalize c.side = sd at *
    generalize c.kind = kd at *
    subst h13
    by_cases hx : x = p
    · have hx' : (x == p) = true := by simpa using hx
      rw [decide_eq_true hx] at HE
      clear hx
      go_enter Tryz.func61, Tryz.ntmps61
      go_wp2_with fail
      go_ret
      refine ⟨?_, (by repeat (first | exact Ext.refl _ | assumption | refine Ext.pdrewN ?_ _ | refine Ext.pdrew ?_ | refine Ext.palloc ?_ _ | refine Ext.pset ?_ (by simp <;> omega) _ | refine Ext.trans ?_ (by assumption)))⟩
      rw [HE.out]
      by_cases hy : y = q <;> simp [hy]
    · have hx' : (x == p) = false := by simpa using hx
      rw [decide_eq_false hx] at HE
      clear hx
      go_enter Tryz.func61, Tryz.ntmps61
      go_wp2_with fail
      go_ret
      exact ⟨by rw [HE.out]; rfl, (by repeat (first | exact Ext.refl _ | assumption | refine Ext.pdrewN ?_ _ | refine Ext.pdrew ?_ | refine Ext.palloc ?_ _ | refine Ext.pset ?_ (by simp <;> omega) _ | refine Ext.trans ?_ (by assumption)))⟩
  · have h13' : (c.kind == 13) = false := by simpa using h13
    rw [decide_eq_false h13] at HE
    clear hp hc hv h13 hk
    generalize c.points.length = n1 at *
    generalize c.circles.length = n2 at *
    generalize c.values.length = n3 at *
    generalize c.side = sd at *
    generalize c.kind = kd at *
    go_enter Tryz.func61, Tryz.ntmps61
    go_wp2_with fail
    go_ret
    exact ⟨by rw [HE.out]; rfl, (by repeat (first | exact Ext.refl _ | assumption | refine Ext.pdrewN ?_ _ | refine Ext.pdrew ?_ | refine Ext.palloc ?_ _ | refine Ext.pset ?_ (by simp <;> omega) _ | refine Ext.trans ?_ (by assumption)))⟩

set_option maxHeartbeats 800000 in
theorem ref26_ints {A B : Option Addr} {n c m d : Nat} {xs ys : List Int} {w : World} (h : Ints w (.slice A n c) xs) (h' : Ints w (.slice B m d) ys) :
    Calls Tryz.prog 62 #[.slice A n c, .slice B m d] w fun e w' => e = .returned (.bool (decide (xs = ys))) ∧ Ext w w' := by
  obtain ⟨rfl, hl, hm⟩ := h.len
  obtain ⟨rfl, hl', hm'⟩ := h'.len
  have HC := Lib.hid (fun k (hk : k < xs.length) => ints_cells h hk)
  have HC' := Lib.hid (fun k (hk : k < ys.length) => ints_cells h' hk)
  clear h h'
  by_cases hxy : xs.length = ys.length
  · have HXY := Lib.hid hxy
    have hne : ((xs.length : Int) != (ys.length : Int)) = false := by rw [hxy]; simp
    clear hxy
    go_enter Tryz.func62, Tryz.ntmps62
    go_wp2_with fail
    go_loopg [5] xs.length (fun gk x wr => ∃ i : Nat, x = .int .i64 (i : Int) ∧ i + gk = xs.length ∧ Hid (decide (xs.drop i = ys.drop i) = decide (xs = ys)) ∧ Hid (Ext w wr))
    case atStart => exact ⟨0, rfl, by omega, rfl, Ext.refl _⟩
    case round =>
      obtain ⟨i, rfl, hi, HA, HE⟩ := hrel
      by_cases hlt : i < xs.length
      · have hlt' : i < ys.length := by rw [← HXY.out]; exact hlt
        obtain ⟨b, off, rfl, hb, hcell⟩ := HC.out _ hlt
        obtain ⟨b', off', rfl, hb', hcell'⟩ := HC'.out _ hlt'
        have q1 := (HE.out.cell (p := ⟨b, off + i, none⟩) hb).trans (hcell i hlt)
        have q2 := (HE.out.cell (p := ⟨b', off' + i, none⟩) hb').trans (hcell' i hlt')
        have HD := Lib.hid (list_eq_step hlt hlt')
        have i1 : (i : Int) < (xs.length : Int) := by omega
        have i2 : (i : Int) < (ys.length : Int) := by omega
        have i0 : (0 : Int) ≤ (i : Int) := by omega
        clear hcell hcell' HC HC'
        generalize xs[i] = x at *
        generalize ys[i] = y at *
        by_cases he : x = y
        · have he' : (x != y) = false := by simp [he]
          have HR : Hid (decide (xs.drop (i + 1) = ys.drop (i + 1)) = decide (xs = ys)) := by show _ = _; rw [← HA.out, HD.out, decide_eq_true he]; rfl
          clear he
          go_wp2_with fail
          go_quiet (fail)
          go_wp2_with fail
          go_roundg (xs.length - (i + 1))
          case measure => omega
          case rel => exact ⟨i + 1, by simp, by omega, HR, HE.out.pdrewN _⟩
        · have he' : (x != y) = true := by simpa using he
          have HR : Hid (decide (xs = ys) = false) := by show _ = _; rw [← HA.out, HD.out, decide_eq_false he]; rfl
          clear he
          go_wp2_with fail
          go_quiet (fail)
          go_wp2_with fail
          go_ret
          exact ⟨by rw [HR.out]; rfl, HE.out.pdrewN _⟩
      · have HR : Hid (decide (xs = ys) = true) := by show _ = _; rw [← HA.out, List.drop_eq_nil_of_le (by omega), List.drop_eq_nil_of_le (by rw [← HXY.out]; omega)]; rfl
        go_wp2_with fail
        go_ret
        exact ⟨by rw [HR.out]; rfl, HE.out⟩
  · have hne : ((xs.length : Int) != (ys.length : Int)) = true := by rw [bne_iff_ne]; omega
    have HR : Hid (decide (xs = ys) = false) := decide_eq_false (fun e => hxy (by rw [e]))
    clear hxy
    go_enter Tryz.func62, Tryz.ntmps62
    go_wp2_with fail
    go_ret
    exact ⟨by rw [HR.out]; rfl, Ext.refl _⟩

set_option maxRecDepth 100000 in
set_option maxHeartbeats 1600000 in
/-- The same constraint twice, without values. -/
theorem ref26_SameConstraint0 {k sd : Int} {xs ys : List Int} {pv cv pv' cv' : Value} {A A' : Option Addr} {d d' : Nat} {w : World} (hp : Ints w pv xs) (hc : Ints w cv ys) (hp' : Ints w pv' xs) (hc' : Ints w cv' ys) :
    Calls Tryz.prog 17 #[.agg #[.int .i64 k, pv, cv, .slice A 0 d, .int .i64 sd], .agg #[.int .i64 k, pv', cv', .slice A' 0 d', .int .i64 sd]] w fun e w' => e = .returned (.bool true) ∧ Ext w w' := by
  obtain ⟨A1, c1, rfl, hl1, hm1⟩ := hp.form
  obtain ⟨A2, c2, rfl, hl2, hm2⟩ := hc.form
  obtain ⟨A3, c3, rfl, hl3, hm3⟩ := hp'.form
  obtain ⟨A4, c4, rfl, hl4, hm4⟩ := hc'.form
  have HP := Lib.hid (fun w1 (hx : Ext w w1) => ref26_ints (hp.ext IntR.stable hx) (hp'.ext IntR.stable hx))
  have HC := Lib.hid (fun w1 (hx : Ext w w1) => ref26_ints (hc.ext IntR.stable hx) (hc'.ext IntR.stable hx))
  have HB1 := Lib.hid ((CellsAt.new w [.int .i64 k, .slice A1 xs.length c1, .slice A2 ys.length c2, .slice A 0 d, .int .i64 sd] 52).ext (Ext.alloc _ (.cells #[.int .i64 k, .slice A3 xs.length c3, .slice A4 ys.length c4, .slice A' 0 d', .int .i64 sd] 52)))
  have HB2 : Hid (CellsAt ((w.alloc (.cells #[.int .i64 k, .slice A1 xs.length c1, .slice A2 ys.length c2, .slice A 0 d, .int .i64 sd] 52)).alloc (.cells #[.int .i64 k, .slice A3 xs.length c3, .slice A4 ys.length c4, .slice A' 0 d', .int .i64 sd] 52)) (w.heap.size + 1) [.int .i64 k, .slice A3 xs.length c3, .slice A4 ys.length c4, .slice A' 0 d', .int .i64 sd]) := by
    have := CellsAt.new (w.alloc (.cells #[.int .i64 k, .slice A1 xs.length c1, .slice A2 ys.length c2, .slice A 0 d, .int .i64 sd] 52)) [.int .i64 k, .slice A3 xs.length c3, .slice A4 ys.length c4, .slice A' 0 d', .int .i64 sd] 52
    rwa [World.size_alloc] at this
  have hd1 : decide (xs = xs) = true := by simp
  have hd2 : decide (ys = ys) = true := by simp
  rw [hd1] at HP
  rw [hd2] at HC
  clear hp hc hp' hc' hd1 hd2
  generalize xs.length = n1 at *
  generalize ys.length = n2 at *
  obtain ⟨W, hW⟩ : ∃ W, (w.alloc (.cells #[.int .i64 k, .slice A1 n1 c1, .slice A2 n2 c2, .slice A 0 d, .int .i64 sd] 52)).alloc (.cells #[.int .i64 k, .slice A3 n1 c3, .slice A4 n2 c4, .slice A' 0 d', .int .i64 sd] 52) = W := ⟨_, rfl⟩
  have hEW : Ext w W := by rw [← hW]; exact (Ext.alloc _ _).palloc _
  rw [hW] at HB1 HB2
  have HW := Lib.hid hW
  clear hW
  go_enter Tryz.func17, Tryz.ntmps17
  go_upto_region 1 with fail
  rw [HW.out]
  have hne : (k != k) = false := by simp
  have hne2 : (sd != sd) = false := by simp
  obtain ⟨y0, y1, y2, y3, y4⟩ := HB1.out.five
  obtain ⟨z0, z1, z2, z3, z4⟩ := HB2.out.five
  go_wp2_with fail
  refine (HP.out _ hEW).mono ?_
  rintro e w1 ⟨rfl, hx1⟩
  clear y0 y1 y2 y3 y4 z0 z1 z2 z3 z4
  obtain ⟨y0, y1, y2, y3, y4⟩ := (HB1.out.ext hx1).five
  obtain ⟨z0, z1, z2, z3, z4⟩ := (HB2.out.ext hx1).five
  go_wp2_with fail
  refine (HC.out _ (Ext.trans hEW hx1)).mono ?_
  rintro e w2 ⟨rfl, hx2⟩
  have hx12 := Ext.trans hx1 hx2
  clear y0 y1 y2 y3 y4 z0 z1 z2 z3 z4
  obtain ⟨y0, y1, y2, y3, y4⟩ := (HB1.out.ext hx12).five
  obtain ⟨z0, z1, z2, z3, z4⟩ := (HB2.out.ext hx12).five
  go_wp2_with fail
  go_loopg [5] 0 (fun _ x wr => x = .int .i64 0 ∧ wr = w2)
  case atStart => exact ⟨rfl, rfl⟩
  case round =>
    obtain ⟨rfl, hw⟩ := hrel
    have hw' := hw.symm
    clear hw
    subst hw'
    go_wp2_with fail
    go_ret
    exact ⟨rfl, Ext.trans hEW hx12⟩
end Go.Proofs.YtonleohlplkglaaGreatDoor

/- Implied of the reference's layer 26. -/
namespace Go.Proofs.YtonleohlplkglaaGreatDoor
open Go Go.RowKit

def refStep (all : List CI) (pc : Int × Int) : List CI := if all.any (fun c => onB c pc.1 pc.2) then all else all ++ [onC pc]
/-- All constraints, with those that the arcs imply. -/
def impR (s : SkI) : List CI := (arcEnds s.arcs).foldl refStep s.cons
/-- Whatever is a point on a circle has a point and a circle. -/
def OnOK (l : List CI) : Prop := ∀ c ∈ l, c.kind = 13 → 0 < c.points.length ∧ 0 < c.circles.length
theorem OnOK.snoc {l : List CI} (h : OnOK l) (pc : Int × Int) : OnOK (l ++ [onC pc]) := by
  intro c hc hk
  rcases List.mem_append.1 hc with hc | hc
  · exact h c hc hk
  · simp at hc
    subst hc
    exact ⟨by simp [onC], by simp [onC]⟩
theorem any_drop {α : Type} {p : α → Bool} {xs : List α} {i : Nat} (h : i < xs.length) : (xs.drop i).any p = (p xs[i] || (xs.drop (i + 1)).any p) := by rw [List.drop_eq_getElem_cons h, List.any_cons]

/-- A list of one constraint that is not in memory that may change. -/
theorem con_one {K : Nat} {W : World} {row : Option Nat} {gn bp bc : Nat} {pc : Int × Int} (h : CellsAt W gn (onV bp bc)) (hp : CellsAt W bp [.int .i64 pc.1]) (hc : CellsAt W bc [.int .i64 pc.2]) (np : some bp ≠ row) (nc : some bc ≠ row) : ArrAt 5 (Off row (ConR K)) W (.slice (some ⟨gn, 0, none⟩) 1 1) [onC pc] := by
  refine ⟨some ⟨gn, 0, none⟩, 1, rfl, Nat.le_refl _, by simp, fun _ => ⟨gn, 0, rfl, h.1, fun k x hk => ?_⟩⟩
  have hk0 : k = 0 := by
    have := (List.getElem?_eq_some_iff.1 hk).1
    simp at this; omega
  subst hk0
  simp at hk
  subst hk
  refine ⟨onV bp bc, rfl, fun j u hj => ?_, fun w' hg => ⟨_, _, _, rfl, ints_one (hp.far hg np) (Nat.le_refl _), ints_one (hc.far hg nc) (Nat.le_refl _), ArrAt.nil⟩⟩
  rw [Nat.zero_mul, Nat.zero_add, Nat.zero_add]
  exact h.2 j u hj

theorem con_oneA {K : Nat} {wr : World} {row : Option Nat} {p pc : Int} (hr : ∀ r, row = some r → r < wr.heap.size) : ArrAt 5 (Off row (ConR K)) ((((wr.alloc (.cells #[.int .i64 p] 3)).alloc (.cells #[.int .i64 pc] 3)).alloc (.cells #[.int .i64 13, .slice (some ⟨wr.heap.size, 0, none⟩) 1 1, .slice (some ⟨wr.heap.size + 1, 0, none⟩) 1 1, .slice none 0 0, .int .i64 0] 52)).drew) (.slice (some ⟨wr.heap.size + 1 + 1, 0, none⟩) 1 1) [onC (p, pc)] := by
  refine con_one (pc := (p, pc)) (bp := wr.heap.size) (bc := wr.heap.size + 1) ?_ ?_ ?_ ?_ ?_
  · have := (CellsAt.new ((wr.alloc (.cells #[.int .i64 p] 3)).alloc (.cells #[.int .i64 pc] 3)) (onV wr.heap.size (wr.heap.size + 1)) 52).ext (Ext.drew _)
    rwa [World.size_alloc, World.size_alloc] at this
  · exact (CellsAt.new wr [.int .i64 p] 3).ext (((Ext.alloc _ _).palloc _).pdrew)
  · have := (CellsAt.new (wr.alloc (.cells #[.int .i64 p] 3)) [.int .i64 pc] 3).ext ((Ext.alloc _ (.cells #[.int .i64 13, .slice (some ⟨wr.heap.size, 0, none⟩) 1 1, .slice (some ⟨wr.heap.size + 1, 0, none⟩) 1 1, .slice none 0 0, .int .i64 0] 52)).pdrew)
    rwa [World.size_alloc] at this
  · intro e; have := hr _ e.symm; omega
  · intro e; have := hr _ e.symm; omega
theorem con_oneB {K : Nat} {wr : World} {row : Option Nat} {p pc : Int} (hr : ∀ r, row = some r → r < wr.heap.size) : ArrAt 5 (Off row (ConR K)) ((((wr.alloc (.cells #[.int .i64 pc] 3)).alloc (.cells #[.int .i64 p] 3)).alloc (.cells #[.int .i64 13, .slice (some ⟨wr.heap.size + 1, 0, none⟩) 1 1, .slice (some ⟨wr.heap.size, 0, none⟩) 1 1, .slice none 0 0, .int .i64 0] 52)).drew) (.slice (some ⟨wr.heap.size + 1 + 1, 0, none⟩) 1 1) [onC (p, pc)] := by
  refine con_one (pc := (p, pc)) (bp := wr.heap.size + 1) (bc := wr.heap.size) ?_ ?_ ?_ ?_ ?_
  · have := (CellsAt.new ((wr.alloc (.cells #[.int .i64 pc] 3)).alloc (.cells #[.int .i64 p] 3)) (onV (wr.heap.size + 1) wr.heap.size) 52).ext (Ext.drew _)
    rwa [World.size_alloc, World.size_alloc] at this
  · have := (CellsAt.new (wr.alloc (.cells #[.int .i64 pc] 3)) [.int .i64 p] 3).ext ((Ext.alloc _ (.cells #[.int .i64 13, .slice (some ⟨wr.heap.size + 1, 0, none⟩) 1 1, .slice (some ⟨wr.heap.size, 0, none⟩) 1 1, .slice none 0 0, .int .i64 0] 52)).pdrew)
    rwa [World.size_alloc] at this
  · exact (CellsAt.new wr [.int .i64 pc] 3).ext (((Ext.alloc _ _).palloc _).pdrew)
  · intro e; have := hr _ e.symm; omega
  · intro e; have := hr _ e.symm; omega
theorem CellsAt.ne_own' {X : World} {v v' : Value} {b : Nat} {cs : List Value} (h : CellsAt X b cs) (hne : some b ≠ v.ownBlock) (hat : v'.ownBlock = v.ownBlock ∨ v'.ownBlock = some X.heap.size) : some b ≠ v'.ownBlock := by
  intro e
  rcases hat with h1 | h1
  · exact hne (e.trans h1)
  · rw [h1] at e
    injection e with e
    exact absurd h.1 (by omega)
theorem ArrAt.drop {α : Type} {sz : Nat} {R : World → List Value → α → Prop} {w : World} {b off n c : Nat} {xs : List α} (h : ArrAt sz R w (.slice (some ⟨b, off, none⟩) n c) xs) {k : Nat} (hk : k ≤ n) : ArrAt sz R w (.slice (some ⟨b, off + k * sz, none⟩) (n - k) (c - k)) (xs.drop k) := by
  obtain ⟨A', c', hv, hl, hm, hc⟩ := h
  obtain ⟨rfl, rfl, rfl⟩ : some ⟨b, off, none⟩ = A' ∧ n = xs.length ∧ c = c' := by injection hv with h1 h2 h3; exact ⟨h1, h2, h3⟩
  refine ⟨some ⟨b, off + k * sz, none⟩, c - k, by rw [List.length_drop], by rw [List.length_drop]; omega, by rw [List.length_drop]; omega, fun hne => ?_⟩
  obtain ⟨b', off', hA, hb, hel⟩ := hc (by intro e; subst e; simp at hne)
  injection hA with hA
  injection hA with h1 h2
  subst h1 h2
  refine ⟨b, off + k * sz, rfl, hb, fun j x hj => ?_⟩
  rw [List.getElem?_drop] at hj
  obtain ⟨cs, h3, h4, h5⟩ := hel _ x hj
  refine ⟨cs, h3, fun q u hq => ?_, h5⟩
  have := h4 q u hq
  rw [show off + ((k + j) * sz + q) = off + k * sz + (j * sz + q) by rw [Nat.add_mul]; omega] at this
  exact this

set_option maxRecDepth 100000 in
set_option maxHeartbeats 3200000 in
theorem ref26_Implied {K : Nat} {s : SkI} {v0 v1 v2 v3 v4 v5 : Value} {w : World} (h : SkAt K w v0 v1 v2 v3 v4 v5 s) (ha : s.arcs.length ≤ 1000) (hcn : s.cons.length ≤ 1000) (hok : OnOK s.cons) :
    Calls Tryz.prog 16 #[.agg #[v0, v1, v2, v3, v4, v5]] w (Ret w fun r w' => ∃ A c, r = .slice A ((impR s).drop s.cons.length).length c ∧ ArrAt 5 (ConR K) w' (.slice A ((impR s).drop s.cons.length).length c) ((impR s).drop s.cons.length)) := by
  obtain ⟨res, hres⟩ : ∃ res, (impR s).drop s.cons.length = res := ⟨_, rfl⟩
  rw [hres]
  have HRES := Lib.hid hres
  clear hres
  obtain ⟨A3, c3, rfl, hl3, hm3⟩ := h.arcs.form
  obtain ⟨A5, c5, rfl, hl5, hm5⟩ := h.cons.form
  have HAR := Lib.hid h.arcs
  have HCN := Lib.hid h.cons
  have HBX := Lib.hid (CellsAt.new w [v0, v1, v2, .slice A3 s.arcs.length c3, v4, .slice A5 s.cons.length c5] 29)
  obtain ⟨w1, hw1⟩ : ∃ w1, w.alloc (.cells #[v0, v1, v2, .slice A3 s.arcs.length c3, v4, .slice A5 s.cons.length c5] 29) = w1 := ⟨_, rfl⟩
  have HE1 : Hid (Ext w w1) := by rw [← hw1]; exact Ext.alloc _ _
  have HB1 : Hid (CellsAt w1 w.heap.size [v0, v1, v2, .slice A3 s.arcs.length c3, v4, .slice A5 s.cons.length c5]) := by rw [← hw1]; exact HBX.out
  have HW1 := Lib.hid hw1
  have HOK := Lib.hid hok
  clear hw1 HBX h hok
  obtain ⟨i0, hi, hz0, hz1, hz2⟩ := info_parts infoCon
  have hE1 := HE1.out
  obtain ⟨y0, y1, y2, y3, y4, y5⟩ := HB1.out.six
  have hr1 := HB1.out.1
  go_enter Tryz.func16, Tryz.ntmps16
  go_upto_region 1 with fail
  rw [HW1.out]
  have HR0 : Hid (RowOf 52 5 (ConR K) w1.heap.size (w1.alloc (.cells #[] 52)) (.slice (some ⟨w1.heap.size, 0, none⟩) 0 0) []) := ⟨[], World.ownsRow_made w1 #[] 0 (Nat.le_refl _) (by unfold maxLen; omega) (by simp), fun k x hk => by simp at hk⟩
  have HS0 : Hid (ArrAt 5 (Off (some w1.heap.size) (ConR K)) (w1.alloc (.cells #[] 52)) (.slice A5 s.cons.length c5) s.cons) := (HCN.out.ext (ConR.stable K) hE1).off (ConR.stable K) (Ext.alloc _ _) (fun r hr => by injection hr with hr; omega)
  go_wp2_with (at_builtin; refine wpList_append_row _ rfl _ _ 27 rfl 52 i0 (.agg #[.int .i64 0, .slice none 0 0, .slice none 0 0, .slice none 0 0, .int .i64 0]) 5 88 Tryz.underlying27 hi hz0 hz1 hz2 rfl (by decide) _ rfl HR0.out _ rfl HS0.out ConR.one (by unfold maxLen; simp; omega) (by simp; omega) (by simp) ?_; intro A c w2 hrow2 hg2 hat2)
  rw [List.nil_append] at *
  have HRW := Lib.hid hrow2
  have HE2 : Hid (Ext w1 w2) := ext_grown hg2 (Ext.alloc _ _) (fun r hr => by have h1 : some w1.heap.size = some r := hr; injection h1 with h1; omega)
  clear HR0 HS0 hrow2 hg2 hat2 y0 y1 y2 y3 y4 y5
  go_loopg [3, 4] s.arcs.length (fun gk v x wr => ∃ (i : Nat) (all : List CI) (A : Option Addr) (c : Nat), v = .slice A all.length c ∧ x = .int .i64 (i : Int) ∧ i + gk = s.arcs.length ∧ s.cons.length ≤ all.length ∧ all.length ≤ s.cons.length + 2 * i ∧ Hid (RowOf 52 5 (ConR K) w1.heap.size wr (.slice A all.length c) all) ∧ Hid ((arcEnds (s.arcs.drop i)).foldl refStep all = impR s) ∧ Hid (OnOK all) ∧ Hid (Ext w1 wr))
  case atStart => exact ⟨0, s.cons, A, c, rfl, rfl, by omega, Nat.le_refl _, by omega, HRW.out, rfl, HOK.out, HE2.out⟩
  case round =>
    clear HRW HE2
    obtain ⟨i, all, A, c, rfl, rfl, hk, hal, hau, HO, HF, HOA, HE⟩ := hrel
    have HB2 := Lib.hid (HB1.out.ext HE.out)
    obtain ⟨y0, y1, y2, y3, y4, y5⟩ := HB2.out.six
    have hE0 := HE.out
    have hEr : Ext w wr := Ext.trans hE1 HE.out
    by_cases hlt : i < s.arcs.length
    · obtain ⟨b, off, rfl, hb, ds, hds, hcell, hR⟩ := HAR.out.at_ hlt
      rw [hR] at hcell
      have q0 : wr.cell? ⟨b, off + i * 4, none⟩ = _ := (hEr.cell (p := ⟨b, off + (i * 4 + 0), none⟩) hb).trans (hcell 0 _ rfl)
      have q1 : wr.cell? ⟨b, off + i * 4 + 1, none⟩ = _ := (hEr.cell (p := ⟨b, off + (i * 4 + 1), none⟩) hb).trans (hcell 1 _ rfl)
      have q2 : wr.cell? ⟨b, off + i * 4 + 2, none⟩ = _ := (hEr.cell (p := ⟨b, off + (i * 4 + 2), none⟩) hb).trans (hcell 2 _ rfl)
      have q3 : wr.cell? ⟨b, off + i * 4 + 3, none⟩ = _ := (hEr.cell (p := ⟨b, off + (i * 4 + 3), none⟩) hb).trans (hcell 3 _ rfl)
      have hz3 : b < wr.heap.size := Nat.lt_of_lt_of_le hb hEr.size
      have i1 : (i : Int) < (s.arcs.length : Int) := by omega
      have i00 : (0 : Int) ≤ (i : Int) := by omega
      have HF1 : Hid ((([(s.arcs[i].a, s.arcs[i].circle), (s.arcs[i].b, s.arcs[i].circle)] : List (Int × Int)) ++ arcEnds (s.arcs.drop (i + 1))).foldl refStep all = impR s) := by
        show _ = _
        rw [← HF.out, List.drop_eq_getElem_cons hlt]
        rfl
      clear hcell hds hR HF
      generalize s.arcs[i].a = pa at *
      generalize s.arcs[i].b = pb at *
      generalize s.arcs[i].circle = pc at *
      generalize s.arcs[i].cw = pw at *
      go_upto_region 7 with fail
      obtain ⟨W2, hW2⟩ : ∃ W2, (wr.alloc (.cells #[.int .i64 pc, .int .i64 pa, .int .i64 pb, .bool pw] 81)).alloc (.cells #[.int .i64 pa, .int .i64 pb] 3) = W2 := ⟨_, rfl⟩
      have HGA : Hid (CellsAt W2 wr.heap.size [.int .i64 pc, .int .i64 pa, .int .i64 pb, .bool pw]) := by rw [← hW2]; exact (CellsAt.new _ _ _).ext (Ext.alloc _ _)
      have HGI : Hid (CellsAt W2 (wr.heap.size + 1) [.int .i64 pa, .int .i64 pb]) := by
        rw [← hW2]
        have := CellsAt.new (wr.alloc (.cells #[.int .i64 pc, .int .i64 pa, .int .i64 pb, .bool pw] 81)) [.int .i64 pa, .int .i64 pb] 3
        rwa [World.size_alloc] at this
      have HX2 : Hid (Ext wr W2) := by rw [← hW2]; exact (Ext.alloc _ _).palloc _
      have HNA : Hid (∀ r, (Value.slice A all.length c).ownBlock = some r → r < wr.heap.size) := fun r hr => (HO.out.lt r hr).2
      rw [hW2]
      clear hW2 y0 y1 y2 y3 y4 y5 q0 q1 q2 q3
      generalize wr.heap.size = ga at *
      go_wp2_with fail
      go_loopg [3, 7] 2 (fun gk2 v x wr2 => ∃ (k : Nat) (all2 : List CI) (A2 : Option Addr) (c2 : Nat), v = .slice A2 all2.length c2 ∧ x = .int .i64 (k : Int) ∧ k + gk2 = 2 ∧ s.cons.length ≤ all2.length ∧ all2.length ≤ s.cons.length + 2 * i + k ∧ Hid (RowOf 52 5 (ConR K) w1.heap.size wr2 (.slice A2 all2.length c2) all2) ∧ Hid ((([(pa, pc), (pb, pc)] : List (Int × Int)).drop k ++ arcEnds (s.arcs.drop (i + 1))).foldl refStep all2 = impR s) ∧ Hid (OnOK all2) ∧ Hid (Ext w1 wr2) ∧ Hid (CellsAt wr2 ga [.int .i64 pc, .int .i64 pa, .int .i64 pb, .bool pw]) ∧ Hid (CellsAt wr2 (ga + 1) [.int .i64 pa, .int .i64 pb]) ∧ Hid (some ga ≠ (Value.slice A2 all2.length c2).ownBlock ∧ some (ga + 1) ≠ (Value.slice A2 all2.length c2).ownBlock))
      case atStart =>
        refine ⟨0, all, A, c, rfl, rfl, by omega, by omega, by omega, HO.out.ext HX2.out, HF1.out, HOA.out, Ext.trans hE0 HX2.out, HGA.out, HGI.out, ?_, ?_⟩
        · intro e; have := HNA.out _ e.symm; omega
        · intro e; have := HNA.out _ e.symm; omega
      case round =>
        clear HO HGA HGI HX2 HNA HF1 HE hE0 hEr HB2 hal hau HOA
        obtain ⟨k, all, A, c, rfl, rfl, hk2, hal, hau, HO, HF, HOA, HE, HGA, HGI, HNE⟩ := hrel
        have HB2 := Lib.hid (HB1.out.ext HE.out)
        obtain ⟨y0, y1, y2, y3, y4, y5⟩ := HB2.out.six
        have hE0 := HE.out
        have hEr : Ext w wr := Ext.trans hE1 HE.out
        by_cases hlt2 : k < 2
        · obtain ⟨p, hp⟩ : ∃ p, Hid (([(pa, pc), (pb, pc)] : List (Int × Int)).drop k = (p, pc) :: ([(pa, pc), (pb, pc)] : List (Int × Int)).drop (k + 1)) ∧ Hid (wr.cell? ⟨ga + 1, k, none⟩ = some (.int .i64 p)) := by
            match k, hlt2 with
            | 0, _ => exact ⟨pa, rfl, HGI.out.2 0 _ rfl⟩
            | 1, _ => exact ⟨pb, rfl, HGI.out.2 1 _ rfl⟩
          obtain ⟨HD, HQK⟩ := hp
          have k1 : (k : Int) < 2 := by omega
          have k0 : (0 : Int) ≤ (k : Int) := by omega
          have hz4 : ga < wr.heap.size := HGA.out.1
          have hz5 : ga + 1 < wr.heap.size := HGI.out.1
          have HF2 : Hid ((([(pa, pc), (pb, pc)] : List (Int × Int)).drop (k + 1) ++ arcEnds (s.arcs.drop (i + 1))).foldl refStep (refStep all (p, pc)) = impR s) := by
            show _ = _
            rw [← HF.out, HD.out]
            rfl
          have HLT : Hid (∀ r, (Value.slice A all.length c).ownBlock = some r → r < wr.heap.size) := fun r hr => (HO.out.lt r hr).2
          have HAA := Lib.hid (HO.out.arr (by omega))
          have HST : Hid (refStep all (p, pc) = if all.any (fun c => onB c p pc) then all else all ++ [onC (p, pc)]) := rfl
          clear HF HD
          go_wp2_with fail
          clear y0 y1 y2 y3 y4 y5
          obtain ⟨wm, rfl⟩ : ∃ wm : World, wm = wr := ⟨wr, rfl⟩
          go_loopg [8, 9] all.length (fun gk3 f x wr3 => ∃ (j : Nat) (fd : Bool), f = .bool fd ∧ x = .int .i64 (j : Int) ∧ j + gk3 = all.length ∧ Hid ((fd || (all.drop j).any (fun c => onB c p pc)) = all.any (fun c => onB c p pc)) ∧ Hid (Ext wm wr3))
          case atStart => exact ⟨0, false, rfl, rfl, by omega, rfl, Ext.refl _⟩
          case round =>
            obtain ⟨j, fd, rfl, rfl, hj, HM, HEJ⟩ := hrel
            have hEJ := HEJ.out
            by_cases hltj : j < all.length
            · obtain ⟨b', off', rfl, hb', ds, hds, hcell, pv, cv, vv, rfl, hp, hc, hv⟩ := HAA.out.at_ hltj
              have j1 : (j : Int) < (all.length : Int) := by omega
              have j0 : (0 : Int) ≤ (j : Int) := by omega
              have HD := Lib.hid (any_drop (p := fun c => onB c p pc) hltj)
              cases fd with
              | true =>
                have HR : Hid ((true || (all.drop (j + 1)).any (fun c => onB c p pc)) = all.any (fun c => onB c p pc)) := by show _ = _; rw [← HM.out]; simp
                clear hcell hp hc hv
                go_wp2_with fail
                go_quiet (fail)
                go_wp2_with fail
                go_roundg (all.length - (j + 1))
                case measure => omega
                case rel => exact ⟨j + 1, true, rfl, by simp, by omega, HR, hEJ.pdrewN _⟩
              | false =>
                obtain ⟨P1, d1, rfl, hp1, hp1'⟩ := hp.form
                obtain ⟨P2, d2, rfl, hp2, hp2'⟩ := hc.form
                obtain ⟨P3, d3, rfl, hp3, hp3'⟩ := hv.form
                have e0 : wr.cell? ⟨b', off' + j * 5, none⟩ = _ := (hEJ.cell (p := ⟨b', off' + (j * 5 + 0), none⟩) hb').trans (hcell 0 _ rfl)
                have e1 : wr.cell? ⟨b', off' + j * 5 + 1, none⟩ = _ := (hEJ.cell (p := ⟨b', off' + (j * 5 + 1), none⟩) hb').trans (hcell 1 _ rfl)
                have e2 : wr.cell? ⟨b', off' + j * 5 + 2, none⟩ = _ := (hEJ.cell (p := ⟨b', off' + (j * 5 + 2), none⟩) hb').trans (hcell 2 _ rfl)
                have e3 : wr.cell? ⟨b', off' + j * 5 + 3, none⟩ = _ := (hEJ.cell (p := ⟨b', off' + (j * 5 + 3), none⟩) hb').trans (hcell 3 _ rfl)
                have e4 : wr.cell? ⟨b', off' + j * 5 + 4, none⟩ = _ := (hEJ.cell (p := ⟨b', off' + (j * 5 + 4), none⟩) hb').trans (hcell 4 _ rfl)
                have t0 := (hEJ.cell (p := ⟨ga + 1, k, none⟩) hz5).trans HQK.out
                have t1 := (hEJ.cell (p := ⟨ga, 0, none⟩) hz4).trans (HGA.out.2 0 _ rfl)
                have HON := Lib.hid (fun w3 (hx : Ext wm w3) => ref26_on (p := p) (q := pc) (hp.ext IntR.stable hx) (hc.ext IntR.stable hx) (hv.ext (ExprR.stable K) hx) (HOA.out all[j] (List.getElem_mem hltj)))
                have HR : Hid ((onB all[j] p pc || (all.drop (j + 1)).any (fun c => onB c p pc)) = all.any (fun c => onB c p pc)) := by show _ = _; rw [← HM.out, HD.out]; simp
                clear hcell hp hc hv HD
                generalize onB all[j] p pc = ob at *
                generalize all[j].points.length = l1 at *
                generalize all[j].circles.length = l2 at *
                generalize all[j].values.length = l3 at *
                generalize all[j].kind = kd at *
                generalize all[j].side = sd at *
                go_wp2_with fail
                have hbr : b' < wr.heap.size := Nat.lt_of_lt_of_le hb' hEJ.size
                have hg4 : ga < wr.heap.size := Nat.lt_of_lt_of_le hz4 hEJ.size
                have hg5 : ga + 1 < wr.heap.size := Nat.lt_of_lt_of_le hz5 hEJ.size
                go_region_held3 (fun w' => w'.cell? ⟨b', off' + j * 5, none⟩ = some (.int .i64 kd) ∧ w'.cell? ⟨b', off' + j * 5 + 1, none⟩ = some (.slice P1 l1 d1) ∧ w'.cell? ⟨b', off' + j * 5 + 2, none⟩ = some (.slice P2 l2 d2) ∧ w'.cell? ⟨b', off' + j * 5 + 3, none⟩ = some (.slice P3 l3 d3) ∧ w'.cell? ⟨b', off' + j * 5 + 4, none⟩ = some (.int .i64 sd) ∧ w'.cell? ⟨ga + 1, k, none⟩ = some (.int .i64 p) ∧ w'.cell? ⟨ga, 0, none⟩ = some (.int .i64 pc)) (first | (exact ⟨f0, f1, f2, f3, f4, f5, f6⟩) | (exact ⟨e0, e1, e2, e3, e4, t0, t1⟩) | (go_keep))
                  (first
                    | (go_at_call 61; refine (HON.out _ ?_).mono ?_; (exact (by repeat (first | exact Ext.refl _ | assumption | refine Ext.pdrewN ?_ _ | refine Ext.pdrew ?_ | refine Ext.palloc ?_ _ | refine Ext.pset ?_ (by simp <;> omega) _ | refine Ext.trans ?_ (by assumption)))); rintro e w2 ⟨rfl, hx2⟩; have hxx : Ext wr w2 := (by repeat (first | exact Ext.refl _ | assumption | refine Ext.pdrewN ?_ _ | refine Ext.pdrew ?_ | refine Ext.palloc ?_ _ | refine Ext.pset ?_ (by simp <;> omega) _ | refine Ext.trans ?_ (by assumption))); have f0 := (hxx.cell (p := ⟨b', off' + j * 5, none⟩) hbr).trans e0; have f1 := (hxx.cell (p := ⟨b', off' + j * 5 + 1, none⟩) hbr).trans e1; have f2 := (hxx.cell (p := ⟨b', off' + j * 5 + 2, none⟩) hbr).trans e2; have f3 := (hxx.cell (p := ⟨b', off' + j * 5 + 3, none⟩) hbr).trans e3; have f4 := (hxx.cell (p := ⟨b', off' + j * 5 + 4, none⟩) hbr).trans e4; have f5 := (hxx.cell (p := ⟨ga + 1, k, none⟩) hg5).trans t0; have f6 := (hxx.cell (p := ⟨ga, 0, none⟩) hg4).trans t1))
                go_wp2_with fail
                go_roundg (all.length - (j + 1))
                case measure => omega
                case rel => exact ⟨j + 1, ob, rfl, by simp, by omega, HR, (by repeat (first | exact Ext.refl _ | assumption | refine Ext.pdrewN ?_ _ | refine Ext.pdrew ?_ | refine Ext.palloc ?_ _ | refine Ext.pset ?_ (by simp <;> omega) _ | refine Ext.trans ?_ (by assumption)))⟩
            · have HMM : Hid (fd = all.any (fun c => onB c p pc)) := by show _ = _; rw [← HM.out, List.drop_eq_nil_of_le (by omega)]; simp
              clear HM HAA
              cases fd with
              | true =>
                have HS2 : Hid (refStep all (p, pc) = all) := by show _ = _; rw [HST.out, ← HMM.out]; rfl
                rw [HS2.out] at HF2
                go_wp2_with fail
                go_roundg (2 - (k + 1))
                case measure => omega
                case rel => exact ⟨k + 1, all, A, c, rfl, by simp, by omega, by omega, by omega, HO.out.ext hEJ, HF2.out, HOA.out, Ext.trans hE0 hEJ, HGA.out.ext hEJ, HGI.out.ext hEJ, HNE.out⟩
              | false =>
                have HS2 : Hid (refStep all (p, pc) = all ++ [onC (p, pc)]) := by show _ = _; rw [HST.out, ← HMM.out]; rfl
                rw [HS2.out] at HF2
                have t0 := (hEJ.cell (p := ⟨ga + 1, k, none⟩) hz5).trans HQK.out
                have t1 := (hEJ.cell (p := ⟨ga, 0, none⟩) hz4).trans (HGA.out.2 0 _ rfl)
                have hg4 : ga < wr.heap.size := Nat.lt_of_lt_of_le hz4 hEJ.size
                have hg5 : ga + 1 < wr.heap.size := Nat.lt_of_lt_of_le hz5 hEJ.size
                have HOX := Lib.hid (HO.out.ext hEJ)
                have hE5 : Ext w1 wr := Ext.trans hE0 hEJ
                have HLR : Hid (∀ r, (Value.slice A all.length c).ownBlock = some r → r < wr.heap.size) := fun r hr => (HOX.out.lt r hr).2
                go_upto_region 16 with fail
                go_region_law (first
                  | (refine step_append_row _ (by rfl) _ _ 27 (by rfl) 52 i0 (.agg #[.int .i64 0, .slice none 0 0, .slice none 0 0, .slice none 0 0, .int .i64 0]) 5 88 Tryz.underlying27 hi hz0 hz1 hz2 (by rfl) (by decide) _ (by rfl) (HOX.out.ext (by repeat (first | exact Ext.refl _ | assumption | refine Ext.pdrewN ?_ _ | refine Ext.pdrew ?_ | refine Ext.palloc ?_ _ | refine Ext.pset ?_ (by simp <;> omega) _ | refine Ext.trans ?_ (by assumption)))) _ (by rfl) (con_oneA HLR.out) ConR.one (by unfold maxLen; simp; omega) (by simp; omega) (by have := hE5.size; simp; omega) ?_; intro A4 c4 w4 hrow4 hgr4 hat4)
                  | (refine step_append_row _ (by rfl) _ _ 27 (by rfl) 52 i0 (.agg #[.int .i64 0, .slice none 0 0, .slice none 0 0, .slice none 0 0, .int .i64 0]) 5 88 Tryz.underlying27 hi hz0 hz1 hz2 (by rfl) (by decide) _ (by rfl) (HOX.out.ext (by repeat (first | exact Ext.refl _ | assumption | refine Ext.pdrewN ?_ _ | refine Ext.pdrew ?_ | refine Ext.palloc ?_ _ | refine Ext.pset ?_ (by simp <;> omega) _ | refine Ext.trans ?_ (by assumption)))) _ (by rfl) (con_oneB HLR.out) ConR.one (by unfold maxLen; simp; omega) (by simp; omega) (by have := hE5.size; simp; omega) ?_; intro A4 c4 w4 hrow4 hgr4 hat4))
                all_goals
                  have hGA := ((HGA.out.ext hEJ).ext (by repeat (first | exact Ext.refl _ | assumption | refine Ext.pdrewN ?_ _ | refine Ext.pdrew ?_ | refine Ext.palloc ?_ _ | refine Ext.pset ?_ (by simp <;> omega) _ | refine Ext.trans ?_ (by assumption)))).far hgr4 HNE.out.1
                  have hGI := ((HGI.out.ext hEJ).ext (by repeat (first | exact Ext.refl _ | assumption | refine Ext.pdrewN ?_ _ | refine Ext.pdrew ?_ | refine Ext.palloc ?_ _ | refine Ext.pset ?_ (by simp <;> omega) _ | refine Ext.trans ?_ (by assumption)))).far hgr4 HNE.out.2
                  have nGA := ((HGA.out.ext hEJ).ext (by repeat (first | exact Ext.refl _ | assumption | refine Ext.pdrewN ?_ _ | refine Ext.pdrew ?_ | refine Ext.palloc ?_ _ | refine Ext.pset ?_ (by simp <;> omega) _ | refine Ext.trans ?_ (by assumption)))).ne_own' HNE.out.1 hat4
                  have nGI := ((HGI.out.ext hEJ).ext (by repeat (first | exact Ext.refl _ | assumption | refine Ext.pdrewN ?_ _ | refine Ext.pdrew ?_ | refine Ext.palloc ?_ _ | refine Ext.pset ?_ (by simp <;> omega) _ | refine Ext.trans ?_ (by assumption)))).ne_own' HNE.out.2 hat4
                  have hE6 := ext_grown hgr4 (hE5.trans (by repeat (first | exact Ext.refl _ | assumption | refine Ext.pdrewN ?_ _ | refine Ext.pdrew ?_ | refine Ext.palloc ?_ _ | refine Ext.pset ?_ (by simp <;> omega) _ | refine Ext.trans ?_ (by assumption)))) (fun r hr => (HOX.out.lt r hr).1)
                  go_wp2_with fail
                  go_roundg (2 - (k + 1))
                  case measure => omega
                  case rel => exact ⟨k + 1, all ++ [onC (p, pc)], A4, c4, by simp, by simp, by omega, by simp; omega, by simp; omega, hrow4, HF2.out, HOA.out.snoc _, hE6, hGA, hGI, nGA, nGI⟩
        · obtain rfl : k = 2 := by omega
          go_wp2_with fail
          go_roundg (s.arcs.length - (i + 1))
          case measure => omega
          case rel => exact ⟨i + 1, all, A, c, rfl, by simp, by omega, by omega, by omega, HO.out, HF.out, HOA.out, HE.out⟩
    · have HU : Hid (all = impR s) := by show _ = _; rw [← HF.out, List.drop_eq_nil_of_le (by omega)]; rfl
      have HAA := Lib.hid (HO.out.arr (by omega))
      obtain ⟨xs, ho, -⟩ := HO.out
      rcases ho.2 with ⟨hv, hn⟩ | ⟨g, cap, cur, hv, -, -, hcp, hcm, -⟩
      · obtain ⟨rfl, rfl⟩ : A = none ∧ c = 0 := by injection hv with h1 h2 h3; exact ⟨h1, h3⟩
        have HN : Hid (res = []) := by show _ = _; rw [← HRES.out, ← HU.out]; exact List.drop_eq_nil_of_le (by omega)
        have hs0 : s.cons.length = 0 := by omega
        have e0 : Value.slice none 0 0 = .slice none res.length 0 := by rw [HN.out]; rfl
        have e1 : Hid (ArrAt 5 (ConR K) wr (.slice none res.length 0) res) := by rw [HN.out]; exact ArrAt.nil
        clear ho hv
        have E0 := Lib.hid e0
        have hce : s.cons = [] := List.eq_nil_of_length_eq_zero hs0
        clear e0
        go_wp2_with fail
        go_ret
        exact ⟨_, rfl, ⟨none, 0, E0.out, e1.out⟩, hEr⟩
      · obtain ⟨rfl, rfl⟩ : A = some ⟨g, 0, none⟩ ∧ c = cap := by injection hv with h1 h2 h3; exact ⟨h1, h3⟩
        clear ho hv
        have n1 : (s.cons.length : Int) ≤ (all.length : Int) := by omega
        by_cases hcc : c = s.cons.length
        · have HN : Hid (res = []) := by show _ = _; rw [← HRES.out, ← HU.out]; exact List.drop_eq_nil_of_le (by omega)
          have E0 : Hid (Value.slice (some ⟨g, 0, none⟩) (all.length - s.cons.length) 0 = .slice (some ⟨g, 0, none⟩) res.length 0) := by show _ = _; rw [HN.out, show all.length - s.cons.length = 0 by omega]; rfl
          have E1 : Hid (ArrAt 5 (ConR K) wr (.slice (some ⟨g, 0, none⟩) res.length 0) res) := by rw [HN.out]; exact ⟨some ⟨g, 0, none⟩, 0, rfl, Nat.le_refl _, by simp, fun h => absurd rfl h⟩
          go_wp2_with fail
          go_ret
          exact ⟨_, rfl, ⟨some ⟨g, 0, none⟩, 0, E0.out, E1.out⟩, hEr⟩
        · have E0 : Hid (Value.slice (some ⟨g, s.cons.length * 5, none⟩) (all.length - s.cons.length) (c - s.cons.length) = .slice (some ⟨g, s.cons.length * 5, none⟩) res.length (c - s.cons.length)) := by show _ = _; rw [← HRES.out, List.length_drop, ← HU.out]
          have E1 : Hid (ArrAt 5 (ConR K) wr (.slice (some ⟨g, s.cons.length * 5, none⟩) res.length (c - s.cons.length)) res) := by
            show ArrAt _ _ _ _ _
            have := HAA.out.drop hal
            rw [Nat.zero_add] at this
            rw [← HRES.out, List.length_drop, ← HU.out]
            exact this
          go_wp2_with fail
          go_ret
          exact ⟨_, rfl, ⟨some ⟨g, s.cons.length * 5, none⟩, c - s.cons.length, E0.out, E1.out⟩, hEr⟩
end Go.Proofs.YtonleohlplkglaaGreatDoor
