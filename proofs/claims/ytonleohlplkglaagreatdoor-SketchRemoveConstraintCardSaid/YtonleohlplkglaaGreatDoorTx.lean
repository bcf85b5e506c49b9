/- Expressions as data; the contract of shape of the reference's layer 22. -/
import Derived.Deep.DeepCutAuto
import Derived.Test.YtonleohlplkglaaGreatDoorTw
namespace Go.Proofs.YtonleohlplkglaaGreatDoor
open Go Go.RowKit

/-- An expression, whatever its fields are. -/
inductive EI where
  | mk (op : Int) (val : QI) (name : ByteArray) (args : List EI)
def EI.op : EI → Int | .mk o _ _ _ => o
def EI.value : EI → QI | .mk _ q _ _ => q
def EI.name : EI → ByteArray | .mk _ _ s _ => s
def EI.args : EI → List EI | .mk _ _ _ l => l

/-- How an expression of at most some depth lies in memory. -/
def ExprR : Nat → World → List Value → EI → Prop
  | 0, _, _, _ => False
  | k + 1, w, cs, e => ∃ u v sl, cs = [.int .i64 e.op, .bool e.value.num.neg, u, .bool e.value.den.neg, v, .string e.name, sl] ∧ Words w u e.value.num.mag ∧ Words w v e.value.den.mag ∧ SliceAt 7 (ExprR k) w sl e.args
theorem ExprR.stable : ∀ k, Stable (ExprR k)
  | 0 => fun _ _ _ _ _ h => h
  | k + 1 => fun w w' cs e hx => by
    rintro ⟨u, v, sl, h1, h2, h3, h4⟩
    exact ⟨u, v, sl, h1, h2.ext hx, h3.ext hx, h4.ext (ExprR.stable k) hx⟩

/-- A block's first cells. -/
def CellsAt (w : World) (g : Nat) (cs : List Value) : Prop := g < w.heap.size ∧ ∀ i v, cs[i]? = some v → w.cell? ⟨g, i, none⟩ = some v
theorem CellsAt.ext {w w' : World} {g : Nat} {cs : List Value} (h : CellsAt w g cs) (hx : Ext w w') : CellsAt w' g cs :=
  ⟨Nat.lt_of_lt_of_le h.1 hx.size, fun i v hi => (hx.cell (p := ⟨g, i, none⟩) h.1).trans (h.2 i v hi)⟩
theorem CellsAt.new (w : World) (cs : List Value) (T : TypeId) : CellsAt (w.alloc (.cells cs.toArray T)) w.heap.size cs :=
  ⟨by simp, fun i v hi => by simp [go_sem, hi]⟩
theorem CellsAt.seven {w : World} {g : Nat} {a b c d e f h : Value} (k : CellsAt w g [a, b, c, d, e, f, h]) :
    w.cell? ⟨g, 0, none⟩ = some a ∧ w.cell? ⟨g, 1, none⟩ = some b ∧ w.cell? ⟨g, 2, none⟩ = some c ∧ w.cell? ⟨g, 3, none⟩ = some d ∧ w.cell? ⟨g, 4, none⟩ = some e ∧ w.cell? ⟨g, 5, none⟩ = some f ∧ w.cell? ⟨g, 6, none⟩ = some h :=
  ⟨k.2 0 _ rfl, k.2 1 _ rfl, k.2 2 _ rfl, k.2 3 _ rfl, k.2 4 _ rfl, k.2 5 _ rfl, k.2 6 _ rfl⟩

def zeroQ (q : QI) : Bool := !q.num.neg && !q.den.neg && decide (q.num.mag.length = 0) && decide (q.den.mag.length = 0)
def shapeOf (op : Int) (q : QI) (s : ByteArray) (n : Nat) : Bool :=
  if op = 1 then q.dec && (decide (s.size = 0) || isName s) && decide (n = 0)
  else if op = 2 then zeroQ q && isName s && decide (n = 0)
  else if op = 3 then zeroQ q && decide (s.size = 0) && decide (n = 1)
  else if op = 4 ∨ op = 5 ∨ op = 6 ∨ op = 7 then zeroQ q && decide (s.size = 0) && decide (n = 2)
  else false

set_option maxRecDepth 100000 in
set_option maxHeartbeats 3200000 in
theorem ref22_shape {op : Int} {q : QI} {s : ByteArray} {A : Option Addr} {n c : Nat} {u v : Value} {w : World} (h : Words w u q.num.mag) (h' : Words w v q.den.mag) (hx : q.num.mag.length ≤ 1000) (hy : q.den.mag.length ≤ 1000) (hs : s.size ≤ 1000000) :
    Calls Tryz.prog 175 #[.agg #[.int .i64 op, .bool q.num.neg, u, .bool q.den.neg, v, .string s, .slice A n c]] w fun e w' => e = .returned (.bool (shapeOf op q s n)) ∧ Ext w w' := by
  obtain ⟨A1, c1, rfl, hc1, hc1'⟩ := h.form
  obtain ⟨A2, c2, rfl, hc2, hc2'⟩ := h'.form
  have HD := Lib.hid (fun w1 (hx' : Ext w w1) => ref22_Decimal (q := q) (h.ext hx') (h'.ext hx') hx hy)
  clear h h'
  have HZ : Hid (zeroQ q = (!q.num.neg && !q.den.neg && decide (q.num.mag.length = 0) && decide (q.den.mag.length = 0))) := rfl
  have HS : Hid (shapeOf op q s n = (if op = 1 then q.dec && (decide (s.size = 0) || isName s) && decide (n = 0)
  else if op = 2 then zeroQ q && isName s && decide (n = 0)
  else if op = 3 then zeroQ q && decide (s.size = 0) && decide (n = 1)
  else if op = 4 ∨ op = 5 ∨ op = 6 ∨ op = 7 then zeroQ q && decide (s.size = 0) && decide (n = 2)
  else false)) := rfl
  generalize q.num.mag.length = l1 at *
  generalize q.den.mag.length = l2 at *
  generalize q.num.neg = b1 at *
  generalize q.den.neg = b2 at *
  generalize zeroQ q = zq at *
  go_enter Tryz.func175, Tryz.ntmps175
  go_upto_region 1 with fail
  go_cut [3] (fun x wx => x = .bool zq ∧ wx = w.alloc (.cells #[.int .i64 op, .bool b1, .slice A1 l1 c1, .bool b2, .slice A2 l2 c2, .string s, .slice A n c] 69))
  case first =>
    have k1 : ((l1 : Int) == 0) = decide (l1 = 0) := by apply Bool.eq_iff_iff.2; simp
    have k2 : ((l2 : Int) == 0) = decide (l2 = 0) := by apply Bool.eq_iff_iff.2; simp
    generalize decide (l1 = 0) = z1 at *
    generalize decide (l2 = 0) = z2 at *
    cases b1
    all_goals cases b2
    all_goals cases z1
    all_goals cases z2
    all_goals go_wp2_with fail
    all_goals go_meet
    all_goals (refine ⟨?_, rfl⟩; rw [HZ.out]; rfl)
  case rest =>
    obtain ⟨rfl, rfl⟩ := hcut
    have hse : s.toList.isEmpty = decide (s.size = 0) := bytes_empty s
    have k0 : ((n : Int) == 0) = decide (n = 0) := by apply Bool.eq_iff_iff.2; simp
    have k1 : ((n : Int) == 1) = decide (n = 1) := by apply Bool.eq_iff_iff.2; simp; omega
    have k2 : ((n : Int) == 2) = decide (n = 2) := by apply Bool.eq_iff_iff.2; simp; omega
    have HNM := Lib.hid (fun w => ref21_IsName s w hs)
    have HBX := Lib.hid (CellsAt.new w [.int .i64 op, .bool b1, .slice A1 l1 c1, .bool b2, .slice A2 l2 c2, .string s, .slice A n c] 69)
    clear HZ
    generalize decide (s.size = 0) = es at *
    generalize isName s = nm at *
    generalize decide (n = 0) = n0 at *
    generalize decide (n = 1) = n1 at *
    generalize decide (n = 2) = n2 at *
    generalize q.dec = dq at *
    by_cases o1 : op = 1
    · have o1' : (op == 1) = true := by simp [o1]
      have HS' : Hid (shapeOf op q s n = (dq && (es || nm) && n0)) := by show _ = _; rw [HS.out, if_pos o1]
      clear o1 HS
      go_wp2_with fail
      refine (HD.out _ (by repeat (first | exact Ext.refl _ | assumption | refine Ext.pdrewN ?_ _ | refine Ext.pdrew ?_ | refine Ext.palloc ?_ _ | refine Ext.pset ?_ (by simp <;> omega) _ | refine Ext.trans ?_ (by assumption)))).mono ?_
      rintro e w1 ⟨⟨t, rfl⟩, hx1⟩
      have hE1 : Ext w w1 := (by repeat (first | exact Ext.refl _ | assumption | refine Ext.pdrewN ?_ _ | refine Ext.pdrew ?_ | refine Ext.palloc ?_ _ | refine Ext.pset ?_ (by simp <;> omega) _ | refine Ext.trans ?_ (by assumption)))
      obtain ⟨y0, y1, y2, y3, y4, y5, y6⟩ := (HBX.out.ext hx1).seven
      clear HD HBX
      cases dq
      · go_wp2_with fail
        refine bodyPost_ret ?_ rfl ⟨by rw [HS'.out]; try rfl, hE1⟩
        simp [results, Tryz.results175, go_sem]
      · cases es
        · go_wp2_with fail
          refine (HNM.out _).mono ?_
          rintro e w2 ⟨rfl, rfl⟩
          cases nm
          · go_wp2_with fail
            refine bodyPost_ret ?_ rfl ⟨by rw [HS'.out]; try rfl, hE1⟩
            simp [results, Tryz.results175, go_sem]
          · cases n0
            all_goals go_wp2_with fail
            all_goals (refine bodyPost_ret ?_ rfl ⟨by rw [HS'.out]; try rfl, hE1⟩; simp [results, Tryz.results175, go_sem])
        · cases n0
          all_goals go_wp2_with fail
          all_goals (refine bodyPost_ret ?_ rfl ⟨by rw [HS'.out]; try rfl, hE1⟩; simp [results, Tryz.results175, go_sem])
    have o1' : (op == 1) = false := by simp [o1]
    clear HD HBX
    by_cases o2 : op = 2
    · have o2' : (op == 2) = true := by simp [o2]
      have HS' : Hid (shapeOf op q s n = (zq && nm && n0)) := by show _ = _; rw [HS.out, if_neg o1, if_pos o2]
      clear o1 o2 HS
      cases zq
      · go_wp2_with fail
        refine bodyPost_ret ?_ rfl ⟨by rw [HS'.out]; try rfl, (Ext.alloc _ _)⟩
        simp [results, Tryz.results175, go_sem]
      · go_wp2_with fail
        refine (HNM.out _).mono ?_
        rintro e w2 ⟨rfl, rfl⟩
        cases nm
        · go_wp2_with fail
          refine bodyPost_ret ?_ rfl ⟨by rw [HS'.out]; try rfl, (Ext.alloc _ _)⟩
          simp [results, Tryz.results175, go_sem]
        · cases n0
          all_goals go_wp2_with fail
          all_goals (refine bodyPost_ret ?_ rfl ⟨by rw [HS'.out]; try rfl, (Ext.alloc _ _)⟩; simp [results, Tryz.results175, go_sem])
    have o2' : (op == 2) = false := by simp [o2]
    by_cases o3 : op = 3
    · have o3' : (op == 3) = true := by simp [o3]
      have HS' : Hid (shapeOf op q s n = (zq && es && n1)) := by show _ = _; rw [HS.out, if_neg o1, if_neg o2, if_pos o3]
      clear o1 o2 o3 HS
      cases zq
      · go_wp2_with fail
        refine bodyPost_ret ?_ rfl ⟨by rw [HS'.out]; try rfl, (Ext.alloc _ _)⟩
        simp [results, Tryz.results175, go_sem]
      · cases es
        · go_wp2_with fail
          refine bodyPost_ret ?_ rfl ⟨by rw [HS'.out]; try rfl, (Ext.alloc _ _)⟩
          simp [results, Tryz.results175, go_sem]
        · cases n1
          all_goals go_wp2_with fail
          all_goals (refine bodyPost_ret ?_ rfl ⟨by rw [HS'.out]; try rfl, (Ext.alloc _ _)⟩; simp [results, Tryz.results175, go_sem])
    have o3' : (op == 3) = false := by simp [o3]
    by_cases o4 : op = 4 ∨ op = 5 ∨ op = 6 ∨ op = 7
    · have HS' : Hid (shapeOf op q s n = (zq && es && n2)) := by show _ = _; rw [HS.out, if_neg o1, if_neg o2, if_neg o3, if_pos o4]
      have o4' : (op == 4) = true ∨ (op == 4) = false ∧ (op == 5) = true ∨ (op == 4) = false ∧ (op == 5) = false ∧ (op == 6) = true ∨ (op == 4) = false ∧ (op == 5) = false ∧ (op == 6) = false ∧ (op == 7) = true := by
        simp only [beq_iff_eq, beq_eq_false_iff_ne, ne_eq]; omega
      clear o1 o2 o3 o4 HS
      cases zq
      · rcases o4' with k4 | ⟨k4, k5⟩ | ⟨k4, k5, k6⟩ | ⟨k4, k5, k6, k7⟩
        all_goals go_wp2_with fail
        all_goals (refine bodyPost_ret ?_ rfl ⟨by rw [HS'.out]; try rfl, (Ext.alloc _ _)⟩; simp [results, Tryz.results175, go_sem])
      · cases es
        · rcases o4' with k4 | ⟨k4, k5⟩ | ⟨k4, k5, k6⟩ | ⟨k4, k5, k6, k7⟩
          all_goals go_wp2_with fail
          all_goals (refine bodyPost_ret ?_ rfl ⟨by rw [HS'.out]; try rfl, (Ext.alloc _ _)⟩; simp [results, Tryz.results175, go_sem])
        · rcases o4' with k4 | ⟨k4, k5⟩ | ⟨k4, k5, k6⟩ | ⟨k4, k5, k6, k7⟩
          all_goals cases n2
          all_goals go_wp2_with fail
          all_goals (refine bodyPost_ret ?_ rfl ⟨by rw [HS'.out]; try rfl, (Ext.alloc _ _)⟩; simp [results, Tryz.results175, go_sem])
    · have HS' : Hid (shapeOf op q s n = false) := by show _ = _; rw [HS.out, if_neg o1, if_neg o2, if_neg o3, if_neg o4]
      obtain ⟨k4, k5, k6, k7⟩ : (op == 4) = false ∧ (op == 5) = false ∧ (op == 6) = false ∧ (op == 7) = false := by
        simp only [beq_eq_false_iff_ne, ne_eq]; omega
      clear o1 o2 o3 o4 HS
      go_wp2_with fail
      refine bodyPost_ret ?_ rfl ⟨by rw [HS'.out]; try rfl, (Ext.alloc _ _)⟩
      simp [results, Tryz.results175, go_sem]
end Go.Proofs.YtonleohlplkglaaGreatDoor
