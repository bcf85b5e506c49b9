/- The tables' blocks out of the row's condition; the contract of the statement's awake. -/
import Derived.Test.YtceobmnljdhkmaaGreatDoorYY
import Derived.Test.YtceobmnljdhkmaaGreatDoorRows
import Derived.Test.YtceobmnljdhkmaaGreatDoorYH
import Derived.Lib.LaidTab
import Derived.Test.YtceobmnljdhkmaaGreatDoorYO
namespace Go.Proofs.YtceobmnljdhkmaaGreatDoor
open Go Go.RowKit Go.Proofs.YtceobmnljdhkmaaGreatDoor.Ev
theorem laid_each {P : Program} {W : World} : ∀ {l : List (String × DataW Unit)} {ps : List MemPlace}, DataW.LaidVars P W l ps → ∀ {n : String} {d : DataW Unit}, (n, d) ∈ l →
  ∃ g t cs fuel p, P.globalNamed n = some g ∧ (P.globals[g]?).map (·.type) = some t ∧ W.var? P n = some cs ∧ DataW.trod (fun _ => ()) P W 0 (fun _ => true) false fuel t cs.toList = some (d, p) ∧ ∀ i, i < cs.size → MemPlace.cell g i ∈ ps
 | [], _, _, n, d, hm => by cases hm
 | (n0, d0) :: r, ps, h, n, d, hm => by
  obtain ⟨g, t, cs, fuel, p, q, h1, h2, h3, h4, h5, rfl⟩ := h
  rcases List.mem_cons.1 hm with e | hm
  ·injection e with e1 e2
   subst e1 e2
   refine ⟨g, t, cs, fuel, p, h1, h2, h3, h4, fun i hi => ?_⟩
   refine List.mem_append.2 (.inl (List.mem_append.2 (.inl ?_)))
   unfold MemPlace.row
   exact List.mem_map.2 ⟨i, List.mem_range.2 hi, by simp⟩
  ·obtain ⟨g', t', cs', fuel', p', g1, g2, g3, g4, g5⟩ := laid_each h5 hm
   exact ⟨g', t', cs', fuel', p', g1, g2, g3, g4, fun i hi => List.mem_append.2 (.inr (g5 i hi))⟩
theorem laid_blk {w : World} (h : laidMetH Tryz.prog Rows.snapConstraintUptoRow.laid w) {n : String} {d : DataW Unit} (hm : (n, d) ∈ (Rows.snapConstraintUptoRow.laid : List (String × DataW Unit))) {g : Nat} (hg : Tryz.prog.globalNamed n = some g) {t : TypeId} (ht : (Tryz.prog.globals[g]?).map (·.type) = some t) (hc : 0 < Tryz.prog.cellsOf t) (hlen : ∀ {fuel : Nat} {cs : List Value} {x : DataW Unit × List MemPlace}, DataW.trod (fun _ => ()) Tryz.prog w 0 (fun _ => true) false fuel t cs = some x → cs.length = Tryz.prog.cellsOf t) :
  ∃ cs el fuel p, w.heap[g]? = some (.cells cs el (0, 0)) ∧ cs.size = Tryz.prog.cellsOf t ∧ DataW.trod (fun _ => ()) Tryz.prog w 0 (fun _ => true) false fuel t cs.toList = some (d, p) := by
 have e : (Rows.snapConstraintUptoRow.laid.filter fun x => x.2.handleName?.isSome) = [] := by kernel_rfl
 unfold laidMetH at h
 rw [e] at h
 obtain ⟨ps, h, -, hfr⟩ := h
 obtain ⟨g', t', cs, fuel, p, h1, h2, h3, h4, h5⟩ := laid_each h hm
 obtain rfl := Option.some.inj (h1.symm.trans hg)
 obtain rfl := Option.some.inj (h2.symm.trans ht)
 have hsz : cs.size = Tryz.prog.cellsOf t' := by rw [← hlen h4, Array.length_toList]
 obtain ⟨⟨c, el, hb⟩, -⟩ := hfr g' 0 (h5 0 (by omega))
 simp only [World.var?, hg, Option.bind_some, hb] at h3
 injection h3 with h3
 subst h3
 exact ⟨c, el, fuel, p, hb, hsz, h4⟩
theorem arr_len {H : Type} {enc : TypeId × Value → H} {P : Program} {w : World} {base : Nat} {sp : Nat → Bool} {held : Bool} {fuel : Nat} {t e : TypeId} {n : Nat} {cs : List Value} {x : DataW H × List MemPlace}
  (ht : P.underlying t = some (.array n e)) (h : DataW.trod enc P w base sp held fuel t cs = some x) : cs.length = P.cellsOf t := by
 cases fuel with
 | zero => simp [DataW.trod] at h
 | succ fuel =>
  simp only [DataW.trod, ht] at h
  split at h
  ·assumption
  ·cases h
theorem arr_elems {H : Type} {enc : TypeId × Value → H} {P : Program} {w : World} {base : Nat} {sp : Nat → Bool} {held : Bool} {fuel : Nat} {t e : TypeId} {n : Nat} {cs : List Value} {x : DataW H × List MemPlace}
  (ht : P.underlying t = some (.array n e)) (h : DataW.trod enc P w base sp held fuel t cs = some x) :
  ∃ (xs : List (DataW H × List MemPlace)) (m : Nat), x.1 = .agg (xs.map (·.1)) ∧ xs.length = n ∧ ∀ i, i < n → ∃ y, xs[i]? = some y ∧ DataW.trod enc P w base sp held m e ((cs.drop (i * P.cellsOf e)).take (P.cellsOf e)) = some y := by
 cases fuel with
 | zero => simp [DataW.trod] at h
 | succ fuel =>
  simp only [DataW.trod, ht] at h
  split at h
  ·obtain ⟨xs, hm, hx⟩ := Option.map_eq_some_iff.1 h
   refine ⟨xs, fuel, by rw [← hx], by simpa using Lib.mapM_length hm, fun i hi => ?_⟩
   obtain ⟨b, hb, hf⟩ := Lib.mapM_at hm i i (by simp [hi])
   exact ⟨b, hb, hf⟩
  ·cases h
/-- The reading of what is laid. -/
noncomputable abbrev TD (w : World) (m : Nat) (t : TypeId) (cs : List Value) : Option (DataW Unit × List MemPlace) := DataW.trod (fun _ => ()) Tryz.prog w 0 (fun _ => true) false m t cs
theorem cEnt : Tryz.prog.cellsOf 171 = 8 := by kernel_rfl
theorem cShp : Tryz.prog.cellsOf 126 = 7 := by kernel_rfl
set_option maxRecDepth 100000 in
theorem ent_rel {w : World} {fuel : Nat} {cs : List Value} {y : DataW Unit × List MemPlace} {nm : List UInt8} {p c n q : Nat} {s b1 b2 : Bool} {Γ : Map}
  (h : TD w fuel 171 cs = some y)
  (hy : y.1 = .agg [.lit (.string nm), .agg [.lit (.int .i64 ((p : Nat) : Int)), .lit (.int .i64 ((c : Nat) : Int)), .lit (.int .i64 ((n : Nat) : Int)), .lit (.int .i64 ((q : Nat) : Int)), .lit (.bool s), .lit (.bool b1), .lit (.bool b2)]]) :
  CRL Γ (ent nm p c n q s b1 b2) cs := by
 obtain ⟨xs, m, rfl, rfl, hl, hxl, hf⟩ := DataW.trod_struct Tryz.underlying171 h
 rw [cEnt] at hl
 obtain ⟨a0, a1, a2, a3, a4, a5, a6, a7, rfl⟩ := eight_of hl
 obtain ⟨x0, x1, rfl⟩ := two_of hxl
 have h0 : TD w m 9 ((([a0, a1, a2, a3, a4, a5, a6, a7] : List Value).drop 0).take (Tryz.prog.cellsOf 9)) = some x0 := by have h := hf 0 _ rfl; exact h
 rw [cStr] at h0
 change TD w m 9 [a0] = some x0 at h0
 have h1 : TD w m 126 ((([a0, a1, a2, a3, a4, a5, a6, a7] : List Value).drop 1).take (Tryz.prog.cellsOf 126)) = some x1 := by have h := hf 1 _ rfl; exact h
 rw [cShp] at h1
 change TD w m 126 [a1, a2, a3, a4, a5, a6, a7] = some x1 at h1
 obtain ⟨s0, e0, rfl, -⟩ := DataW.trod_string Tryz.underlying9 h0
 obtain ⟨ys, m', rfl, rfl, -, hyl, hg⟩ := DataW.trod_struct Tryz.underlying126 h1
 obtain ⟨y0, y1, y2, y3, y4, y5, y6, rfl⟩ := seven_ofX hyl
 have q0 : TD w m' 3 ((([a1, a2, a3, a4, a5, a6, a7] : List Value).drop 0).take (Tryz.prog.cellsOf 3)) = some y0 := by have h := hg 0 _ rfl; exact h
 rw [cInt] at q0
 change TD w m' 3 [a1] = some y0 at q0
 obtain ⟨v0, i0, rfl, -⟩ := DataW.trod_int Tryz.underlying3 q0
 have q1 : TD w m' 3 ((([a1, a2, a3, a4, a5, a6, a7] : List Value).drop 1).take (Tryz.prog.cellsOf 3)) = some y1 := by have h := hg 1 _ rfl; exact h
 rw [cInt] at q1
 change TD w m' 3 [a2] = some y1 at q1
 obtain ⟨v1, i1, rfl, -⟩ := DataW.trod_int Tryz.underlying3 q1
 have q2 : TD w m' 3 ((([a1, a2, a3, a4, a5, a6, a7] : List Value).drop 2).take (Tryz.prog.cellsOf 3)) = some y2 := by have h := hg 2 _ rfl; exact h
 rw [cInt] at q2
 change TD w m' 3 [a3] = some y2 at q2
 obtain ⟨v2, i2, rfl, -⟩ := DataW.trod_int Tryz.underlying3 q2
 have q3 : TD w m' 3 ((([a1, a2, a3, a4, a5, a6, a7] : List Value).drop 3).take (Tryz.prog.cellsOf 3)) = some y3 := by have h := hg 3 _ rfl; exact h
 rw [cInt] at q3
 change TD w m' 3 [a4] = some y3 at q3
 obtain ⟨v3, i3, rfl, -⟩ := DataW.trod_int Tryz.underlying3 q3
 have q4 : TD w m' 4 ((([a1, a2, a3, a4, a5, a6, a7] : List Value).drop 4).take (Tryz.prog.cellsOf 4)) = some y4 := by have h := hg 4 _ rfl; exact h
 rw [cBool] at q4
 change TD w m' 4 [a5] = some y4 at q4
 obtain ⟨v4, i4, rfl⟩ := DataW.trod_bool Tryz.underlying4 q4
 have q5 : TD w m' 4 ((([a1, a2, a3, a4, a5, a6, a7] : List Value).drop 5).take (Tryz.prog.cellsOf 4)) = some y5 := by have h := hg 5 _ rfl; exact h
 rw [cBool] at q5
 change TD w m' 4 [a6] = some y5 at q5
 obtain ⟨v5, i5, rfl⟩ := DataW.trod_bool Tryz.underlying4 q5
 have q6 : TD w m' 4 ((([a1, a2, a3, a4, a5, a6, a7] : List Value).drop 6).take (Tryz.prog.cellsOf 4)) = some y6 := by have h := hg 6 _ rfl; exact h
 rw [cBool] at q6
 change TD w m' 4 [a7] = some y6 at q6
 obtain ⟨v6, i6, rfl⟩ := DataW.trod_bool Tryz.underlying4 q6
 simp only [List.map_cons, List.map_nil, DataW.agg.injEq, List.cons.injEq, DataW.lit.injEq, Lit.string.injEq, Lit.int.injEq, Lit.bool.injEq, true_and, and_true] at hy
 obtain ⟨e9, k1, k2, k3, k4, k5, k6, k7⟩ := hy
 simp only [List.cons.injEq, and_true] at e0 i0 i1 i2 i3 i4 i5 i6
 subst e0 i0 i1 i2 i3 i4 i5 i6 k1 k2 k3 k4 k5 k6 k7
 have e8 : s0 = ⟨nm.toArray⟩ := by
  obtain ⟨s0⟩ := s0
  have : s0 = nm.toArray := by apply Array.ext'; simpa using e9
  rw [this]
 subst e8
 exact .cons (.v ⟨fun _ => by simp, fun _ => by simp⟩) (.cons (.i _ _) (.cons (.i _ _) (.cons (.i _ _) (.cons (.i _ _) (.cons (.b _) (.cons (.b _) (.cons (.b _) .nil)))))))
theorem chunk_rel {Γ : Map} (sz : Nat) : ∀ (Ls : List (List AV)) (cs : List Value), cs.length = Ls.length * sz → (∀ i L, Ls[i]? = some L → CRL Γ L ((cs.drop (i * sz)).take sz)) → CRL Γ Ls.flatten cs
 | [], cs, hl, _ => by
  obtain rfl := List.eq_nil_of_length_eq_zero (by simpa using hl)
  exact .nil
 | L :: Ls, cs, hl, h => by
  have h0 := h 0 L rfl
  rw [Nat.zero_mul, List.drop_zero] at h0
  have hl' : cs.length = Ls.length * sz + sz := by rw [hl, List.length_cons, Nat.succ_mul]
  have ih := chunk_rel sz Ls (cs.drop sz) (by simp; omega) fun i M hM => by
   have := h (i + 1) M (by simpa using hM)
   rw [List.drop_drop, Nat.add_comm sz, ← Nat.succ_mul]
   exact this
  have := h0.app ih
  rw [List.take_append_drop] at this
  exact this
/-- The size of a block. -/
def szB (w : World) (g : Nat) : Nat := match w.heap[g]? with | some (.cells cs _ _) => cs.size | _ => 0
/-- The known tables as they lie in a world. -/
def AwT (w : World) : Prop := ∃ sz : Nat → Nat, ∀ q ∈ gs, q.1 < G0 ∧ q.1 < w.heap.size ∧ BR (Map.own sz) q.2 (sz q.1) w.heap[q.1]?
theorem AwT.ext {w w' : World} (h : AwT w) (hx : Ext w w') : AwT w' := by
 obtain ⟨sz, h⟩ := h
 exact ⟨sz, fun q hq => ⟨(h q hq).1, Nat.lt_of_lt_of_le (h q hq).2.1 hx.size, by rw [hx.block _ (h q hq).2.1]; exact (h q hq).2.2⟩⟩
theorem br_of {w : World} {g : Nat} {cs : Array Value} {el : TypeId} {l : List AV} {Γ : Map} (hb : w.heap[g]? = some (.cells cs el (0, 0))) (h : CRL Γ l cs.toList) : g < w.heap.size ∧ BR Γ ⟨l, true⟩ (szB w g) w.heap[g]? := by
 have hl : l.length = cs.size := by rw [h.length, Array.length_toList]
 have hs : szB w g = cs.size := by unfold szB; rw [hb]
 refine ⟨?_, ⟨cs, el, hb, hs.symm, by show l.length ≤ _; rw [hs, hl]; exact Nat.le_refl _, ?_, fun _ => by rw [hs]; exact hl.symm⟩⟩
 ·rcases Nat.lt_or_ge g w.heap.size with h | h
  ·exact h
  ·rw [Array.getElem?_eq_none h] at hb; cases hb
 ·show CRL Γ l (cs.toList.take l.length)
  rw [hl, ← Array.length_toList, List.take_length]
  exact h
theorem laid_rel {w : World} (h : laidMetH Tryz.prog Rows.snapConstraintUptoRow.laid w) {Γ : Map} : (0 < w.heap.size ∧ BR Γ ⟨tabC, true⟩ (szB w 0) w.heap[0]?) := by
 obtain ⟨cs, el, fuel, p, hb, hs, hd⟩ := laid_blk h (n := "setsquare/constraint.table") (d := Rows.laid_setsquare_constraint_table) (g := 0) (t := 172) (by unfold Rows.snapConstraintUptoRow; simp) (by kernel_rfl) (by kernel_rfl) (by rw [show Tryz.prog.cellsOf 172 = 144 by kernel_rfl]; omega) (fun h => arr_len (n := 18) (e := 171) (by kernel_rfl) h)
 rw [show Tryz.prog.cellsOf 172 = 144 by kernel_rfl] at hs
 obtain ⟨xs, m, hx, hxl, hel⟩ := arr_elems (n := 18) (e := 171) (by kernel_rfl) hd
 refine br_of hb (chunk_rel 8 entL cs.toList (by rw [Array.length_toList, hs]; rfl) fun i L hL => ?_)
 have hi : i < 18 := by
  have := (List.getElem?_eq_some_iff.1 hL).1
  simpa [entL] using this
 obtain ⟨y, hy, ht⟩ := hel i hi
 rw [cEnt] at ht
 have hy1 : (xs.map (·.1))[i]? = some y.1 := by rw [List.getElem?_map, hy]; rfl
 have e0 : xs.map (·.1) = (match (Rows.laid_setsquare_constraint_table : DataW Unit) with | .agg l => l | _ => []) := by
  have : Rows.laid_setsquare_constraint_table = (.agg (xs.map (·.1)) : DataW Unit) := hx
  rw [this]
 rw [e0] at hy1
 have : i = 0 ∨ i = 1 ∨ i = 2 ∨ i = 3 ∨ i = 4 ∨ i = 5 ∨ i = 6 ∨ i = 7 ∨ i = 8 ∨ i = 9 ∨ i = 10 ∨ i = 11 ∨ i = 12 ∨ i = 13 ∨ i = 14 ∨ i = 15 ∨ i = 16 ∨ i = 17 := by omega
 rcases this with rfl | rfl | rfl | rfl | rfl | rfl | rfl | rfl | rfl | rfl | rfl | rfl | rfl | rfl | rfl | rfl | rfl | rfl
 all_goals
  obtain rfl := Option.some.inj hL
  exact ent_rel ht (Option.some.inj hy1).symm
theorem laid_aw {w : World} (h : laidMetH Tryz.prog Rows.snapConstraintUptoRow.laid w) : AwT w := by
 refine ⟨szB w, fun q hq => ?_⟩
 simp only [gs, List.mem_cons, List.not_mem_nil, or_false] at hq
 rcases hq with rfl
 exact ⟨by decide, laid_rel h⟩
theorem law_awake46 {w : World} (h : AwT w) : Calls Tryz.prog 4 #[] w fun e w' => e = .returned (.bool true) ∧ Ext w w' := by
 obtain ⟨sz, hg⟩ := h
 have hrun : run Tryz.prog prs 22000000 4 [] (stG gs) kT = some (.b true, stZ) := by rw [← runB_eq]; exact awake_run
 refine run_ok (vs := []) mixedO prs_ok funs hrun (startSim hg) .nil _ fun av st' v w' Γ' hk hgr hc => ?_
 obtain ⟨b, rfl, hk⟩ := asB_spec hk
 obtain ⟨rfl, -⟩ := ifK_yes hk
 refine ⟨by rw [hc.inv_b], ⟨hgr.os, hgr.tape, hgr.output, hgr.size, fun q hq => hgr.frame q hq fun id b s hl hro _ => ?_⟩⟩
 have hl2 : Tr.find id (tabs gs) = some b := hl.2
 obtain ⟨g, h1, rfl⟩ := tabs_find hl2
 have hro : G0 + 1 ≤ (gid g).nat := hro
 rw [gid_nat] at hro
 have := (hg _ h1).1
 omega
#print axioms law_awake46
end Go.Proofs.YtceobmnljdhkmaaGreatDoor
namespace Go.Proofs.YtceobmnljdhkmaaGreatDoor
open Go Go.RowKit Go.Proofs.YtceobmnljdhkmaaGreatDoor.Ev
theorem br_cell {Γ : Map} {w : World} {g s : Nat} {l : List AV} (h : BR Γ ⟨l, true⟩ s w.heap[g]?) {j : Nat} {a : AV} (ha : l[j]? = some a) : ∃ v, w.cell? ⟨g, j, none⟩ = some v ∧ CR Γ a v := by
 obtain ⟨cs, el, hb, -, -, hl, -⟩ := h
 have hlt : j < l.length := (List.getElem?_eq_some_iff.1 ha).1
 obtain ⟨v, hv, hc⟩ := CRL.get hl ha
 refine ⟨v, ?_, hc⟩
 have hv' : cs.toList[j]? = some v := by
  have hv : (cs.toList.take l.length)[j]? = some v := hv
  rw [List.getElem?_take, if_pos hlt] at hv
  exact hv
 simp only [World.cell?, hb]
 simpa using hv'
/-- The kinds of the values of a row, as they lie. -/
def bools : List (Bool × Bool) := [(true, false), (true, true), (false, false), (true, true), (false, false), (false, false), (false, false), (false, false), (false, false), (false, false), (false, false), (false, false), (false, false), (true, true), (false, false), (false, false), (false, false)]
def avB : AV → Value → Bool
 | .i k n, .int k' z => decide (k = k') && decide (((n : Nat) : Int) = z)
 | .b x, .bool y => decide (x = y)
 | _, _ => false
theorem avB_ok {Γ : Map} {a : AV} {u v : Value} (h : avB a u = true) (hc : CR Γ a v) : v = u := by
 unfold avB at h
 split at h
 ·simp only [Bool.and_eq_true, decide_eq_true_eq] at h
  obtain ⟨rfl, rfl⟩ := h
  exact hc.inv_i
 ·simp only [decide_eq_true_eq] at h
  subst h
  exact hc.inv_b
 ·cases h
def rowB (k : Nat) : Bool := match kTab[k]?, bools[k]? with
 | some r, some b => (List.range 7).all fun j => match (r.shape b.1 b.2)[j]?, tabC[(k + 1) * 8 + 1 + j]? with
  | some u, some a => avB a u
  | _, _ => false
 | _, _ => false
theorem rows_ok : (List.range 17).all rowB = true := by decide +kernel
theorem laid_glk {w : World} (h : laidMetH Tryz.prog Rows.snapConstraintUptoRow.laid w) : GLk w := by
 obtain ⟨hz, hb⟩ := laid_rel h (Γ := Map.own fun _ => 0)
 refine ⟨?_, fun k r hr => ?_⟩
 ·obtain ⟨cs, el, fuel, p, hb, -⟩ := laid_blk h (n := "internal/strconv.uint64pow10") (d := Rows.laid_internal_strconv_uint64pow10) (g := 2) (t := 341) (by unfold Rows.snapConstraintUptoRow; simp) (by kernel_rfl) (by kernel_rfl) (by rw [show Tryz.prog.cellsOf 341 = 20 by kernel_rfl]; omega) (fun h => arr_len (n := 20) (e := 135) (by kernel_rfl) h)
  have : 2 < w.heap.size := by
   rcases Nat.lt_or_ge 2 w.heap.size with h | h
   ·exact h
   ·rw [Array.getElem?_eq_none h] at hb; cases hb
  omega
 ·have hk : k < 17 := by
   have := (List.getElem?_eq_some_iff.1 hr).1
   simpa [kTab] using this
  have h1 := List.all_eq_true.1 rows_ok k (List.mem_range.2 hk)
  unfold rowB at h1
  rw [hr] at h1
  cases hbk : bools[k]? with
  | none => rw [hbk] at h1; cases h1
  | some b =>
   rw [hbk] at h1
   refine ⟨b.1, b.2, fun j u hj => ?_⟩
   have hj7 : j < 7 := by
    have := (List.getElem?_eq_some_iff.1 hj).1
    simpa [KR.shape] using this
   have h2 := List.all_eq_true.1 h1 j (List.mem_range.2 hj7)
   simp only [hj] at h2
   cases ha : tabC[(k + 1) * 8 + 1 + j]? with
   | none => rw [ha] at h2; cases h2
   | some a =>
    rw [ha] at h2
    obtain ⟨v, hv, hc⟩ := br_cell hb ha
    rw [hv, avB_ok h2 hc]
end Go.Proofs.YtceobmnljdhkmaaGreatDoor
