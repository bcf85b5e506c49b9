/- What the bulk of an argument that is a sketch bounds: the lengths of its numbers, names and lists (the constants: see fill.py, BIG). -/
import Derived.Test.YtceobmnljdhkmaaGreatDoorYH
import Derived.Test.YtceobmnljdhkmaaGreatDoorRows
import Derived.Test.YtceobmnljdhkmaaGreatDoorYO
namespace Go.Proofs.YtceobmnljdhkmaaGreatDoor
open Go Go.RowKit Go.ChangeShapes Go.WideShapes Go.Deep
section
variable {H : Type} {enc : TypeId × Value → H} {w : World}
theorem bulk_one (d : DataW H) : 1 ≤ Rows.uptoBulk d := by
 cases d with
 | lit l => cases l <;> simp [Rows.uptoBulk]
 | nil => simp [Rows.uptoBulk]
 | ptr d => simp [Rows.uptoBulk]
 | slice elems spare => simp [Rows.uptoBulk]
 | agg parts => simp [Rows.uptoBulk]
 | iface t d => simp [Rows.uptoBulk]
 | map entries => simp [Rows.uptoBulk]
 | held h => simp [Rows.uptoBulk]
theorem bulk_part {d : DataW H} {l : List (DataW H)} (h : d ∈ l) : Rows.uptoBulk d ≤ Rows.uptoBulkAll l := by
 induction l with
 | nil => cases h
 | cons x r ih =>
  simp only [Rows.uptoBulkAll]
  cases List.mem_cons.1 h with
  | inl e => subst e; omega
  | inr e => have := ih e; omega
theorem bulk_len (l : List (DataW H)) : l.length ≤ Rows.uptoBulkAll l := by
 induction l with
 | nil => simp [Rows.uptoBulkAll]
 | cons x r ih => have := bulk_one x; simp only [Rows.uptoBulkAll, List.length_cons]; omega
theorem bulk_slice {t e : TypeId} {n l c : Nat} {A : Option Addr} {x : DataW H × List MemPlace} (ht : Tryz.prog.underlying t = some (.slice e)) (h : TR enc w n t [.slice A l c] = some x) : l + 1 ≤ Rows.uptoBulk x.1 := by
 have key : ∀ cs : List Value, cs = [.slice A l c] → TR enc w n t cs = some x → l + 1 ≤ Rows.uptoBulk x.1 := by
  intro cs hcs h
  rcases DataW.trod_slice ht h with ⟨rfl, -⟩ | ⟨a, len, cap, elems, rest, m, hn, rfl, rfl, -, hl, hm, hlen, hel, hsp, -⟩
  ·simp only [List.cons.injEq, Value.slice.injEq, and_true] at hcs
   have := bulk_one x.1
   omega
  ·simp only [List.cons.injEq, Value.slice.injEq, and_true] at hcs
   have := bulk_len (elems.map (·.1))
   rw [List.length_map] at this
   simp only [Rows.uptoBulk]
   omega
 exact key _ rfl h
theorem bulk_each {α : Type} {t e : TypeId} {sz n : Nat} {v : Value} {xs : List α} {R : World → List Value → α → Prop} {x : DataW H × List MemPlace} (ht : Tryz.prog.underlying t = some (.slice e)) (hc : Tryz.prog.cellsOf e = sz) (h : TR enc w n t [v] = some x) (hA : ArrAt sz R w v xs) :
  ∀ p ∈ xs, ∃ m ds y, m < n ∧ R w ds p ∧ TR enc w m e ds = some y ∧ Rows.uptoBulk y.1 + 1 ≤ Rows.uptoBulk x.1 := by
 intro p hp
 obtain ⟨A, c, hv, hl0, hm0, hel0⟩ := hA
 subst hv
 have key : ∀ cs : List Value, cs = [.slice A xs.length c] → TR enc w n t cs = some x → ∃ m ds y, m < n ∧ R w ds p ∧ TR enc w m e ds = some y ∧ Rows.uptoBulk y.1 + 1 ≤ Rows.uptoBulk x.1 := by
  intro cs hcs h
  have hne : xs ≠ [] := by rintro rfl; cases hp
  rcases DataW.trod_slice ht h with ⟨rfl, -⟩ | ⟨a, len, cap, elems, rest, m, hn, rfl, rfl, -, hl, hm, hlen, hel, hsp, -⟩
  ·simp only [List.cons.injEq, Value.slice.injEq, and_true] at hcs
   exact absurd (List.length_eq_zero_iff.1 hcs.2.1.symm) hne
  ·simp only [List.cons.injEq, Value.slice.injEq, and_true] at hcs
   obtain ⟨b, off, hA, hb, hk⟩ := hel0 hne
   obtain ⟨k, hkp⟩ := List.getElem?_of_mem hp
   have hkl : k < xs.length := (List.getElem?_eq_some_iff.1 hkp).1
   obtain ⟨ds, d1, d2, d3⟩ := hk k p hkp
   have h1 := hel k (by omega)
   rw [hc, List.getElem?_eq_getElem (by omega)] at h1
   obtain ⟨ds', h2, h3⟩ := Option.bind_eq_some_iff.1 h1
   obtain ⟨-, h5, h6⟩ := World.cells?_some h2
   have ha : a = ⟨b, off, none⟩ := by
    have := hcs.1
    rw [hA] at this
    injection this
   have hds : ds' = ds := by
    apply List.ext_getElem (by omega)
    intro j hj1 hj2
    have e1 := d2 j _ (List.getElem?_eq_getElem hj2)
    have e2 := h6 j (by omega)
    rw [ha, add_add, Addr.add_lit, e1, List.getElem?_eq_getElem hj1] at e2
    exact (Option.some.inj e2).symm
   rw [hds] at h3
   refine ⟨m, ds, _, by omega, d3, h3, ?_⟩
   have hmem : elems[k].1 ∈ elems.map (·.1) := List.mem_map.2 ⟨_, List.getElem_mem _, rfl⟩
   have := bulk_part hmem
   simp only [Rows.uptoBulk]
   omega
 exact key _ rfl h
theorem z_bulk {n : Nat} {s : Bool} {A : Option Addr} {l c : Nat} {x : DataW H × List MemPlace} (h : TR enc w n 55 [.bool s, .slice A l c] = some x) : l ≤ Rows.uptoBulk x.1 := by
 obtain ⟨xs, m, rfl, rfl, hl, hxl, hf⟩ := DataW.trod_struct Tryz.underlying55 h
 obtain ⟨x0, x1, rfl⟩ := two_of hxl
 generalize ha : Value.bool s = a at *
 generalize hb : Value.slice A l c = b at *
 have h0 : TR enc w m 4 ((([a, b] : List Value).drop 0).take (Tryz.prog.cellsOf 4)) = some x0 := by have h := hf 0 _ rfl; exact h
 rw [cBool] at h0
 change TR enc w m 4 [a] = some x0 at h0
 have h1 : TR enc w m 53 ((([a, b] : List Value).drop 1).take (Tryz.prog.cellsOf 53)) = some x1 := by have h := hf 1 _ rfl; exact h
 rw [cWords] at h1
 change TR enc w m 53 [b] = some x1 at h1
 subst hb
 have := bulk_slice Tryz.underlying53 h1
 simp only [Rows.uptoBulk, Rows.uptoBulkAll, List.map_cons, List.map_nil]
 omega
theorem q_bulk {n : Nat} {s s' : Bool} {A A' : Option Addr} {l c l' c' : Nat} {x : DataW H × List MemPlace} (h : TR enc w n 57 [.bool s, .slice A l c, .bool s', .slice A' l' c'] = some x) : l ≤ Rows.uptoBulk x.1 ∧ l' ≤ Rows.uptoBulk x.1 := by
 obtain ⟨xs, m, rfl, rfl, hl, hxl, hf⟩ := DataW.trod_struct Tryz.underlying57 h
 obtain ⟨x0, x1, rfl⟩ := two_of hxl
 generalize ha : Value.bool s = a at *
 generalize hb : Value.slice A l c = b at *
 generalize hc : Value.bool s' = d at *
 generalize hd : Value.slice A' l' c' = e at *
 have h0 : TR enc w m 55 ((([a, b, d, e] : List Value).drop 0).take (Tryz.prog.cellsOf 55)) = some x0 := by have h := hf 0 _ rfl; exact h
 rw [cZ] at h0
 change TR enc w m 55 [a, b] = some x0 at h0
 have h1 : TR enc w m 55 ((([a, b, d, e] : List Value).drop 2).take (Tryz.prog.cellsOf 55)) = some x1 := by have h := hf 1 _ rfl; exact h
 rw [cZ] at h1
 change TR enc w m 55 [d, e] = some x1 at h1
 subst ha hb hc hd
 have i0 := z_bulk h0
 have i1 := z_bulk h1
 simp only [Rows.uptoBulk, Rows.uptoBulkAll, List.map_cons, List.map_nil]
 omega
theorem pt_bulk {n : Nat} {cs : List Value} {p : PtI} {x : DataW H × List MemPlace} (h : TR enc w n 71 cs = some x) (hp : PtR w cs p) (hB : Rows.uptoBulk x.1 ≤ 1048576) : p.x.num.mag.length ≤ 1100000 ∧ p.x.den.mag.length ≤ 1100000 ∧ p.y.num.mag.length ≤ 1100000 ∧ p.y.den.mag.length ≤ 1100000 := by
 obtain ⟨u, v, u', v', rfl, w1, w2, w3, w4⟩ := hp
 obtain ⟨B1, d1, rfl, -, -⟩ := w1.form
 obtain ⟨B2, d2, rfl, -, -⟩ := w2.form
 obtain ⟨B3, d3, rfl, -, -⟩ := w3.form
 obtain ⟨B4, d4, rfl, -, -⟩ := w4.form
 obtain ⟨xs, m, rfl, rfl, hl, hxl, hf⟩ := DataW.trod_struct Tryz.underlying71 h
 obtain ⟨x0, x1, rfl⟩ := two_of hxl
 generalize hd1 : Value.bool p.x.num.neg = a0 at *
 generalize hd2 : Value.slice B1 p.x.num.mag.length d1 = a1 at *
 generalize hd3 : Value.bool p.x.den.neg = a2 at *
 generalize hd4 : Value.slice B2 p.x.den.mag.length d2 = a3 at *
 generalize hd5 : Value.bool p.y.num.neg = a4 at *
 generalize hd6 : Value.slice B3 p.y.num.mag.length d3 = a5 at *
 generalize hd7 : Value.bool p.y.den.neg = a6 at *
 generalize hd8 : Value.slice B4 p.y.den.mag.length d4 = a7 at *
 have h0 : TR enc w m 57 ((([a0, a1, a2, a3, a4, a5, a6, a7] : List Value).drop 0).take (Tryz.prog.cellsOf 57)) = some x0 := by have h := hf 0 _ rfl; exact h
 rw [cQ] at h0
 change TR enc w m 57 [a0, a1, a2, a3] = some x0 at h0
 have h1 : TR enc w m 57 ((([a0, a1, a2, a3, a4, a5, a6, a7] : List Value).drop 4).take (Tryz.prog.cellsOf 57)) = some x1 := by have h := hf 1 _ rfl; exact h
 rw [cQ] at h1
 change TR enc w m 57 [a4, a5, a6, a7] = some x1 at h1
 subst hd1 hd2 hd3 hd4 hd5 hd6 hd7 hd8
 have i0 := q_bulk h0
 have i1 := q_bulk h1
 simp only [Rows.uptoBulk, Rows.uptoBulkAll, List.map_cons, List.map_nil] at hB
 omega
theorem rd_bulk {n : Nat} {cs : List Value} {p : RdI} {x : DataW H × List MemPlace} (h : TR enc w n 73 cs = some x) (hp : RdR w cs p) (hB : Rows.uptoBulk x.1 ≤ 1048576) : p.radius.num.mag.length ≤ 1100000 ∧ p.radius.den.mag.length ≤ 1100000 := by
 obtain ⟨u, v, rfl, w1, w2⟩ := hp
 obtain ⟨B1, d1, rfl, -, -⟩ := w1.form
 obtain ⟨B2, d2, rfl, -, -⟩ := w2.form
 obtain ⟨xs, m, rfl, rfl, hl, hxl, hf⟩ := DataW.trod_struct Tryz.underlying73 h
 obtain ⟨x0, x1, rfl⟩ := two_of hxl
 generalize hd0 : Value.int .i64 p.center = a0 at *
 generalize hd1 : Value.bool p.radius.num.neg = a1 at *
 generalize hd2 : Value.slice B1 p.radius.num.mag.length d1 = a2 at *
 generalize hd3 : Value.bool p.radius.den.neg = a3 at *
 generalize hd4 : Value.slice B2 p.radius.den.mag.length d2 = a4 at *
 have h0 : TR enc w m 3 ((([a0, a1, a2, a3, a4] : List Value).drop 0).take (Tryz.prog.cellsOf 3)) = some x0 := by have h := hf 0 _ rfl; exact h
 rw [cInt] at h0
 change TR enc w m 3 [a0] = some x0 at h0
 have h1 : TR enc w m 57 ((([a0, a1, a2, a3, a4] : List Value).drop 1).take (Tryz.prog.cellsOf 57)) = some x1 := by have h := hf 1 _ rfl; exact h
 rw [cQ] at h1
 change TR enc w m 57 [a1, a2, a3, a4] = some x1 at h1
 subst hd1 hd2 hd3 hd4
 have i1 := q_bulk h1
 simp only [Rows.uptoBulk, Rows.uptoBulkAll, List.map_cons, List.map_nil] at hB
 omega
theorem smallE_mono : ∀ {k k' : Nat} {e : EI}, smallE k e → k ≤ k' → smallE k' e
 | 0, _, _, h, _ => h.elim
 | k + 1, 0, _, _, hk => absurd hk (by omega)
 | k + 1, k' + 1, e, ⟨h1, h2, h3, h4, h5⟩, hk => ⟨h1, h2, h3, h4, fun a ha => smallE_mono (h5 a ha) (by omega)⟩
theorem sliceAt_arrB {α : Type} {sz : Nat} {R : World → List Value → α → Prop} {w : World} {v : Value} {xs : List α} (h : SliceAt sz R w v xs) (hl : xs.length ≤ 230000000) : ArrAt sz R w v xs := by
 obtain ⟨A, c, hv, hl0, hm, hc⟩ := h
 exact ⟨A, c, hv, hl0, by omega, hc⟩
theorem ex_bulk : ∀ (n : Nat) {K : Nat} {cs : List Value} {e : EI} {x : DataW H × List MemPlace}, TR enc w n 86 cs = some x → ExprR K w cs e → Rows.uptoBulk x.1 ≤ 1048576 → smallE (Rows.uptoBulk x.1) e := by
 intro n
 induction n using Nat.strongRecOn with
 | _ n ih =>
  intro K cs e x h he hB
  cases K with
  | zero => exact he.elim
  | succ K =>
   obtain ⟨u, v, sl, rfl, hu, hv, hsl⟩ := he
   obtain ⟨B1, d1, rfl, -, -⟩ := hu.form
   obtain ⟨B2, d2, rfl, -, -⟩ := hv.form
   have hsl0 := hsl
   obtain ⟨B3, d3, rfl, -, -, -⟩ := hsl0
   obtain ⟨xs, m, rfl, rfl, hl, hxl, hf⟩ := DataW.trod_struct Tryz.underlying86 h
   obtain ⟨x0, x1, x2, x3, rfl⟩ := four_of hxl
   generalize hd0 : Value.int .i64 e.op = a0 at *
   generalize hd1 : Value.bool e.value.num.neg = a1 at *
   generalize hd2 : Value.slice B1 e.value.num.mag.length d1 = a2 at *
   generalize hd3 : Value.bool e.value.den.neg = a3 at *
   generalize hd4 : Value.slice B2 e.value.den.mag.length d2 = a4 at *
   generalize hd5 : Value.string e.name = a5 at *
   generalize hd6 : Value.slice B3 e.args.length d3 = a6 at *
   have h0 : TR enc w m 3 ((([a0, a1, a2, a3, a4, a5, a6] : List Value).drop 0).take (Tryz.prog.cellsOf 3)) = some x0 := by have h := hf 0 _ rfl; exact h
   rw [cInt] at h0
   change TR enc w m 3 [a0] = some x0 at h0
   have h1 : TR enc w m 57 ((([a0, a1, a2, a3, a4, a5, a6] : List Value).drop 1).take (Tryz.prog.cellsOf 57)) = some x1 := by have h := hf 1 _ rfl; exact h
   rw [cQ] at h1
   change TR enc w m 57 [a1, a2, a3, a4] = some x1 at h1
   have h2 : TR enc w m 9 ((([a0, a1, a2, a3, a4, a5, a6] : List Value).drop 5).take (Tryz.prog.cellsOf 9)) = some x2 := by have h := hf 2 _ rfl; exact h
   rw [cStr] at h2
   change TR enc w m 9 [a5] = some x2 at h2
   have h3 : TR enc w m 43 ((([a0, a1, a2, a3, a4, a5, a6] : List Value).drop 6).take (Tryz.prog.cellsOf 43)) = some x3 := by have h := hf 3 _ rfl; exact h
   rw [cExs] at h3
   change TR enc w m 43 [a6] = some x3 at h3
   subst hd1 hd2 hd3 hd4 hd5
   have i1 := q_bulk h1
   obtain ⟨s2, e2, hs2, -⟩ := DataW.trod_string Tryz.underlying9 h2
   have i3 : e.args.length + 1 ≤ Rows.uptoBulk x3.1 := bulk_slice Tryz.underlying43 (by rw [hd6]; exact h3)
   simp only [List.cons.injEq, Value.string.injEq, and_true] at e2
   have i2 : e.name.size + 1 ≤ Rows.uptoBulk x2.1 := by
    rw [hs2, e2]
    simp [Rows.uptoBulk]
   have hb : Rows.uptoBulk (DataW.agg ([x0, x1, x2, x3].map (·.1))) = Rows.uptoBulk x0.1 + (Rows.uptoBulk x1.1 + (Rows.uptoBulk x2.1 + (Rows.uptoBulk x3.1 + 0))) + 1 := by
    simp only [Rows.uptoBulk, Rows.uptoBulkAll, List.map_cons, List.map_nil]
   have hb' := hb
   change Rows.uptoBulk (DataW.agg ([x0, x1, x2, x3].map (·.1))) ≤ 1048576 at hB
   show smallE (Rows.uptoBulk (DataW.agg ([x0, x1, x2, x3].map (·.1)))) e
   rw [hb] at hB ⊢
   refine ⟨by omega, by omega, by omega, by omega, fun a ha => ?_⟩
   have hA : ArrAt 7 (ExprR K) w a6 e.args := sliceAt_arrB hsl (by omega)
   obtain ⟨m', ds, y, hm', hR, hy, hle⟩ := bulk_each Tryz.underlying43 cEx h3 hA a ha
   exact smallE_mono (ih m' (by omega) hy hR (by omega)) (by omega)
theorem cn_bulk {n K : Nat} {cs : List Value} {c : CI} {x : DataW H × List MemPlace} (h : TR enc w n 45 cs = some x) (hc : ConR K w cs c) (hB : Rows.uptoBulk x.1 ≤ 1048576) : ∀ e ∈ c.values, smallE 1048576 e := by
 obtain ⟨pv, cv, vv, rfl, -, -, hv⟩ := hc
 obtain ⟨xs, m, rfl, rfl, hl, hxl, hf⟩ := DataW.trod_struct Tryz.underlying45 h
 obtain ⟨x0, x1, x2, x3, x4, rfl⟩ := five_of hxl
 generalize hd0 : Value.int .i64 c.kind = a0 at *
 generalize hd1 : Value.int .i64 c.side = a4 at *
 have h0 : TR enc w m 3 ((([a0, pv, cv, vv, a4] : List Value).drop 0).take (Tryz.prog.cellsOf 3)) = some x0 := by have h := hf 0 _ rfl; exact h
 rw [cInt] at h0
 change TR enc w m 3 [a0] = some x0 at h0
 have h1 : TR enc w m 36 ((([a0, pv, cv, vv, a4] : List Value).drop 1).take (Tryz.prog.cellsOf 36)) = some x1 := by have h := hf 1 _ rfl; exact h
 rw [cInts] at h1
 change TR enc w m 36 [pv] = some x1 at h1
 have h2 : TR enc w m 36 ((([a0, pv, cv, vv, a4] : List Value).drop 2).take (Tryz.prog.cellsOf 36)) = some x2 := by have h := hf 2 _ rfl; exact h
 rw [cInts] at h2
 change TR enc w m 36 [cv] = some x2 at h2
 have h3 : TR enc w m 43 ((([a0, pv, cv, vv, a4] : List Value).drop 3).take (Tryz.prog.cellsOf 43)) = some x3 := by have h := hf 3 _ rfl; exact h
 rw [cExs] at h3
 change TR enc w m 43 [vv] = some x3 at h3
 have h4 : TR enc w m 3 ((([a0, pv, cv, vv, a4] : List Value).drop 4).take (Tryz.prog.cellsOf 3)) = some x4 := by have h := hf 4 _ rfl; exact h
 rw [cInt] at h4
 change TR enc w m 3 [a4] = some x4 at h4
 simp only [Rows.uptoBulk, Rows.uptoBulkAll, List.map_cons, List.map_nil] at hB
 intro e he
 obtain ⟨m', ds, y, hm', hR, hy, hle⟩ := bulk_each Tryz.underlying43 cEx h3 hv e he
 exact smallE_mono (ex_bulk m' hy hR (by omega)) (by omega)
theorem sk_bulk {n K : Nat} {s : SkI} {v0 v1 v2 v3 v4 v5 : Value} {x : DataW H × List MemPlace} (h : TR enc w n 29 [v0, v1, v2, v3, v4, v5] = some x) (hs : SkAt K w v0 v1 v2 v3 v4 v5 s) (hB : Rows.uptoBulk x.1 ≤ 1048576) : SmallS 1048576 s := by
 obtain ⟨xs, m, rfl, rfl, hl, hxl, hf⟩ := DataW.trod_struct Tryz.underlying29 h
 obtain ⟨x0, x1, x2, x3, x4, x5, rfl⟩ := six_of hxl
 have h0 : TR enc w m 22 ((([v0, v1, v2, v3, v4, v5] : List Value).drop 0).take (Tryz.prog.cellsOf 22)) = some x0 := by have h := hf 0 _ rfl; exact h
 rw [cSks.1] at h0
 change TR enc w m 22 [v0] = some x0 at h0
 have h1 : TR enc w m 23 ((([v0, v1, v2, v3, v4, v5] : List Value).drop 1).take (Tryz.prog.cellsOf 23)) = some x1 := by have h := hf 1 _ rfl; exact h
 rw [cSks.2.1] at h1
 change TR enc w m 23 [v1] = some x1 at h1
 have h2 : TR enc w m 24 ((([v0, v1, v2, v3, v4, v5] : List Value).drop 2).take (Tryz.prog.cellsOf 24)) = some x2 := by have h := hf 2 _ rfl; exact h
 rw [cSks.2.2.1] at h2
 change TR enc w m 24 [v2] = some x2 at h2
 have h3 : TR enc w m 25 ((([v0, v1, v2, v3, v4, v5] : List Value).drop 3).take (Tryz.prog.cellsOf 25)) = some x3 := by have h := hf 3 _ rfl; exact h
 rw [cSks.2.2.2.1] at h3
 change TR enc w m 25 [v3] = some x3 at h3
 have h4 : TR enc w m 26 ((([v0, v1, v2, v3, v4, v5] : List Value).drop 4).take (Tryz.prog.cellsOf 26)) = some x4 := by have h := hf 4 _ rfl; exact h
 rw [cSks.2.2.2.2.1] at h4
 change TR enc w m 26 [v4] = some x4 at h4
 have h5 : TR enc w m 27 ((([v0, v1, v2, v3, v4, v5] : List Value).drop 5).take (Tryz.prog.cellsOf 27)) = some x5 := by have h := hf 5 _ rfl; exact h
 rw [cSks.2.2.2.2.2] at h5
 change TR enc w m 27 [v5] = some x5 at h5
 simp only [Rows.uptoBulk, Rows.uptoBulkAll, List.map_cons, List.map_nil] at hB
 refine ⟨fun p hp => ?_, fun c hc => ?_, fun c hc => ?_⟩
 ·obtain ⟨m', ds, y, hm', hR, hy, hle⟩ := bulk_each Tryz.underlying22 cPt h0 hs.points p hp
  exact pt_bulk hy hR (by omega)
 ·obtain ⟨m', ds, y, hm', hR, hy, hle⟩ := bulk_each Tryz.underlying23 cRd h1 hs.circles c hc
  exact rd_bulk hy hR (by omega)
 ·obtain ⟨m', ds, y, hm', hR, hy, hle⟩ := bulk_each Tryz.underlying27 cCn h5 hs.cons c hc
  exact cn_bulk hy hR (by omega)
end
end Go.Proofs.YtceobmnljdhkmaaGreatDoor
namespace Go.Proofs.YtceobmnljdhkmaaGreatDoor
open Go Go.RowKit Go.ChangeShapes Go.WideShapes Go.Deep
theorem cVec : Tryz.prog.cellsOf 35 = 4 := by kernel_rfl
theorem cCd : Tryz.prog.cellsOf 38 = 6 := by kernel_rfl
section
variable {H : Type} {enc : TypeId × Value → H} {w : World}
theorem cd_read {n : Nat} {cs : List Value} {x : DataW H × List MemPlace} (h : TR enc w n 38 cs = some x) (hw : Fits (x.1.weights Tryz.prog 38)) : ∃ (rule : Int) (a1 a2 a3 a4 : Value) (A : Option Addr) (c : Nat) (refs : List Int), cs = [.int .i64 rule, a1, a2, a3, a4, .slice A refs.length c] ∧ Ints w (.slice A refs.length c) refs := by
 obtain ⟨xs, m, rfl, rfl, hl, hxl, hf⟩ := DataW.trod_struct Tryz.underlying38 h
 rw [cCd] at hl
 obtain ⟨a0, a1, a2, a3, a4, a5, rfl⟩ := six_of hl
 obtain ⟨x0, x1, x2, rfl⟩ := three_of hxl
 have h0 : TR enc w m 3 ((([a0, a1, a2, a3, a4, a5] : List Value).drop 0).take (Tryz.prog.cellsOf 3)) = some x0 := by have h := hf 0 _ rfl; exact h
 rw [cInt] at h0
 change TR enc w m 3 [a0] = some x0 at h0
 have h1 : TR enc w m 35 ((([a0, a1, a2, a3, a4, a5] : List Value).drop 1).take (Tryz.prog.cellsOf 35)) = some x1 := by have h := hf 1 _ rfl; exact h
 rw [cVec] at h1
 change TR enc w m 35 [a1, a2, a3, a4] = some x1 at h1
 have h2 : TR enc w m 36 ((([a0, a1, a2, a3, a4, a5] : List Value).drop 5).take (Tryz.prog.cellsOf 36)) = some x2 := by have h := hf 2 _ rfl; exact h
 rw [cInts] at h2
 change TR enc w m 36 [a5] = some x2 at h2
 simp only [DataW.weights, Tryz.underlying38, List.map_cons, List.map_nil, DataW.weightsEach] at hw
 obtain ⟨k0, e0⟩ := int_read h0
 obtain ⟨v2, l2, e2, i2⟩ := ints_read h2 hw.right.right.left
 obtain ⟨A, c, rfl, -, -⟩ := i2.form
 simp only [List.cons.injEq, and_true] at e0 e2
 subst e0 e2
 exact ⟨k0, a1, a2, a3, a4, A, c, l2, rfl, i2⟩
end
end Go.Proofs.YtceobmnljdhkmaaGreatDoor
