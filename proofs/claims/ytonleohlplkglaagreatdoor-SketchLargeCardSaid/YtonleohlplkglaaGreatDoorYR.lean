/- The program's Valid of a sketch, of any numbers, out of a contract of decimal. -/
import Derived.Test.YtonleohlplkglaaGreatDoorYP
import Derived.Test.YtonleohlplkglaaGreatDoorYI
import Derived.Test.YtonleohlplkglaaGreatDoorYL
import Derived.Test.YtonleohlplkglaaGreatDoorYO
import Derived.Test.YtonleohlplkglaaGreatDoorRows
import Derived.Lib.LaidTab
namespace Go.Proofs.YtonleohlplkglaaGreatDoor
open Go Go.RowKit
theorem skV_small (hDC : DecC) {K : Nat} (hK : K ≤ 100000) {s : SkI} {v0 v1 v2 v3 v4 v5 : Value} {w : World} (h : SkAt K w v0 v1 v2 v3 v4 v5 s) (hs : SmallS K s) (hgk : GLk w) (hgo : GLo w) : SkV K w v0 v1 v2 v3 v4 v5 s where
 pts := fun p hp => by
  have hh := hs.points p hp
  refine ⟨fun W v v' hW h1 h2 => rat_Valid h1 h2 ?_ ?_, fun W v v' hW h1 h2 => rat_Valid h1 h2 ?_ ?_⟩
  all_goals omega
 rds := fun c hc => by
  have hh := hs.circles c hc
  refine fun W v v' hW h1 h2 => rat_Valid h1 h2 ?_ ?_
  all_goals omega
 sgn := fun W c v v' h => rat_Sign h
 chs := fun W v c hc hW hv => by
  obtain ⟨A, cp, rfl, -, -⟩ := hv.form
  exact sketch_validChain (h.ext hW) hv
 cns := fun W pv cv vv c hc hW hp hcv hv => constraint_Valid hDC K hK hp hcv hv (fun e he => hs.cons c hc e he) (hgk.ext hW) (hgo.ext hW)
theorem sketch_Valid_any (hDC : DecC) {K : Nat} (hK : K ≤ 100000) {s : SkI} {v0 v1 v2 v3 v4 v5 : Value} {w : World} (h : SkAt K w v0 v1 v2 v3 v4 v5 s) (hs : SmallS K s) (hgk : GLk w) (hgo : GLo w) :
  Calls Tryz.prog 12 #[.agg #[v0, v1, v2, v3, v4, v5]] w fun e w' => e = .returned (.int .i64 (errS K s)) ∧ Ext w w' :=
 sketch_Valid h (skV_small hDC hK h hs hgk hgo)
end Go.Proofs.YtonleohlplkglaaGreatDoor
namespace Go.Proofs.YtonleohlplkglaaGreatDoor
open Go Go.RowKit
theorem tabIs_of_vars {P : Program} {W : World} {name : String} {k : IntKind} {zs : List Int} {rest : List (String × DataW Unit)} {ps : List MemPlace} {g : Nat} {t e : TypeId} {n : Nat}
  (hg : P.globalNamed name = some g) (hty : (P.globals[g]?).map (·.type) = some t) (ht : P.underlying t = some (.array n e)) (he : P.underlying e = some (.int k)) (hce : P.cellsOf e = 1) (hct : P.cellsOf t = n)
  (h : DataW.LaidVars P W ((name, Lib.tabData k zs) :: rest) ps) : Lib.TabIs P W name k zs := by
 obtain ⟨g', t', cs, fuel, p, q, hg', ht', hvar, hd, _, _⟩ := h
 obtain rfl := Option.some.inj (hg.symm.trans hg')
 obtain rfl := Option.some.inj (hty.symm.trans ht')
 unfold Lib.TabIs
 rw [hvar, ← Lib.cells_of_tab ht he hce hct hd]
theorem laid_rest {P : Program} {W : World} {x : String × DataW Unit} {rest : List (String × DataW Unit)} {ps : List MemPlace} (h : DataW.LaidVars P W (x :: rest) ps) : ∃ q, DataW.LaidVars P W rest q := by
 obtain ⟨n, d⟩ := x
 obtain ⟨_, _, _, _, _, q, _, _, _, _, h, _⟩ := h
 exact ⟨q, h⟩
theorem laid_vars {w : World} (h : laidMetH Tryz.prog Rows.sketchValidRow.laid w) : ∃ ps, DataW.LaidVars Tryz.prog w Rows.sketchValidRow.laid ps := by
 have e : (Rows.sketchValidRow.laid.filter fun x => x.2.handleName?.isSome) = [] := by kernel_rfl
 unfold laidMetH at h
 rw [e] at h
 obtain ⟨ps, h, _⟩ := h
 exact ⟨ps, h⟩
theorem pow10_lit : Lib.pow10Tab = [1, 10, 100, 1000, 10000, 100000, 1000000, 10000000, 100000000, 1000000000, 10000000000, 100000000000, 1000000000000, 10000000000000, 100000000000000, 1000000000000000, 10000000000000000, 100000000000000000, 1000000000000000000, 10000000000000000000] := by decide
theorem laid_pow {w : World} (h : laidMetH Tryz.prog Rows.sketchValidRow.laid w) : Lib.TabIs Tryz.prog w "internal/strconv.uint64pow10" .u64 Lib.pow10Tab := by
 obtain ⟨p0, h0⟩ := laid_vars h
 obtain ⟨p1, h1⟩ := laid_rest h0
 obtain ⟨p2, h2⟩ := laid_rest h1
 rw [pow10_lit]
 exact tabIs_of_vars (t := 231) (e := 147) (n := 20) (g := 2) (by kernel_rfl) (by kernel_rfl) (by kernel_rfl) (by kernel_rfl) (by kernel_rfl) (by kernel_rfl) h2
theorem laid_ops {w : World} (h : laidMetH Tryz.prog Rows.sketchValidRow.laid w) : GLo w := by
 obtain ⟨p0, h0⟩ := laid_vars h
 obtain ⟨p1, h1⟩ := laid_rest h0
 obtain ⟨p2, h2⟩ := laid_rest h1
 obtain ⟨p3, h3⟩ := laid_rest h2
 have ht := tabIs_of_vars (g := 1) (t := 174) (e := 3) (n := 8) (zs := [0, 0, 0, 1, 2, 2, 2, 2]) (k := .i64) (by kernel_rfl) (by kernel_rfl) (by kernel_rfl) (by kernel_rfl) (by kernel_rfl) (by kernel_rfl) h3
 have hc := fun i hi => Lib.TabIs.cell ht (g := 1) (by kernel_rfl) i hi
 have hc0 := hc 0 (by decide)
 refine ⟨⟨?_, fun j hj => ?_⟩, laid_pow h⟩
 ·exact World.block_lt_of_cell? w _ hc0
 ·match j, hj with
  | 0, _ => exact hc 0 (by decide)
  | 1, _ => exact hc 1 (by decide)
  | 2, _ => exact hc 2 (by decide)
  | 3, _ => exact hc 3 (by decide)
  | 4, _ => exact hc 4 (by decide)
  | 5, _ => exact hc 5 (by decide)
  | 6, _ => exact hc 6 (by decide)
  | 7, _ => exact hc 7 (by decide)
end Go.Proofs.YtonleohlplkglaaGreatDoor
namespace Go.Proofs.YtonleohlplkglaaGreatDoor
open Go Go.RowKit
theorem trod_arr {H : Type} {enc : TypeId × Value → H} {P : Program} {w : World} {base : Nat} {sp : Nat → Bool} {held : Bool} {fuel : Nat} {t e : TypeId} {n : Nat} {cs : List Value} {x : DataW H × List MemPlace}
  (ht : P.underlying t = some (.array n e)) (h : DataW.trod enc P w base sp held fuel t cs = some x) :
  ∃ (xs : List (DataW H × List MemPlace)) (m : Nat), x.1 = .agg (xs.map (·.1)) ∧ xs.length = n ∧ ∀ i, i < n → ∃ y, xs[i]? = some y ∧ DataW.trod enc P w base sp held m e ((cs.drop (i * P.cellsOf e)).take (P.cellsOf e)) = some y := by
 cases fuel with
 | zero => simp [DataW.trod] at h
 | succ fuel =>
  simp only [DataW.trod, ht] at h
  split at h
  ·obtain ⟨xs, hm, hx⟩ := Option.map_eq_some_iff.1 h
   refine ⟨xs, fuel, by rw [← hx], by simpa using Lib.mapM_length hm, fun i hi => ?_⟩
   obtain ⟨b, hb, hf⟩ := Lib.mapM_at hm i i (by simp [hi])
   exact ⟨b, hb, hf⟩
  ·cases h
/-- The types and places of a struct's fields. -/
def fieldsOf (P : Program) (t : TypeId) : List (TypeId × Nat) := match P.underlying t with | some (.struct fs) => fs.toList.map fun f => (f.type, f.offset) | _ => []
theorem struct_at {H : Type} {enc : TypeId × Value → H} {P : Program} {w : World} {base : Nat} {sp : Nat → Bool} {held : Bool} {fuel : Nat} {t : TypeId} {cs : List Value} {x : DataW H × List MemPlace} {fl : List (TypeId × Nat)}
  (hf : fieldsOf P t = fl) (hne : fl ≠ []) (h : DataW.trod enc P w base sp held fuel t cs = some x) :
  ∃ (xs : List (DataW H × List MemPlace)) (m : Nat), x.1 = .agg (xs.map (·.1)) ∧ ∀ (i u o : Nat), fl[i]? = some (u, o) → ∃ y, xs[i]? = some y ∧ DataW.trod enc P w base sp held m u ((cs.drop o).take (P.cellsOf u)) = some y := by
 unfold fieldsOf at hf
 split at hf
 ·rename_i fs hu
  obtain ⟨xs, n, rfl, hx, hl, hlen, hall⟩ := DataW.trod_struct hu h
  refine ⟨xs, n, by rw [hx], fun i u o hi => ?_⟩
  subst hf
  rw [List.getElem?_map, Option.map_eq_some_iff] at hi
  obtain ⟨f, hf1, hf2⟩ := hi
  injection hf2 with e1 e2
  subst e1 e2
  have hf1' : fs[i]? = some f := by simpa using hf1
  have hlt : i < xs.length := by
   rw [hlen]
   exact (Array.getElem?_eq_some_iff.1 hf1').1
  refine ⟨xs[i], List.getElem?_eq_getElem hlt, ?_⟩
  rw [hall i f hf1', List.getElem?_eq_getElem hlt]
 ·exact absurd hf.symm hne
theorem one_cell {cs : List Value} {o : Nat} {v : Value} (h : (cs.drop o).take 1 = [v]) : cs[o]? = some v := by
 have := congrArg (·[0]?) h
 simpa [List.getElem?_take, List.getElem?_drop] using this
set_option maxRecDepth 100000 in
theorem ent_cells {w : World} {base : Nat} {sp : Nat → Bool} {held : Bool} {fuel : Nat} {cs : List Value} {y : DataW Unit × List MemPlace} {nm : List UInt8} {p c n q : Int} {s b1 b2 : Bool}
  (h : DataW.trod (fun _ => ()) Tryz.prog w base sp held fuel 154 cs = some y)
  (hy : y.1 = .agg [.lit (.string nm), .agg [.lit (.int .i64 p), .lit (.int .i64 c), .lit (.int .i64 n), .lit (.int .i64 q), .lit (.bool s), .lit (.bool b1), .lit (.bool b2)]]) :
  ∀ j u, ([.int .i64 p, .int .i64 c, .int .i64 n, .int .i64 q, .bool s, .bool b1, .bool b2] : List Value)[j]? = some u → cs[1 + j]? = some u := by
 obtain ⟨xs, m, hx, hall⟩ := struct_at (fl := [(9, 0), (111, 1)]) (by kernel_rfl) (by simp) h
 obtain ⟨z, hz, hd⟩ := hall 1 _ _ rfl
 have e0 : xs.map (·.1) = [.lit (.string nm), .agg [.lit (.int .i64 p), .lit (.int .i64 c), .lit (.int .i64 n), .lit (.int .i64 q), .lit (.bool s), .lit (.bool b1), .lit (.bool b2)]] := by
  have := hx.symm.trans hy; injection this
 have ez : z.1 = .agg [.lit (.int .i64 p), .lit (.int .i64 c), .lit (.int .i64 n), .lit (.int .i64 q), .lit (.bool s), .lit (.bool b1), .lit (.bool b2)] := by
  have := congrArg (·[1]?) e0
  simpa [hz] using this
 have e7 : Tryz.prog.cellsOf 111 = 7 := by kernel_rfl
 rw [e7] at hd
 obtain ⟨ys, m', hx', hall'⟩ := struct_at (fl := [(3, 0), (3, 1), (3, 2), (3, 3), (4, 4), (4, 5), (4, 6)]) (by kernel_rfl) (by simp) hd
 have e1 : ys.map (·.1) = [.lit (.int .i64 p), .lit (.int .i64 c), .lit (.int .i64 n), .lit (.int .i64 q), .lit (.bool s), .lit (.bool b1), .lit (.bool b2)] := by
  have := hx'.symm.trans ez; injection this
 have hi1 : Tryz.prog.cellsOf 3 = 1 := by kernel_rfl
 have hb1 : Tryz.prog.cellsOf 4 = 1 := by kernel_rfl
 have hI : ∀ (o : Nat) (v : Int), (∃ a, ys[o]? = some a ∧ DataW.trod (fun _ => ()) Tryz.prog w base sp held m' 3 ((((cs.drop 1).take 7).drop o).take (Tryz.prog.cellsOf 3)) = some a) → (ys.map (·.1))[o]? = some (.lit (.int .i64 v)) → ((cs.drop 1).take 7)[o]? = some (.int .i64 v) := by
  rintro o v ⟨a, ha, ht⟩ hv
  obtain ⟨v', hc, rfl, -⟩ := DataW.trod_int (k := .i64) (by kernel_rfl) ht
  rw [List.getElem?_map, ha] at hv
  injection hv with hv; injection hv with hv; injection hv with _ hv
  subst hv
  rw [hi1] at hc
  exact one_cell hc
 have hB : ∀ (o : Nat) (v : Bool), (∃ a, ys[o]? = some a ∧ DataW.trod (fun _ => ()) Tryz.prog w base sp held m' 4 ((((cs.drop 1).take 7).drop o).take (Tryz.prog.cellsOf 4)) = some a) → (ys.map (·.1))[o]? = some (.lit (.bool v)) → ((cs.drop 1).take 7)[o]? = some (.bool v) := by
  rintro o v ⟨a, ha, ht⟩ hv
  obtain ⟨v', hc, rfl⟩ := DataW.trod_bool (by kernel_rfl) ht
  rw [List.getElem?_map, ha] at hv
  injection hv with hv; injection hv with hv; injection hv with hv
  subst hv
  rw [hb1] at hc
  exact one_cell hc
 have hF : ∀ (o : Nat) (v : Value), o < 7 → ((cs.drop 1).take 7)[o]? = some v → cs[1 + o]? = some v := by
  intro o v ho h
  rw [List.getElem?_take, if_pos ho, List.getElem?_drop] at h
  exact h
 intro j u hj
 match j, hj with
 | 0, hj => injection hj with hj; subst hj; exact hF 0 _ (by omega) (hI 0 _ (hall' 0 _ _ rfl) (by rw [e1]; rfl))
 | 1, hj => injection hj with hj; subst hj; exact hF 1 _ (by omega) (hI 1 _ (hall' 1 _ _ rfl) (by rw [e1]; rfl))
 | 2, hj => injection hj with hj; subst hj; exact hF 2 _ (by omega) (hI 2 _ (hall' 2 _ _ rfl) (by rw [e1]; rfl))
 | 3, hj => injection hj with hj; subst hj; exact hF 3 _ (by omega) (hI 3 _ (hall' 3 _ _ rfl) (by rw [e1]; rfl))
 | 4, hj => injection hj with hj; subst hj; exact hF 4 _ (by omega) (hB 4 _ (hall' 4 _ _ rfl) (by rw [e1]; rfl))
 | 5, hj => injection hj with hj; subst hj; exact hF 5 _ (by omega) (hB 5 _ (hall' 5 _ _ rfl) (by rw [e1]; rfl))
 | 6, hj => injection hj with hj; subst hj; exact hF 6 _ (by omega) (hB 6 _ (hall' 6 _ _ rfl) (by rw [e1]; rfl))
 | j + 7, hj => simp at hj
set_option maxRecDepth 100000 in
set_option maxHeartbeats 1600000 in
theorem laid_kinds {w : World} (h : laidMetH Tryz.prog Rows.sketchValidRow.laid w) : GLk w := by
 obtain ⟨p0, h0⟩ := laid_vars h
 obtain ⟨p1, h1⟩ := laid_rest h0
 obtain ⟨p2, h2⟩ := laid_rest h1
 obtain ⟨p3, h3⟩ := laid_rest h2
 obtain ⟨p4, h4⟩ := laid_rest h3
 have hg2 : 2 < w.heap.size := by
  have ht := Lib.TabIs.cell (laid_pow h) (g := 2) (by kernel_rfl) 0 (by rw [pow10_lit]; decide)
  exact World.block_lt_of_cell? w _ ht
 obtain ⟨g, t, cs, fuel, p, q, hg, hty, hvar, hd, -, -⟩ := h4
 obtain rfl : g = 0 := Option.some.inj (hg.symm.trans (by kernel_rfl))
 obtain rfl : t = 155 := Option.some.inj (hty.symm.trans (by kernel_rfl))
 have hcell := fun i => World.var?_cell hg hvar i
 obtain ⟨xs, m, hx, hlen, hall⟩ := trod_arr (n := 18) (e := 154) (by kernel_rfl) hd
 have he : Rows.laid_setsquare_constraint_table = (.agg (xs.map (·.1)) : DataW Unit) := hx
 have e8 : Tryz.prog.cellsOf 154 = 8 := by kernel_rfl
 have key : ∀ (k : Nat) (r : KR) (nm : List UInt8) (b1 b2 : Bool), k < 17 → (xs.map (·.1))[k + 1]? = some (.agg [.lit (.string nm), .agg [.lit (.int .i64 r.p), .lit (.int .i64 r.c), .lit (.int .i64 r.n), .lit (.int .i64 r.q), .lit (.bool r.side), .lit (.bool b1), .lit (.bool b2)]]) →
   ∃ b1 b2 : Bool, ∀ j u, (r.shape b1 b2)[j]? = some u → w.cell? ⟨0, (k + 1) * 8 + 1 + j, none⟩ = some u := by
  intro k r nm b1 b2 hk hr
  obtain ⟨y, hy, ht⟩ := hall (k + 1) (by omega)
  rw [List.getElem?_map, hy] at hr
  have hy1 := Option.some.inj hr
  have hE := ent_cells ht hy1
  refine ⟨b1, b2, fun j u hj => ?_⟩
  have h1 := hE j u hj
  rw [e8] at h1
  have hj7 : j < 7 := by
   rcases Nat.lt_or_ge j 7 with h7 | h7
   ·exact h7
   ·rw [List.getElem?_eq_none (by simpa [KR.shape] using h7)] at hj; cases hj
  rw [List.getElem?_take, if_pos (by omega), List.getElem?_drop] at h1
  rw [hcell, show (k + 1) * 8 + 1 + j = (k + 1) * 8 + (1 + j) by omega]
  simpa using h1
 have hxs : xs.map (·.1) = (match (Rows.laid_setsquare_constraint_table : DataW Unit) with | .agg l => l | _ => []) := by rw [he]
 refine ⟨hg2, fun k r hr => ?_⟩
 have hk : k < 17 := by
  rcases Nat.lt_or_ge k 17 with h1 | h1
  ·exact h1
  ·rw [List.getElem?_eq_none (by simpa [kTab] using h1)] at hr; cases hr
 rw [hxs] at key
 have : ∀ k, k < 17 → k = 0 ∨ k = 1 ∨ k = 2 ∨ k = 3 ∨ k = 4 ∨ k = 5 ∨ k = 6 ∨ k = 7 ∨ k = 8 ∨ k = 9 ∨ k = 10 ∨ k = 11 ∨ k = 12 ∨ k = 13 ∨ k = 14 ∨ k = 15 ∨ k = 16 := by omega
 rcases this k hk with rfl | rfl | rfl | rfl | rfl | rfl | rfl | rfl | rfl | rfl | rfl | rfl | rfl | rfl | rfl | rfl | rfl
 all_goals
  obtain rfl := Option.some.inj hr
  exact key _ _ _ _ _ (by omega) rfl
end Go.Proofs.YtonleohlplkglaaGreatDoor
