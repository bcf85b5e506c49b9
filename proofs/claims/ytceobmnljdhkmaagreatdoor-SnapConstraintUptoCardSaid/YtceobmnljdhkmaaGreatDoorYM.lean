/- size of the reference's layer 26; what it says of an expression. -/
import Derived.Test.YtceobmnljdhkmaaGreatDoorYF
import Derived.Test.YtceobmnljdhkmaaGreatDoorYG
import Derived.Test.YtceobmnljdhkmaaGreatDoorYA
import Derived.Test.YtceobmnljdhkmaaGreatDoorYK
import Derived.Test.YtceobmnljdhkmaaGreatDoorYL
import Derived.Test.YtceobmnljdhkmaaGreatDoorYI
namespace Go.Proofs.YtceobmnljdhkmaaGreatDoor
open Go Go.RowKit
def badE (d : Nat) (e : EI) : Bool := decide (60 < d) || decide (4 < e.args.length) || decide (40 < e.name.size) || decide (4 < e.value.num.mag.length) || decide (4 < e.value.den.mag.length)
/-- The loop of size. -/
def sumL (f : EI → Nat) : Nat → List EI → Nat
 | n, [] => n
 | n, a :: l => if n < 1000 then sumL f (n + f a) l else n
def sizeE : Nat → Nat → EI → Nat
 | 0, _, _ => 1000
 | k + 1, d, e => if badE d e then 1000 else sumL (sizeE k (d + 1)) 1 e.args
theorem sumL_le (f : EI → Nat) (B : Nat) (hB : ∀ a, f a ≤ B) : ∀ (l : List EI) (n : Nat), n ≤ 999 + B → sumL f n l ≤ 999 + B
 | [], _, h => h
 | a :: l, n, h => by
  unfold sumL
  split
  ·exact sumL_le f B hB l _ (by have := hB a; omega)
  ·exact h
theorem sizeE_le : ∀ k d e, d ≤ 61 → sizeE k d e ≤ 1000 * (62 - d)
 | 0, d, e, h => by unfold sizeE; omega
 | k + 1, d, e, h => by
  unfold sizeE
  split
  ·omega
  ·next hb =>
   have hd : d ≤ 60 := by
    rcases Nat.lt_or_ge 60 d with h1 | h1
    ·exfalso; apply hb; simp [badE, h1]
    ·exact h1
   have := sumL_le (sizeE k (d + 1)) (1000 * (61 - d)) (fun a => by have := sizeE_le k (d + 1) a (by omega); omega) e.args 1 (by omega)
   omega
theorem ExprR.lower : ∀ (k K : Nat) (w : World) (cs : List Value) (e : EI), ExprR K w cs e → smallE k e → ExprR k w cs e
 | 0, _, _, _, _, _, hs => hs.elim
 | k + 1, 0, _, _, _, h, _ => h.elim
 | k + 1, K + 1, w, cs, e, h, hs => by
  obtain ⟨u, v, sl, h1, h2, h3, A, c, h4, h5, h6, h7⟩ := h
  refine ⟨u, v, sl, h1, h2, h3, A, c, h4, h5, h6, fun hne => ?_⟩
  obtain ⟨b, off, g1, g2, g3⟩ := h7 hne
  refine ⟨b, off, g1, g2, fun i x hx => ?_⟩
  obtain ⟨ds, e1, e2, e3⟩ := g3 i x hx
  exact ⟨ds, e1, e2, ExprR.lower k K w ds x e3 (hs.2.2.2.2 x (List.mem_of_getElem? hx))⟩
set_option maxRecDepth 100000 in
set_option maxHeartbeats 1600000 in
theorem ref26_size : ∀ (k d : Nat) {e : EI} {cs : List Value} {w : World} (_ : ExprR k w cs e) (_ : d ≤ 61),
  Calls Tryz.prog 25 #[.agg cs.toArray, .int .i64 (d : Int)] w fun x w' => x = .returned (.int .i64 (sizeE k d e : Nat)) ∧ Ext w w'
 | 0, _, _, _, _, h, _ => h.elim
 | k + 1, d, e, cs, w, h, hd => by
  obtain ⟨u, v, sl, rfl, hu, hv, hsl⟩ := h
  obtain ⟨A, c, rfl, hl, hm0, hel⟩ := hsl
  have HM0 := Lib.hid hm0
  have HEL := Lib.hid hel
  obtain ⟨A1, c1, rfl, hc1, hc1'⟩ := hu.form
  obtain ⟨A2, c2, rfl, hc2, hc2'⟩ := hv.form
  have HBX := Lib.hid (CellsAt.new w [.int .i64 e.op, .bool e.value.num.neg, .slice A1 e.value.num.mag.length c1, .bool e.value.den.neg, .slice A2 e.value.den.mag.length c2, .string e.name, .slice A e.args.length c] 86)
  have HZ : Hid (sizeE (k + 1) d e = if badE d e then 1000 else sumL (sizeE k (d + 1)) 1 e.args) := rfl
  have HB : Hid (badE d e = (decide (60 < d) || decide (4 < e.args.length) || decide (40 < e.name.size) || decide (4 < e.value.num.mag.length) || decide (4 < e.value.den.mag.length))) := rfl
  have HB4 : Hid (badE d e = false → e.args.length ≤ 4 ∧ d ≤ 60) := by
   intro h; rw [HB.out] at h; simp at h; omega
  clear hu hv hel hm0
  have i1 : decide (60 < (d : Int)) = decide (60 < d) := by rw [decide_eq_decide]; omega
  generalize e.value.num.mag.length = l1 at *
  generalize e.value.den.mag.length = l2 at *
  generalize e.value.num.neg = b1 at *
  generalize e.value.den.neg = b2 at *
  generalize e.op = op at *
  generalize e.name = nm at *
  generalize badE d e = bad at *
  obtain ⟨y0, y1, y2, y3, y4, y5, y6⟩ := HBX.out.seven
  go_enter Tryz.func25, Tryz.ntmps25
  go_upto_region 1 with fail
  go_cut [36] (fun x wx => x = .bool bad ∧ wx = w.alloc (.cells #[.int .i64 op, .bool b1, .slice A1 l1 c1, .bool b2, .slice A2 l2 c2, .string nm, .slice A e.args.length c] 86))
  case first =>
   by_cases t1 : 60 < d
   ·have HX : Hid (bad = true) := by show _ = _; rw [HB.out]; simp [t1]
    go_wp2_with fail
    go_meet
    exact ⟨by rw [HX.out], rfl⟩
   by_cases t2 : 4 < e.args.length
   ·have HX : Hid (bad = true) := by show _ = _; rw [HB.out]; simp [t2]
    go_wp2_with fail
    go_meet
    exact ⟨by rw [HX.out], rfl⟩
   by_cases t3 : 40 < nm.size
   ·have HX : Hid (bad = true) := by show _ = _; rw [HB.out]; simp [t3]
    go_wp2_with fail
    go_meet
    exact ⟨by rw [HX.out], rfl⟩
   by_cases t4 : 4 < l1
   ·have HX : Hid (bad = true) := by show _ = _; rw [HB.out]; simp [t4]
    go_wp2_with fail
    go_meet
    exact ⟨by rw [HX.out], rfl⟩
   by_cases t5 : 4 < l2
   ·have HX : Hid (bad = true) := by show _ = _; rw [HB.out]; simp [t5]
    go_wp2_with fail
    go_meet
    exact ⟨by rw [HX.out]; first | rfl | (congr 1; exact decide_eq_true (by omega)) | (congr 1; simp; omega), rfl⟩
   have HX : Hid (bad = false) := by show _ = _; rw [HB.out]; simp; omega
   go_wp2_with fail
   go_meet
   exact ⟨by rw [HX.out]; first | rfl | (congr 1; exact decide_eq_false (by omega)) | (congr 1; simp; omega), rfl⟩
  case rest =>
   obtain ⟨rfl, rfl⟩ := hcut
   clear y0 y1 y2 y3 y4 y5 y6 HB
   have hE0 : Ext w (w.alloc (.cells #[.int .i64 op, .bool b1, .slice A1 l1 c1, .bool b2, .slice A2 l2 c2, .string nm, .slice A e.args.length c] 86)) := Ext.alloc _ _
   cases bad with
   | true =>
    go_wp2_with fail
    refine bodyPost_ret (v := .int .i64 1000) ?_ rfl ⟨by rw [HZ.out]; rfl, hE0⟩
    simp [results, Tryz.results25, go_sem]
   | false =>
    obtain ⟨h4, hd60⟩ := HB4.out rfl
    have HZ2 : Hid (sizeE (k + 1) d e = sumL (sizeE k (d + 1)) 1 e.args) := by show _ = _; rw [HZ.out]; rfl
    clear HZ HB4
    obtain ⟨y0, y1, y2, y3, y4, y5, y6⟩ := HBX.out.seven
    go_wp2_with fail
    clear y0 y1 y2 y3 y4 y5 y6
    go_loopg [5, 6] e.args.length (fun gk y x wr => ∃ i n : Nat, x = .int .i64 (i : Int) ∧ y = .int .i64 (n : Int) ∧ n ≤ 999 + 1000 * 61 ∧ i + gk = e.args.length ∧ Hid (sumL (sizeE k (d + 1)) n (e.args.drop i) = sumL (sizeE k (d + 1)) 1 e.args) ∧ Hid (Ext (w.alloc (.cells #[.int .i64 op, .bool b1, .slice A1 l1 c1, .bool b2, .slice A2 l2 c2, .string nm, .slice A e.args.length c] 86)) wr))
    case atStart => exact ⟨0, 1, rfl, rfl, by omega, by omega, rfl, Ext.refl _⟩
    case round =>
     obtain ⟨i, n, rfl, rfl, hn, hi, HA, HE⟩ := hrel
     obtain ⟨y0, y1, y2, y3, y4, y5, y6⟩ := (HBX.out.ext HE.out).seven
     have hEr : Ext w wr := Ext.trans (Ext.alloc _ _) HE.out
     by_cases hlt : i < e.args.length
     ·by_cases hn1 : n < 1000
      ·obtain ⟨b, off, rfl, hb, hel⟩ := HEL.out (by intro e0; rw [e0] at hlt; simp at hlt)
       have hx0 : e.args[i]? = some e.args[i] := List.getElem?_eq_getElem hlt
       obtain ⟨ds, hds, hcell, hR⟩ := hel i _ hx0
       match ds, hds with
       | [d0, d1, d2, d3, d4, d5, d6], _ =>
        have q0 : wr.cell? ⟨b, off + i * 7, none⟩ = some d0 := (hEr.cell (p := ⟨b, off + (i * 7 + 0), none⟩) hb).trans (hcell 0 _ rfl)
        have q1 : wr.cell? ⟨b, off + i * 7 + 1, none⟩ = some d1 := (hEr.cell (p := ⟨b, off + (i * 7 + 1), none⟩) hb).trans (hcell 1 _ rfl)
        have q2 : wr.cell? ⟨b, off + i * 7 + 2, none⟩ = some d2 := (hEr.cell (p := ⟨b, off + (i * 7 + 2), none⟩) hb).trans (hcell 2 _ rfl)
        have q3 : wr.cell? ⟨b, off + i * 7 + 3, none⟩ = some d3 := (hEr.cell (p := ⟨b, off + (i * 7 + 3), none⟩) hb).trans (hcell 3 _ rfl)
        have q4 : wr.cell? ⟨b, off + i * 7 + 4, none⟩ = some d4 := (hEr.cell (p := ⟨b, off + (i * 7 + 4), none⟩) hb).trans (hcell 4 _ rfl)
        have q5 : wr.cell? ⟨b, off + i * 7 + 5, none⟩ = some d5 := (hEr.cell (p := ⟨b, off + (i * 7 + 5), none⟩) hb).trans (hcell 5 _ rfl)
        have q6 : wr.cell? ⟨b, off + i * 7 + 6, none⟩ = some d6 := (hEr.cell (p := ⟨b, off + (i * 7 + 6), none⟩) hb).trans (hcell 6 _ rfl)
        have HC' := ref26_size k (d + 1) (ExprR.stable k _ _ _ _ hEr hR) (by omega)
        rw [show ((d + 1 : Nat) : Int) = (d : Int) + 1 by omega] at HC'
        have HC := Lib.hid HC'
        have hdl := sizeE_le k (d + 1) e.args[i] (by omega)
        have hdl2 : sizeE k (d + 1) e.args[i] ≤ 61000 := by omega
        have HDR : Hid (sumL (sizeE k (d + 1)) n (e.args.drop i) = sumL (sizeE k (d + 1)) (n + sizeE k (d + 1) e.args[i]) (e.args.drop (i + 1))) := by show _ = _; rw [List.drop_eq_getElem_cons hlt, sumL, if_pos hn1]
        clear hel hcell hR HC' hdl
        generalize sizeE k (d + 1) e.args[i] = fk at *
        go_wp2_with fail
        refine HC.out.mono ?_
        rintro x w2 ⟨rfl, hx2⟩
        go_wp2_with fail
        go_roundg (e.args.length - (i + 1))
        case measure => omega
        case rel => exact ⟨i + 1, n + fk, by simp, by simp, by omega, by omega, (HDR.out.symm.trans HA.out), HE.out.trans hx2⟩
      ·have HT : Hid (n = sizeE (k + 1) d e) := by show _ = _; rw [HZ2.out, ← HA.out, List.drop_eq_getElem_cons hlt, sumL, if_neg hn1]
       have hn2 : ¬ ((n : Int) < 1000) := by omega
       go_wp2_with fail
       refine bodyPost_ret (v := .int .i64 (n : Int)) ?_ rfl ⟨by rw [← HT.out], hEr⟩
       simp [results, Tryz.results25, go_sem]
     ·have HT : Hid (n = sizeE (k + 1) d e) := by show _ = _; rw [HZ2.out, ← HA.out, List.drop_eq_nil_of_le (by omega)]; rfl
      go_wp2_with fail
      refine bodyPost_ret (v := .int .i64 (n : Int)) ?_ rfl ⟨by rw [← HT.out], hEr⟩
      simp [results, Tryz.results25, go_sem]
end Go.Proofs.YtceobmnljdhkmaaGreatDoor
namespace Go.Proofs.YtceobmnljdhkmaaGreatDoor
open Go Go.RowKit
def okPt (p : PtI) : Bool := p.x.ok && p.y.ok
def okRd (n : Int) (c : RdI) : Bool := hasL n c.center && c.radius.ok && decide (0 < c.radius.num.sgn)
def okSg (n : Int) (g : SgI) : Bool := hasL n g.a && hasL n g.b && !decide (g.a = g.b)
def centerOf (s : SkI) (i : Int) : Int := match s.circles[i.toNat]? with | some c => c.center | none => 0
def okAr (s : SkI) (a : ArI) : Bool := hasL s.circles.length a.circle && hasL s.points.length a.a && hasL s.points.length a.b && !decide (a.a = centerOf s a.circle) && !decide (a.b = centerOf s a.circle)
def okS (K : Nat) (s : SkI) : Bool := s.points.all okPt && s.circles.all (okRd s.points.length) && s.segs.all (okSg s.points.length) && s.arcs.all (okAr s) && s.chains.all (chainL s) && s.cons.all (fun c => validC K c s.points.length s.circles.length)
/-- The error of a sketch. -/
def errS (K : Nat) (s : SkI) : Int := if manyL s then 3 else if okS K s then 0 else 1
/-- What is asked of the program's Valid of a rational number. -/
def RatV (w : World) (q : QI) : Prop := ∀ W v v', Ext w W → Words W v q.num.mag → Words W v' q.den.mag →
 Calls Tryz.prog 198 #[.agg #[.bool q.num.neg, v, .bool q.den.neg, v']] W fun e w' => e = .returned (.bool q.ok) ∧ Ext W w'
theorem RatV.ext {w w' : World} {q : QI} (h : RatV w q) (hx : Ext w w') : RatV w' q := fun W v v' hW => h W v v' (Ext.trans hx hW)
end Go.Proofs.YtceobmnljdhkmaaGreatDoor
namespace Go.Proofs.YtceobmnljdhkmaaGreatDoor
open Go Go.RowKit
theorem ref25_Valid (k : Nat) (hk : k ≤ 22000000) {c : CI} {pv cv vv : Value} {np nc : Int} {w : World} (hp : Ints w pv c.points) (hc : Ints w cv c.circles) (hv : ArrAt 7 (ExprR k) w vv c.values) (hs : ∀ e ∈ c.values, smallE k e) :
  Calls Tryz.prog 23 #[.agg #[.int .i64 c.kind, pv, cv, vv, .int .i64 c.side], .int .i64 np, .int .i64 nc] w fun e w' => e = .returned (.bool (validC k c np nc)) ∧ Ext w w' := by
 by_cases h5 : c.kind = 5
 ·exact ref25_Valid_k5 k hk hp hc hv hs h5
 by_cases h6 : c.kind = 6
 ·exact ref25_Valid_k6 k hk hp hc hv hs h6
 by_cases h7 : c.kind = 7
 ·exact ref25_Valid_k7 k hk hp hc hv hs h7
 by_cases h8 : c.kind = 8
 ·exact ref25_Valid_k8 k hk hp hc hv hs h8
 exact ref25_Valid_np k hk hp hc hv hs (by simp [isPair, h5, h6, h7, h8])
/-- Numbers and formulas of a bounded size. -/
structure SmallS (K : Nat) (s : SkI) : Prop where
 points : ∀ p ∈ s.points, p.x.num.mag.length ≤ 1100000 ∧ p.x.den.mag.length ≤ 1100000 ∧ p.y.num.mag.length ≤ 1100000 ∧ p.y.den.mag.length ≤ 1100000
 circles : ∀ c ∈ s.circles, c.radius.num.mag.length ≤ 1100000 ∧ c.radius.den.mag.length ≤ 1100000
 cons : ∀ c ∈ s.cons, ∀ e ∈ c.values, smallE K e
theorem errS_bad {K : Nat} {s : SkI} (h0 : manyL s = false) (h : okS K s = false) : errS K s = 1 := by simp [errS, h0, h]
theorem errS_ok {K : Nat} {s : SkI} (h0 : manyL s = false) (h : okS K s = true) : errS K s = 0 := by simp [errS, h0, h]
theorem all_drop {α : Type} {p : α → Bool} {xs : List α} {i : Nat} (h : i < xs.length) : (xs.drop i).all p = (p xs[i] && (xs.drop (i + 1)).all p) := by rw [List.drop_eq_getElem_cons h, List.all_cons]
set_option maxRecDepth 100000 in
set_option maxHeartbeats 6400000 in
theorem ref26_Valid {K : Nat} (hK : K ≤ 22000000) {s : SkI} {v0 v1 v2 v3 v4 v5 : Value} {w : World} (h : SkAt K w v0 v1 v2 v3 v4 v5 s) (hs : SmallS K s) :
  Calls Tryz.prog 5 #[.agg #[v0, v1, v2, v3, v4, v5]] w fun e w' => e = .returned (.int .i64 (errS K s)) ∧ Ext w w' := by
 obtain ⟨A0, c0, rfl, hl0, hm0⟩ := h.points.form
 obtain ⟨A1, c1, rfl, hl1, hm1⟩ := h.circles.form
 obtain ⟨A2, c2, rfl, hl2, hm2⟩ := h.segs.form
 obtain ⟨A3, c3, rfl, hl3, hm3⟩ := h.arcs.form
 obtain ⟨A4, c4, rfl, hl4, hm4⟩ := h.chains.form
 obtain ⟨A5, c5, rfl, hl5, hm5⟩ := h.cons.form
 have HBX := Lib.hid (CellsAt.new w [.slice A0 s.points.length c0, .slice A1 s.circles.length c1, .slice A2 s.segs.length c2, .slice A3 s.arcs.length c3, .slice A4 s.chains.length c4, .slice A5 s.cons.length c5] 29)
 have HMY := Lib.hid (fun w1 (hx : Ext w w1) => ref26_many (h.ext hx))
 have HCHN := Lib.hid (fun w1 (hx : Ext w w1) A n cp c (hc : ArrAt 3 PcR w1 (.slice A n cp) c) => ref26_chain (h.ext hx) hc)
 have HCON := Lib.hid (fun w1 (c : CI) pv cv vv (hc : c ∈ s.cons) (hp : Ints w1 pv c.points) (hq : Ints w1 cv c.circles) (hv : ArrAt 7 (ExprR K) w1 vv c.values) => ref25_Valid K hK (np := s.points.length) (nc := s.circles.length) hp hq hv (hs.cons c hc))
 have HPT := Lib.hid h.points
 have HCI := Lib.hid h.circles
 have HSG := Lib.hid h.segs
 have HAR := Lib.hid h.arcs
 have HCH := Lib.hid h.chains
 have HCO := Lib.hid h.cons
 have HSM := Lib.hid hs
 have HER : Hid (errS K s = if manyL s then 3 else if okS K s then 0 else 1) := rfl
 clear h hs
 go_enter Tryz.func5, Tryz.ntmps5
 go_wp2_with fail
 refine (HMY.out _ (Ext.alloc _ _)).mono ?_
 rintro e w1 ⟨rfl, hx1⟩
 have hE1 : Ext w w1 := Ext.trans (Ext.alloc _ _) hx1
 generalize hmy : manyL s = my at *
 have HMS := Lib.hid hmy
 clear hmy
 cases my with
 | true =>
  go_wp2_with fail
  go_ret
  exact ⟨by rw [HER.out]; rfl, hE1⟩
 | false =>
 have HB1 := Lib.hid (HBX.out.ext hx1)
 have HBAD : Hid (okS K s = false → errS K s = 1) := errS_bad HMS.out
 have HGOOD : Hid (okS K s = true → errS K s = 0) := errS_ok HMS.out
 clear HBX HMY hx1 HER
 obtain ⟨y0, y1, y2, y3, y4, y5⟩ := HB1.out.six
 go_wp2_with fail
 clear y0 y1 y2 y3 y4 y5
 go_loopg [4] s.points.length (fun gk x wr => ∃ i : Nat, x = .int .i64 (i : Int) ∧ i + gk = s.points.length ∧ Hid ((s.points.drop i).all okPt = s.points.all okPt) ∧ Hid (Ext w1 wr))
 case atStart => exact ⟨0, rfl, by omega, rfl, Ext.refl _⟩
 case round =>
  obtain ⟨i, rfl, hi, HA, HE⟩ := hrel
  have HB2 := Lib.hid (HB1.out.ext HE.out)
  obtain ⟨y0, y1, y2, y3, y4, y5⟩ := HB2.out.six
  have hEr : Ext w wr := Ext.trans hE1 HE.out
  by_cases hlt : i < s.points.length
  ·obtain ⟨b, off, rfl, hb, ds, hds, hcell, u, v, u', v', rfl, hu, hv, hu', hv'⟩ := HPT.out.at_ hlt
   obtain ⟨s1, s2, s3, s4⟩ := HSM.out.points _ (List.getElem_mem hlt)
   have q0 : wr.cell? ⟨b, off + i * 8, none⟩ = _ := (hEr.cell (p := ⟨b, off + (i * 8 + 0), none⟩) hb).trans (hcell 0 _ rfl)
   have q1 : wr.cell? ⟨b, off + i * 8 + 1, none⟩ = _ := (hEr.cell (p := ⟨b, off + (i * 8 + 1), none⟩) hb).trans (hcell 1 _ rfl)
   have q2 : wr.cell? ⟨b, off + i * 8 + 2, none⟩ = _ := (hEr.cell (p := ⟨b, off + (i * 8 + 2), none⟩) hb).trans (hcell 2 _ rfl)
   have q3 : wr.cell? ⟨b, off + i * 8 + 3, none⟩ = _ := (hEr.cell (p := ⟨b, off + (i * 8 + 3), none⟩) hb).trans (hcell 3 _ rfl)
   have q4 : wr.cell? ⟨b, off + i * 8 + 4, none⟩ = _ := (hEr.cell (p := ⟨b, off + (i * 8 + 4), none⟩) hb).trans (hcell 4 _ rfl)
   have q5 : wr.cell? ⟨b, off + i * 8 + 5, none⟩ = _ := (hEr.cell (p := ⟨b, off + (i * 8 + 5), none⟩) hb).trans (hcell 5 _ rfl)
   have q6 : wr.cell? ⟨b, off + i * 8 + 6, none⟩ = _ := (hEr.cell (p := ⟨b, off + (i * 8 + 6), none⟩) hb).trans (hcell 6 _ rfl)
   have q7 : wr.cell? ⟨b, off + i * 8 + 7, none⟩ = _ := (hEr.cell (p := ⟨b, off + (i * 8 + 7), none⟩) hb).trans (hcell 7 _ rfl)
   obtain ⟨D1, d1, rfl, hd1, hd1'⟩ := hu.form
   obtain ⟨D2, d2, rfl, hd2, hd2'⟩ := hv.form
   obtain ⟨D3, d3, rfl, hd3, hd3'⟩ := hu'.form
   obtain ⟨D4, d4, rfl, hd4, hd4'⟩ := hv'.form
   have HV1 := Lib.hid (fun w2 (hx : Ext w w2) => ref02_Valid (q := s.points[i].x) (hu.ext hx) (hv.ext hx) (by omega) (by omega))
   have HV2 := Lib.hid (fun w2 (hx : Ext w w2) => ref02_Valid (q := s.points[i].y) (hu'.ext hx) (hv'.ext hx) (by omega) (by omega))
   have HD : Hid ((s.points.drop i).all okPt = (s.points[i].x.ok && s.points[i].y.ok && (s.points.drop (i + 1)).all okPt)) := all_drop hlt
   clear hu hv hu' hv' hcell hds s1 s2 s3 s4
   generalize s.points[i].x.ok = b1 at *
   generalize s.points[i].y.ok = b2 at *
   generalize s.points[i].x.num.neg = n1 at *
   generalize s.points[i].x.den.neg = n2 at *
   generalize s.points[i].y.num.neg = n3 at *
   generalize s.points[i].y.den.neg = n4 at *
   generalize s.points[i].x.num.mag.length = l1 at *
   generalize s.points[i].x.den.mag.length = l2 at *
   generalize s.points[i].y.num.mag.length = l3 at *
   generalize s.points[i].y.den.mag.length = l4 at *
   have hz1 : b < wr.heap.size := Nat.lt_of_lt_of_le hb hEr.size
   have hz2 := HB2.out.1
   go_wp2_with fail
   refine (HV1.out _ hEr).mono ?_
   rintro e w2 ⟨rfl, hx2⟩
   cases b1 with
   | false =>
    have HT : Hid (errS K s = 1) := HBAD.out (by unfold okS; rw [← HA.out, HD.out]; rfl)
    go_wp2_with fail
    go_ret
    exact ⟨by rw [HT.out]; rfl, (by repeat first|exact xA _|assumption|refine xB ?_ _|refine xC ?_|refine xD ?_ _|refine xE ?_ (by simp <;> omega) _|refine xF ?_ (by assumption))⟩
   | true =>
    obtain ⟨hc, hf⟩ := bcell hx2
    go_wp2_with fail
    refine (HV2.out _ (by repeat first|exact xA _|assumption|refine xB ?_ _|refine xC ?_|refine xD ?_ _|refine xE ?_ (by simp <;> omega) _|refine xF ?_ (by assumption))).mono ?_
    rintro e w3 ⟨rfl, hx3⟩
    clear hc hf
    cases b2 with
    | false =>
     have HT : Hid (errS K s = 1) := HBAD.out (by unfold okS; rw [← HA.out, HD.out]; rfl)
     go_wp2_with fail
     go_ret
     exact ⟨by rw [HT.out]; rfl, (by repeat first|exact xA _|assumption|refine xB ?_ _|refine xC ?_|refine xD ?_ _|refine xE ?_ (by simp <;> omega) _|refine xF ?_ (by assumption))⟩
    | true =>
     have HT : Hid ((s.points.drop (i + 1)).all okPt = s.points.all okPt) := by show _ = _; rw [← HA.out, HD.out]; rfl
     go_wp2_with fail
     go_roundg (s.points.length - (i + 1))
     case measure => omega
     case rel => exact ⟨i + 1, by simp, by omega, HT, (HE.out.trans hx2).trans hx3⟩
  ·have HP1 : Hid (s.points.all okPt = true) := by show _ = _; rw [← HA.out, List.drop_eq_nil_of_le (by omega)]; rfl
   clear HPT HA
   go_wp2_with fail
   clear y0 y1 y2 y3 y4 y5 hEr HB2
   go_loopg [5] s.circles.length (fun gk x wr => ∃ i : Nat, x = .int .i64 (i : Int) ∧ i + gk = s.circles.length ∧ Hid ((s.circles.drop i).all (okRd s.points.length) = s.circles.all (okRd s.points.length)) ∧ Hid (Ext w1 wr))
   case atStart => exact ⟨0, rfl, by omega, rfl, HE.out⟩
   case round =>
    clear HE
    obtain ⟨i, rfl, hi, HA, HE⟩ := hrel
    have HB2 := Lib.hid (HB1.out.ext HE.out)
    obtain ⟨y0, y1, y2, y3, y4, y5⟩ := HB2.out.six
    have hE0 := HE.out
    have hEr : Ext w wr := Ext.trans hE1 HE.out
    by_cases hlt : i < s.circles.length
    ·have HD0 : Hid ((s.circles.drop i).all (okRd s.points.length) = ((okRd s.points.length) s.circles[i] && (s.circles.drop (i + 1)).all (okRd s.points.length))) := all_drop hlt
     have hz2 := HB2.out.1
     obtain ⟨b, off, rfl, hb, ds, hds, hcell, u, v, rfl, hu, hv⟩ := HCI.out.at_ hlt
     obtain ⟨s1, s2⟩ := HSM.out.circles _ (List.getElem_mem hlt)
     have q0 : wr.cell? ⟨b, off + i * 5, none⟩ = _ := (hEr.cell (p := ⟨b, off + (i * 5 + 0), none⟩) hb).trans (hcell 0 _ rfl)
     have q1 : wr.cell? ⟨b, off + i * 5 + 1, none⟩ = _ := (hEr.cell (p := ⟨b, off + (i * 5 + 1), none⟩) hb).trans (hcell 1 _ rfl)
     have q2 : wr.cell? ⟨b, off + i * 5 + 2, none⟩ = _ := (hEr.cell (p := ⟨b, off + (i * 5 + 2), none⟩) hb).trans (hcell 2 _ rfl)
     have q3 : wr.cell? ⟨b, off + i * 5 + 3, none⟩ = _ := (hEr.cell (p := ⟨b, off + (i * 5 + 3), none⟩) hb).trans (hcell 3 _ rfl)
     have q4 : wr.cell? ⟨b, off + i * 5 + 4, none⟩ = _ := (hEr.cell (p := ⟨b, off + (i * 5 + 4), none⟩) hb).trans (hcell 4 _ rfl)
     obtain ⟨D1, d1, rfl, hd1, hd1'⟩ := hu.form
     obtain ⟨D2, d2, rfl, hd2, hd2'⟩ := hv.form
     have HV1 := Lib.hid (fun w2 (hx : Ext w w2) => ref02_Valid (q := s.circles[i].radius) (hu.ext hx) (hv.ext hx) (by omega) (by omega))
     have HV2 := Lib.hid (fun w2 (hx : Ext w w2) => ref02_Sign (q := s.circles[i].radius) (v' := .slice D2 s.circles[i].radius.den.mag.length d2) (hu.ext hx))
     have HH := Lib.hid (fun w2 => ref26_has s.points.length s.circles[i].center w2)
     have HD : Hid ((s.circles.drop i).all (okRd s.points.length) = (hasL s.points.length s.circles[i].center && s.circles[i].radius.ok && decide (0 < s.circles[i].radius.num.sgn) && (s.circles.drop (i + 1)).all (okRd s.points.length))) := HD0.out
     clear hu hv hcell hds s1 s2 HD0
     generalize hasL s.points.length s.circles[i].center = b1 at *
     generalize s.circles[i].radius.ok = b2 at *
     generalize s.circles[i].radius.num.sgn = sg at *
     generalize s.circles[i].radius.num.neg = n1 at *
     generalize s.circles[i].radius.den.neg = n2 at *
     generalize s.circles[i].radius.num.mag.length = l1 at *
     generalize s.circles[i].radius.den.mag.length = l2 at *
     generalize s.circles[i].center = ct at *
     have hz1 : b < wr.heap.size := Nat.lt_of_lt_of_le hb hEr.size
     go_wp2_with fail
     refine (HH.out _).mono ?_
     rintro e w2 ⟨rfl, rfl⟩
     cases b1 with
     | false =>
      have HT : Hid (errS K s = 1) := HBAD.out (by unfold okS; rw [← HA.out, HD.out]; simp)
      go_wp2_with fail
      go_ret
      exact ⟨by rw [HT.out]; rfl, (by repeat first|exact xA _|assumption|refine xB ?_ _|refine xC ?_|refine xD ?_ _|refine xE ?_ (by simp <;> omega) _|refine xF ?_ (by assumption))⟩
     | true =>
      go_wp2_with fail
      refine (HV1.out _ (by repeat first|exact xA _|assumption|refine xB ?_ _|refine xC ?_|refine xD ?_ _|refine xE ?_ (by simp <;> omega) _|refine xF ?_ (by assumption))).mono ?_
      rintro e w3 ⟨rfl, hx3⟩
      cases b2 with
      | false =>
       have HT : Hid (errS K s = 1) := HBAD.out (by unfold okS; rw [← HA.out, HD.out]; simp)
       go_wp2_with fail
       go_ret
       exact ⟨by rw [HT.out]; rfl, (by repeat first|exact xA _|assumption|refine xB ?_ _|refine xC ?_|refine xD ?_ _|refine xE ?_ (by simp <;> omega) _|refine xF ?_ (by assumption))⟩
      | true =>
       obtain ⟨hc, hf⟩ := bcell hx3
       go_wp2_with fail
       refine (HV2.out _ (by repeat first|exact xA _|assumption|refine xB ?_ _|refine xC ?_|refine xD ?_ _|refine xE ?_ (by simp <;> omega) _|refine xF ?_ (by assumption))).mono ?_
       rintro e w4 ⟨rfl, hx4⟩
       clear hc hf
       by_cases hsg : 0 < sg
       ·have hsl : ¬ sg ≤ 0 := by omega
        have hsd : decide (0 < sg) = true := by simpa using hsg
        rw [hsd] at HD
        clear hsg hsd
        have HT : Hid ((s.circles.drop (i + 1)).all (okRd s.points.length) = s.circles.all (okRd s.points.length)) := by show _ = _; rw [← HA.out, HD.out]; simp
        go_wp2_with fail
        go_roundg (s.circles.length - (i + 1))
        case measure => omega
        case rel => exact ⟨i + 1, by simp, by omega, HT, (by repeat first|exact xA _|assumption|refine xB ?_ _|refine xC ?_|refine xD ?_ _|refine xE ?_ (by simp <;> omega) _|refine xF ?_ (by assumption))⟩
       ·have hsl : sg ≤ 0 := by omega
        have hsd : decide (0 < sg) = false := by simpa using hsg
        rw [hsd] at HD
        clear hsg hsd
        have HT : Hid (errS K s = 1) := HBAD.out (by unfold okS; rw [← HA.out, HD.out]; simp)
        go_wp2_with fail
        go_ret
        exact ⟨by rw [HT.out]; rfl, (by repeat first|exact xA _|assumption|refine xB ?_ _|refine xC ?_|refine xD ?_ _|refine xE ?_ (by simp <;> omega) _|refine xF ?_ (by assumption))⟩
    ·have HP2 : Hid (s.circles.all (okRd s.points.length) = true) := by show _ = _; rw [← HA.out, List.drop_eq_nil_of_le (by omega)]; rfl
     clear HA
     go_wp2_with fail
     clear y0 y1 y2 y3 y4 y5 hEr HB2
     go_loopg [7] s.segs.length (fun gk x wr => ∃ i : Nat, x = .int .i64 (i : Int) ∧ i + gk = s.segs.length ∧ Hid ((s.segs.drop i).all (okSg s.points.length) = s.segs.all (okSg s.points.length)) ∧ Hid (Ext w1 wr))
     case atStart => exact ⟨0, rfl, by omega, rfl, HE.out⟩
     case round =>
      clear HE
      obtain ⟨i, rfl, hi, HA, HE⟩ := hrel
      have HB2 := Lib.hid (HB1.out.ext HE.out)
      obtain ⟨y0, y1, y2, y3, y4, y5⟩ := HB2.out.six
      have hE0 := HE.out
      have hEr : Ext w wr := Ext.trans hE1 HE.out
      by_cases hlt : i < s.segs.length
      ·have HD0 : Hid ((s.segs.drop i).all (okSg s.points.length) = ((okSg s.points.length) s.segs[i] && (s.segs.drop (i + 1)).all (okSg s.points.length))) := all_drop hlt
       have hz2 := HB2.out.1
       obtain ⟨b, off, rfl, hb, ds, hds, hcell, hR⟩ := HSG.out.at_ hlt
       rw [hR] at hcell
       have q0 : wr.cell? ⟨b, off + i * 2, none⟩ = _ := (hEr.cell (p := ⟨b, off + (i * 2 + 0), none⟩) hb).trans (hcell 0 _ rfl)
       have q1 : wr.cell? ⟨b, off + i * 2 + 1, none⟩ = _ := (hEr.cell (p := ⟨b, off + (i * 2 + 1), none⟩) hb).trans (hcell 1 _ rfl)
       have HH1 := Lib.hid (fun w2 => ref26_has s.points.length s.segs[i].a w2)
       have HH2 := Lib.hid (fun w2 => ref26_has s.points.length s.segs[i].b w2)
       have HD : Hid ((s.segs.drop i).all (okSg s.points.length) = (hasL s.points.length s.segs[i].a && hasL s.points.length s.segs[i].b && !decide (s.segs[i].a = s.segs[i].b) && (s.segs.drop (i + 1)).all (okSg s.points.length))) := HD0.out
       clear hR hcell hds HD0
       generalize hasL s.points.length s.segs[i].a = b1 at *
       generalize hasL s.points.length s.segs[i].b = b2 at *
       generalize s.segs[i].a = x at *
       generalize s.segs[i].b = y at *
       have hz1 : b < wr.heap.size := Nat.lt_of_lt_of_le hb hEr.size
       go_wp2_with fail
       refine (HH1.out _).mono ?_
       rintro e w2 ⟨rfl, rfl⟩
       cases b1 with
       | false =>
        have HT : Hid (errS K s = 1) := HBAD.out (by unfold okS; rw [← HA.out, HD.out]; simp)
        go_wp2_with fail
        go_ret
        exact ⟨by rw [HT.out]; rfl, (by repeat first|exact xA _|assumption|refine xB ?_ _|refine xC ?_|refine xD ?_ _|refine xE ?_ (by simp <;> omega) _|refine xF ?_ (by assumption))⟩
       | true =>
        go_wp2_with fail
        refine (HH2.out _).mono ?_
        rintro e w3 ⟨rfl, rfl⟩
        cases b2 with
        | false =>
         have HT : Hid (errS K s = 1) := HBAD.out (by unfold okS; rw [← HA.out, HD.out]; simp)
         go_wp2_with fail
         go_ret
         exact ⟨by rw [HT.out]; rfl, (by repeat first|exact xA _|assumption|refine xB ?_ _|refine xC ?_|refine xD ?_ _|refine xE ?_ (by simp <;> omega) _|refine xF ?_ (by assumption))⟩
        | true =>
         by_cases hxy : x = y
         ·have hxe : (x == y) = true := by simpa using hxy
          have hxd : decide (x = y) = true := by simpa using hxy
          rw [hxd] at HD
          clear hxy hxd
          have HT : Hid (errS K s = 1) := HBAD.out (by unfold okS; rw [← HA.out, HD.out]; simp)
          go_wp2_with fail
          go_ret
          exact ⟨by rw [HT.out]; rfl, (by repeat first|exact xA _|assumption|refine xB ?_ _|refine xC ?_|refine xD ?_ _|refine xE ?_ (by simp <;> omega) _|refine xF ?_ (by assumption))⟩
         ·have hxe : (x == y) = false := by simpa using hxy
          have hxd : decide (x = y) = false := by simpa using hxy
          rw [hxd] at HD
          clear hxy hxd
          have HT : Hid ((s.segs.drop (i + 1)).all (okSg s.points.length) = s.segs.all (okSg s.points.length)) := by show _ = _; rw [← HA.out, HD.out]; simp
          go_wp2_with fail
          go_roundg (s.segs.length - (i + 1))
          case measure => omega
          case rel => exact ⟨i + 1, by simp, by omega, HT, (by repeat first|exact xA _|assumption|refine xB ?_ _|refine xC ?_|refine xD ?_ _|refine xE ?_ (by simp <;> omega) _|refine xF ?_ (by assumption))⟩
      ·have HP3 : Hid (s.segs.all (okSg s.points.length) = true) := by show _ = _; rw [← HA.out, List.drop_eq_nil_of_le (by omega)]; rfl
       clear HSG HA
       go_wp2_with fail
       clear y0 y1 y2 y3 y4 y5 hEr HB2
       go_loopg [9] s.arcs.length (fun gk x wr => ∃ i : Nat, x = .int .i64 (i : Int) ∧ i + gk = s.arcs.length ∧ Hid ((s.arcs.drop i).all (okAr s) = s.arcs.all (okAr s)) ∧ Hid (Ext w1 wr))
       case atStart => exact ⟨0, rfl, by omega, rfl, HE.out⟩
       case round =>
        clear HE
        obtain ⟨i, rfl, hi, HA, HE⟩ := hrel
        have HB2 := Lib.hid (HB1.out.ext HE.out)
        obtain ⟨y0, y1, y2, y3, y4, y5⟩ := HB2.out.six
        have hE0 := HE.out
        have hEr : Ext w wr := Ext.trans hE1 HE.out
        by_cases hlt : i < s.arcs.length
        ·have HD0 : Hid ((s.arcs.drop i).all (okAr s) = ((okAr s) s.arcs[i] && (s.arcs.drop (i + 1)).all (okAr s))) := all_drop hlt
         have hz2 := HB2.out.1
         obtain ⟨b, off, rfl, hb, ds, hds, hcell, hR⟩ := HAR.out.at_ hlt
         rw [hR] at hcell
         have q0 : wr.cell? ⟨b, off + i * 4, none⟩ = _ := (hEr.cell (p := ⟨b, off + (i * 4 + 0), none⟩) hb).trans (hcell 0 _ rfl)
         have q1 : wr.cell? ⟨b, off + i * 4 + 1, none⟩ = _ := (hEr.cell (p := ⟨b, off + (i * 4 + 1), none⟩) hb).trans (hcell 1 _ rfl)
         have q2 : wr.cell? ⟨b, off + i * 4 + 2, none⟩ = _ := (hEr.cell (p := ⟨b, off + (i * 4 + 2), none⟩) hb).trans (hcell 2 _ rfl)
         have q3 : wr.cell? ⟨b, off + i * 4 + 3, none⟩ = _ := (hEr.cell (p := ⟨b, off + (i * 4 + 3), none⟩) hb).trans (hcell 3 _ rfl)
         have HH1 := Lib.hid (fun w2 => ref26_has s.circles.length s.arcs[i].circle w2)
         have HH2 := Lib.hid (fun w2 => ref26_has s.points.length s.arcs[i].a w2)
         have HH3 := Lib.hid (fun w2 => ref26_has s.points.length s.arcs[i].b w2)
         have HD : Hid ((s.arcs.drop i).all (okAr s) = (okAr s s.arcs[i] && (s.arcs.drop (i + 1)).all (okAr s))) := HD0.out
         have HOK : Hid (okAr s s.arcs[i] = (hasL s.circles.length s.arcs[i].circle && hasL s.points.length s.arcs[i].a && hasL s.points.length s.arcs[i].b && !decide (s.arcs[i].a = centerOf s s.arcs[i].circle) && !decide (s.arcs[i].b = centerOf s s.arcs[i].circle))) := rfl
         have HCT : Hid (hasL s.circles.length s.arcs[i].circle = true → ∃ (k : Nat) (b' off' : Nat) (ct : Int), s.arcs[i].circle = (k : Int) ∧ (k : Int) < (s.circles.length : Int) ∧ A1 = some ⟨b', off', none⟩ ∧ b' < w.heap.size ∧ w.cell? ⟨b', off' + k * 5, none⟩ = some (.int .i64 ct) ∧ centerOf s s.arcs[i].circle = ct) := by
          intro h1
          obtain ⟨k, hk, hkl⟩ : ∃ k : Nat, s.arcs[i].circle = (k : Int) ∧ k < s.circles.length := by
           simp [hasL] at h1; exact ⟨s.arcs[i].circle.toNat, by omega, by omega⟩
          obtain ⟨b', off', e1, hb', ds', hds', hcell', u, v, rfl, -⟩ := HCI.out.at_ hkl
          refine ⟨k, b', off', s.circles[k].center, hk, by omega, e1, hb', hcell' 0 _ rfl, ?_⟩
          rw [hk]; simp [centerOf, List.getElem?_eq_getElem hkl]
         clear hR hcell hds HD0
         generalize okAr s s.arcs[i] = ok at *
         generalize hasL s.circles.length s.arcs[i].circle = b1 at *
         generalize hasL s.points.length s.arcs[i].a = b2 at *
         generalize hasL s.points.length s.arcs[i].b = b3 at *
         generalize centerOf s s.arcs[i].circle = ce at *
         generalize s.arcs[i].circle = ci at *
         generalize s.arcs[i].a = x at *
         generalize s.arcs[i].b = y at *
         generalize s.arcs[i].cw = cw at *
         have hz1 : b < wr.heap.size := Nat.lt_of_lt_of_le hb hEr.size
         go_upto_region 25 with fail
         go_cut [157] (fun xx wx => xx = .bool (!ok) ∧ ∃ m, wx = (wr.alloc (.cells #[.int .i64 ci, .int .i64 x, .int .i64 y, .bool cw] 79)).drewN m)
         case first =>
          cases b1 with
          | false => (go_quiet (first | (go_at_call 20; first | (with_reducible exact quiet_left (HH1.out _)) | (with_reducible exact quiet_left (HH2.out _)) | (with_reducible exact quiet_left (HH3.out _)))); go_wp2_with fail; go_meet; exact ⟨by rw [HOK.out]; rfl, _, rfl⟩)
          | true =>
           obtain ⟨k, b', off', ct, rfl, hk, rfl, hb', hct, rfl⟩ := HCT.out rfl
           have hk0 : (0 : Int) ≤ (k : Int) := by omega
           have hcw := (hEr.cell (p := ⟨b', off' + k * 5, none⟩) hb').trans hct
           have hb2 : b' < wr.heap.size := Nat.lt_of_lt_of_le hb' hEr.size
           have hne : b' ≠ wr.heap.size := by omega
           clear hct HCT
           cases b2 with
           | false => (go_quiet (first | (go_at_call 20; first | (with_reducible exact quiet_left (HH1.out _)) | (with_reducible exact quiet_left (HH2.out _)) | (with_reducible exact quiet_left (HH3.out _)))); go_wp2_with fail; go_meet; exact ⟨by rw [HOK.out]; rfl, _, rfl⟩)
           | true =>
            cases b3 with
            | false => (go_quiet (first | (go_at_call 20; first | (with_reducible exact quiet_left (HH1.out _)) | (with_reducible exact quiet_left (HH2.out _)) | (with_reducible exact quiet_left (HH3.out _)))); go_wp2_with fail; go_meet; exact ⟨by rw [HOK.out]; rfl, _, rfl⟩)
            | true =>
             by_cases e1 : x = ce
             ·have f1 : (x == ce) = true := by simpa using e1
              have HR : Hid (ok = false) := by show _ = _; rw [HOK.out, decide_eq_true e1]; rfl
              clear e1
              go_quiet (first | (go_at_call 20; first | (with_reducible exact quiet_left (HH1.out _)) | (with_reducible exact quiet_left (HH2.out _)) | (with_reducible exact quiet_left (HH3.out _))))
              go_wp2_with fail
              go_meet
              exact ⟨by rw [HR.out]; rfl, _, rfl⟩
             ·have f1 : (x == ce) = false := by simpa using e1
              by_cases e2 : y = ce
              ·have f2 : (y == ce) = true := by simpa using e2
               have HR : Hid (ok = false) := by show _ = _; rw [HOK.out, decide_eq_true e2]; simp
               clear e1 e2
               go_quiet (first | (go_at_call 20; first | (with_reducible exact quiet_left (HH1.out _)) | (with_reducible exact quiet_left (HH2.out _)) | (with_reducible exact quiet_left (HH3.out _))))
               go_wp2_with fail
               go_meet
               exact ⟨by rw [HR.out]; rfl, _, rfl⟩
              ·have f2 : (y == ce) = false := by simpa using e2
               have HR : Hid (ok = true) := by show _ = _; rw [HOK.out, decide_eq_false e1, decide_eq_false e2]; rfl
               clear e1 e2
               go_quiet (first | (go_at_call 20; first | (with_reducible exact quiet_left (HH1.out _)) | (with_reducible exact quiet_left (HH2.out _)) | (with_reducible exact quiet_left (HH3.out _))))
               go_wp2_with fail
               go_meet
               exact ⟨by rw [HR.out]; rfl, _, rfl⟩
         case rest =>
          obtain ⟨rfl, m, rfl⟩ := hcut
          clear HCT HOK
          cases ok with
          | false =>
           have HT : Hid (errS K s = 1) := HBAD.out (by unfold okS; rw [← HA.out, HD.out]; simp)
           go_wp2_with fail
           go_ret
           exact ⟨by rw [HT.out]; rfl, (by repeat first|exact xA _|assumption|refine xB ?_ _|refine xC ?_|refine xD ?_ _|refine xE ?_ (by simp <;> omega) _|refine xF ?_ (by assumption))⟩
          | true =>
           have HT : Hid ((s.arcs.drop (i + 1)).all (okAr s) = s.arcs.all (okAr s)) := by show _ = _; rw [← HA.out, HD.out]; simp
           go_wp2_with fail
           go_roundg (s.arcs.length - (i + 1))
           case measure => omega
           case rel => exact ⟨i + 1, by simp, by omega, HT, (by repeat first|exact xA _|assumption|refine xB ?_ _|refine xC ?_|refine xD ?_ _|refine xE ?_ (by simp <;> omega) _|refine xF ?_ (by assumption))⟩
        ·have HP4 : Hid (s.arcs.all (okAr s) = true) := by show _ = _; rw [← HA.out, List.drop_eq_nil_of_le (by omega)]; rfl
         clear HAR HCI HA
         go_wp2_with fail
         clear y0 y1 y2 y3 y4 y5 hEr HB2
         go_loopg [11] s.chains.length (fun gk x wr => ∃ i : Nat, x = .int .i64 (i : Int) ∧ i + gk = s.chains.length ∧ Hid ((s.chains.drop i).all (chainL s) = s.chains.all (chainL s)) ∧ Hid (Ext w1 wr))
         case atStart => exact ⟨0, rfl, by omega, rfl, HE.out⟩
         case round =>
          clear HE
          obtain ⟨i, rfl, hi, HA, HE⟩ := hrel
          have HB2 := Lib.hid (HB1.out.ext HE.out)
          obtain ⟨y0, y1, y2, y3, y4, y5⟩ := HB2.out.six
          have hE0 := HE.out
          have hEr : Ext w wr := Ext.trans hE1 HE.out
          by_cases hlt : i < s.chains.length
          ·have HD0 : Hid ((s.chains.drop i).all (chainL s) = ((chainL s) s.chains[i] && (s.chains.drop (i + 1)).all (chainL s))) := all_drop hlt
           have hz2 := HB2.out.1
           obtain ⟨b, off, rfl, hb, ds, hds, hcell, v, rfl, hv⟩ := HCH.out.at_ hlt
           obtain ⟨A6, c6, rfl, hl6, hm6⟩ := hv.form
           have q0 : wr.cell? ⟨b, off + i, none⟩ = some (.slice A6 s.chains[i].length c6) := by
            have := (hEr.cell (p := ⟨b, off + (i * 1 + 0), none⟩) hb).trans (hcell 0 _ rfl)
            simpa using this
           have HC := Lib.hid (fun w2 (hx : Ext w w2) => HCHN.out w2 hx _ _ _ _ (hv.ext PcR.stable hx))
           have HD : Hid ((s.chains.drop i).all (chainL s) = (chainL s s.chains[i] && (s.chains.drop (i + 1)).all (chainL s))) := HD0.out
           clear hv hcell hds HD0
           generalize chainL s s.chains[i] = ok at *
           generalize s.chains[i].length = n6 at *
           have hi0 : (0 : Int) ≤ (i : Int) := by omega
           have hi1 : (i : Int) < (s.chains.length : Int) := by omega
           go_upto_region 30 with fail
           go_cut [172] (fun xx wx => xx = .bool (!ok) ∧ Hid (Ext wr wx))
           case first =>
            go_region_with (go_at_call 22; refine (HC.out _ (by repeat first|exact xA _|assumption|refine xB ?_ _|refine xC ?_|refine xD ?_ _|refine xE ?_ (by simp <;> omega) _|refine xF ?_ (by assumption))).mono ?_; rintro e w2 ⟨rfl, hx2⟩)
            all_goals
             go_wp2_with fail
             go_meet
             exact ⟨rfl, (by repeat first|exact xA _|assumption|refine xB ?_ _|refine xC ?_|refine xD ?_ _|refine xE ?_ (by simp <;> omega) _|refine xF ?_ (by assumption))⟩
           case rest =>
            obtain ⟨rfl, HXc⟩ := hcut
            have hxc := HXc.out
            cases ok with
            | false =>
             have HT : Hid (errS K s = 1) := HBAD.out (by unfold okS; rw [← HA.out, HD.out]; simp)
             go_wp2_with fail
             go_ret
             exact ⟨by rw [HT.out]; rfl, (by repeat first|exact xA _|assumption|refine xB ?_ _|refine xC ?_|refine xD ?_ _|refine xE ?_ (by simp <;> omega) _|refine xF ?_ (by assumption))⟩
            | true =>
             have HT : Hid ((s.chains.drop (i + 1)).all (chainL s) = s.chains.all (chainL s)) := by show _ = _; rw [← HA.out, HD.out]; simp
             go_wp2_with fail
             go_roundg (s.chains.length - (i + 1))
             case measure => omega
             case rel => exact ⟨i + 1, by simp, by omega, HT, (by repeat first|exact xA _|assumption|refine xB ?_ _|refine xC ?_|refine xD ?_ _|refine xE ?_ (by simp <;> omega) _|refine xF ?_ (by assumption))⟩
          ·have HP5 : Hid (s.chains.all (chainL s) = true) := by show _ = _; rw [← HA.out, List.drop_eq_nil_of_le (by omega)]; rfl
           clear HCH HA
           go_wp2_with fail
           clear y0 y1 y2 y3 y4 y5 hEr HB2
           go_loopg [12] s.cons.length (fun gk x wr => ∃ i : Nat, x = .int .i64 (i : Int) ∧ i + gk = s.cons.length ∧ Hid ((s.cons.drop i).all (fun c => validC K c s.points.length s.circles.length) = s.cons.all (fun c => validC K c s.points.length s.circles.length)) ∧ Hid (Ext w1 wr))
           case atStart => exact ⟨0, rfl, by omega, rfl, HE.out⟩
           case round =>
            clear HE
            obtain ⟨i, rfl, hi, HA, HE⟩ := hrel
            have HB2 := Lib.hid (HB1.out.ext HE.out)
            obtain ⟨y0, y1, y2, y3, y4, y5⟩ := HB2.out.six
            have hE0 := HE.out
            have hEr : Ext w wr := Ext.trans hE1 HE.out
            by_cases hlt : i < s.cons.length
            ·have HD0 : Hid ((s.cons.drop i).all (fun c => validC K c s.points.length s.circles.length) = ((fun c => validC K c s.points.length s.circles.length) s.cons[i] && (s.cons.drop (i + 1)).all (fun c => validC K c s.points.length s.circles.length))) := all_drop hlt
             have hz2 := HB2.out.1
             obtain ⟨b, off, rfl, hb, ds, hds, hcell, pv, cv, vv, rfl, hp, hq, hv⟩ := HCO.out.at_ hlt
             obtain ⟨A6, c6, rfl, hl6, hm6⟩ := hp.form
             obtain ⟨A7, c7, rfl, hl7, hm7⟩ := hq.form
             obtain ⟨A8, c8, rfl, hl8, hm8⟩ := hv.form
             have q0 : wr.cell? ⟨b, off + i * 5, none⟩ = _ := (hEr.cell (p := ⟨b, off + (i * 5 + 0), none⟩) hb).trans (hcell 0 _ rfl)
             have q1 : wr.cell? ⟨b, off + i * 5 + 1, none⟩ = _ := (hEr.cell (p := ⟨b, off + (i * 5 + 1), none⟩) hb).trans (hcell 1 _ rfl)
             have q2 : wr.cell? ⟨b, off + i * 5 + 2, none⟩ = _ := (hEr.cell (p := ⟨b, off + (i * 5 + 2), none⟩) hb).trans (hcell 2 _ rfl)
             have q3 : wr.cell? ⟨b, off + i * 5 + 3, none⟩ = _ := (hEr.cell (p := ⟨b, off + (i * 5 + 3), none⟩) hb).trans (hcell 3 _ rfl)
             have q4 : wr.cell? ⟨b, off + i * 5 + 4, none⟩ = _ := (hEr.cell (p := ⟨b, off + (i * 5 + 4), none⟩) hb).trans (hcell 4 _ rfl)
             have HC := Lib.hid (fun w2 (hx : Ext w w2) => HCON.out w2 s.cons[i] _ _ _ (List.getElem_mem hlt) (hp.ext IntR.stable hx) (hq.ext IntR.stable hx) (hv.ext (ExprR.stable K) hx))
             have HD : Hid ((s.cons.drop i).all (fun c => validC K c s.points.length s.circles.length) = (validC K s.cons[i] s.points.length s.circles.length && (s.cons.drop (i + 1)).all (fun c => validC K c s.points.length s.circles.length))) := HD0.out
             clear hp hq hv hcell hds HD0
             generalize validC K s.cons[i] s.points.length s.circles.length = ok at *
             generalize s.cons[i].points.length = n6 at *
             generalize s.cons[i].circles.length = n7 at *
             generalize s.cons[i].values.length = n8 at *
             generalize s.cons[i].kind = kd at *
             generalize s.cons[i].side = sd at *
             have hi0 : (0 : Int) ≤ (i : Int) := by omega
             have hi1 : (i : Int) < (s.cons.length : Int) := by omega
             go_upto_region 35 with fail
             go_cut [190] (fun xx wx => xx = .bool (!ok) ∧ Hid (Ext wr wx))
             case first =>
              go_region_with (go_at_call 23; refine (HC.out _ (by repeat first|exact xA _|assumption|refine xB ?_ _|refine xC ?_|refine xD ?_ _|refine xE ?_ (by simp <;> omega) _|refine xF ?_ (by assumption))).mono ?_; rintro e w2 ⟨rfl, hx2⟩)
              all_goals
               go_wp2_with fail
               go_meet
               exact ⟨rfl, (by repeat first|exact xA _|assumption|refine xB ?_ _|refine xC ?_|refine xD ?_ _|refine xE ?_ (by simp <;> omega) _|refine xF ?_ (by assumption))⟩
             case rest =>
              obtain ⟨rfl, HXc⟩ := hcut
              have hxc := HXc.out
              cases ok with
              | false =>
               have HT : Hid (errS K s = 1) := HBAD.out (by unfold okS; rw [← HA.out, HD.out]; simp)
               go_wp2_with fail
               go_ret
               exact ⟨by rw [HT.out]; rfl, (by repeat first|exact xA _|assumption|refine xB ?_ _|refine xC ?_|refine xD ?_ _|refine xE ?_ (by simp <;> omega) _|refine xF ?_ (by assumption))⟩
              | true =>
               have HT : Hid ((s.cons.drop (i + 1)).all (fun c => validC K c s.points.length s.circles.length) = s.cons.all (fun c => validC K c s.points.length s.circles.length)) := by show _ = _; rw [← HA.out, HD.out]; simp
               go_wp2_with fail
               go_roundg (s.cons.length - (i + 1))
               case measure => omega
               case rel => exact ⟨i + 1, by simp, by omega, HT, (by repeat first|exact xA _|assumption|refine xB ?_ _|refine xC ?_|refine xD ?_ _|refine xE ?_ (by simp <;> omega) _|refine xF ?_ (by assumption))⟩
            ·have HP6 : Hid (s.cons.all (fun c => validC K c s.points.length s.circles.length) = true) := by show _ = _; rw [← HA.out, List.drop_eq_nil_of_le (by omega)]; rfl
             clear HCO HA
             go_wp2_with fail
             have HT : Hid (errS K s = 0) := HGOOD.out (by unfold okS; rw [HP1.out, HP2.out, HP3.out, HP4.out, HP5.out, HP6.out]; rfl)
             go_ret
             exact ⟨by rw [HT.out]; rfl, (by repeat first|exact xA _|assumption|refine xB ?_ _|refine xC ?_|refine xD ?_ _|refine xE ?_ (by simp <;> omega) _|refine xF ?_ (by assumption))⟩
end Go.Proofs.YtceobmnljdhkmaaGreatDoor
