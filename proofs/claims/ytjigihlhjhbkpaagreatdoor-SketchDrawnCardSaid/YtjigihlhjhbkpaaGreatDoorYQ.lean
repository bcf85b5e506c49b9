/- size of the reference's layer 26; what it says of an expression. -/
import Derived.Test.YtjigihlhjhbkpaaGreatDoorYJ
import Derived.IntWalk
import Derived.Test.YtjigihlhjhbkpaaGreatDoorYO
import Derived.Test.YtjigihlhjhbkpaaGreatDoorYP
import Derived.Test.YtjigihlhjhbkpaaGreatDoorYM
namespace Go.Proofs.YtjigihlhjhbkpaaGreatDoor
open Go Go.RowKit
def badE (d : Nat) (e : EI) : Bool := decide (60 < d) || decide (4 < e.args.length) || decide (40 < e.name.size) || decide (4 < e.value.num.mag.length) || decide (4 < e.value.den.mag.length)
/-- The loop of size. -/
def sumL (f : EI → Nat) : Nat → List EI → Nat
 | n, [] => n
 | n, a :: l => if n < 1000 then sumL f (n + f a) l else n
def sizeE : Nat → Nat → EI → Nat
 | 0, _, _ => 1000
 | k + 1, d, e => if badE d e then 1000 else sumL (sizeE k (d + 1)) 1 e.args
theorem sumL_le (f : EI → Nat) (B : Nat) (hB : ∀ a, f a ≤ B) : ∀ (l : List EI) (n : Nat), n ≤ 999 + B → sumL f n l ≤ 999 + B
 | [], _, h => h
 | a :: l, n, h => by
  unfold sumL
  split
  ·exact sumL_le f B hB l _ (by have := hB a; omega)
  ·exact h
theorem sizeE_le : ∀ k d e, d ≤ 61 → sizeE k d e ≤ 1000 * (62 - d)
 | 0, d, e, h => by unfold sizeE; omega
 | k + 1, d, e, h => by
  unfold sizeE
  split
  ·omega
  ·next hb =>
   have hd : d ≤ 60 := by
    rcases Nat.lt_or_ge 60 d with h1 | h1
    ·exfalso; apply hb; simp [badE, h1]
    ·exact h1
   have := sumL_le (sizeE k (d + 1)) (1000 * (61 - d)) (fun a => by have := sizeE_le k (d + 1) a (by omega); omega) e.args 1 (by omega)
   omega
theorem sumL_ge (f : EI → Nat) : ∀ (l : List EI) (n : Nat), n ≤ sumL f n l
 | [], _ => Nat.le_refl _
 | a :: l, n => by
  unfold sumL
  split
  ·have := sumL_ge f l (n + f a); omega
  ·exact Nat.le_refl _
theorem sumL_mem (f : EI → Nat) : ∀ (l : List EI) (n : Nat), sumL f n l ≤ 60 → ∀ a ∈ l, f a ≤ 60
 | [], _, _ => by simp
 | a :: l, n, h => by
  unfold sumL at h
  split at h
  ·intro b hb
   rcases List.mem_cons.1 hb with rfl | hb
   ·have := sumL_ge f l (n + f b); omega
   ·exact sumL_mem f l _ h b hb
  ·omega
theorem sizeE_small : ∀ k d e, d ≤ 61 → sizeE k d e ≤ 60 → smallE (61 - d) e
 | 0, d, e, _, h => by unfold sizeE at h; omega
 | k + 1, d, e, hd, h => by
  unfold sizeE at h
  split at h
  ·omega
  ·next hb =>
   simp only [badE, Bool.not_eq_true, Bool.or_eq_false_iff, decide_eq_false_iff_not] at hb
   obtain ⟨⟨⟨⟨h1, h2⟩, h3⟩, h4⟩, h5⟩ := hb
   obtain ⟨j, hj⟩ : ∃ j, 61 - d = j + 1 := ⟨60 - d, by omega⟩
   rw [hj]
   refine ⟨by omega, by omega, by omega, by omega, fun a ha => ?_⟩
   have := sizeE_small k (d + 1) a (by omega) (sumL_mem _ _ _ h a ha)
   rwa [show 61 - (d + 1) = j by omega] at this
theorem ExprR.lower : ∀ (k K : Nat) (w : World) (cs : List Value) (e : EI), ExprR K w cs e → smallE k e → ExprR k w cs e
 | 0, _, _, _, _, _, hs => hs.elim
 | k + 1, 0, _, _, _, h, _ => h.elim
 | k + 1, K + 1, w, cs, e, h, hs => by
  obtain ⟨u, v, sl, h1, h2, h3, A, c, h4, h5, h6, h7⟩ := h
  refine ⟨u, v, sl, h1, h2, h3, A, c, h4, h5, h6, fun hne => ?_⟩
  obtain ⟨b, off, g1, g2, g3⟩ := h7 hne
  refine ⟨b, off, g1, g2, fun i x hx => ?_⟩
  obtain ⟨ds, e1, e2, e3⟩ := g3 i x hx
  exact ⟨ds, e1, e2, ExprR.lower k K w ds x e3 (hs.2.2.2.2 x (List.mem_of_getElem? hx))⟩
set_option maxRecDepth 100000 in
set_option maxHeartbeats 1600000 in
theorem ref26_size : ∀ (k d : Nat) {e : EI} {cs : List Value} {w : World} (_ : ExprR k w cs e) (_ : d ≤ 61),
  Calls Tryz.prog 46 #[.agg cs.toArray, .int .i64 (d : Int)] w fun x w' => x = .returned (.int .i64 (sizeE k d e : Nat)) ∧ Ext w w'
 | 0, _, _, _, _, h, _ => h.elim
 | k + 1, d, e, cs, w, h, hd => by
  obtain ⟨u, v, sl, rfl, hu, hv, hsl⟩ := h
  obtain ⟨A, c, rfl, hl, hm0, hel⟩ := hsl
  have HM0 := Lib.hid hm0
  have HEL := Lib.hid hel
  obtain ⟨A1, c1, rfl, hc1, hc1'⟩ := hu.form
  obtain ⟨A2, c2, rfl, hc2, hc2'⟩ := hv.form
  have HBX := Lib.hid (CellsAt.new w [.int .i64 e.op, .bool e.value.num.neg, .slice A1 e.value.num.mag.length c1, .bool e.value.den.neg, .slice A2 e.value.den.mag.length c2, .string e.name, .slice A e.args.length c] 91)
  have HZ : Hid (sizeE (k + 1) d e = if badE d e then 1000 else sumL (sizeE k (d + 1)) 1 e.args) := rfl
  have HB : Hid (badE d e = (decide (60 < d) || decide (4 < e.args.length) || decide (40 < e.name.size) || decide (4 < e.value.num.mag.length) || decide (4 < e.value.den.mag.length))) := rfl
  have HB4 : Hid (badE d e = false → e.args.length ≤ 4 ∧ d ≤ 60) := by
   intro h; rw [HB.out] at h; simp at h; omega
  clear hu hv hel hm0
  have i1 : decide (60 < (d : Int)) = decide (60 < d) := by rw [decide_eq_decide]; omega
  generalize e.value.num.mag.length = l1 at *
  generalize e.value.den.mag.length = l2 at *
  generalize e.value.num.neg = b1 at *
  generalize e.value.den.neg = b2 at *
  generalize e.op = op at *
  generalize e.name = nm at *
  generalize badE d e = bad at *
  obtain ⟨y0, y1, y2, y3, y4, y5, y6⟩ := HBX.out.seven
  go_enter Tryz.func46, Tryz.ntmps46
  go_upto_region 1 with fail
  go_cut [36] (fun x wx => x = .bool bad ∧ wx = w.alloc (.cells #[.int .i64 op, .bool b1, .slice A1 l1 c1, .bool b2, .slice A2 l2 c2, .string nm, .slice A e.args.length c] 91))
  case first =>
   by_cases t1 : 60 < d
   ·have HX : Hid (bad = true) := by show _ = _; rw [HB.out]; simp [t1]
    go_wp2_with fail
    go_meet
    exact ⟨by rw [HX.out], rfl⟩
   by_cases t2 : 4 < e.args.length
   ·have HX : Hid (bad = true) := by show _ = _; rw [HB.out]; simp [t2]
    go_wp2_with fail
    go_meet
    exact ⟨by rw [HX.out], rfl⟩
   by_cases t3 : 40 < nm.size
   ·have HX : Hid (bad = true) := by show _ = _; rw [HB.out]; simp [t3]
    go_wp2_with fail
    go_meet
    exact ⟨by rw [HX.out], rfl⟩
   by_cases t4 : 4 < l1
   ·have HX : Hid (bad = true) := by show _ = _; rw [HB.out]; simp [t4]
    go_wp2_with fail
    go_meet
    exact ⟨by rw [HX.out], rfl⟩
   by_cases t5 : 4 < l2
   ·have HX : Hid (bad = true) := by show _ = _; rw [HB.out]; simp [t5]
    go_wp2_with fail
    go_meet
    exact ⟨by rw [HX.out]; first | rfl | (congr 1; exact decide_eq_true (by omega)) | (congr 1; simp; omega), rfl⟩
   have HX : Hid (bad = false) := by show _ = _; rw [HB.out]; simp; omega
   go_wp2_with fail
   go_meet
   exact ⟨by rw [HX.out]; first | rfl | (congr 1; exact decide_eq_false (by omega)) | (congr 1; simp; omega), rfl⟩
  case rest =>
   obtain ⟨rfl, rfl⟩ := hcut
   clear y0 y1 y2 y3 y4 y5 y6 HB
   have hE0 : Ext w (w.alloc (.cells #[.int .i64 op, .bool b1, .slice A1 l1 c1, .bool b2, .slice A2 l2 c2, .string nm, .slice A e.args.length c] 91)) := Ext.alloc _ _
   cases bad with
   | true =>
    go_wp2_with fail
    refine bodyPost_ret (v := .int .i64 1000) ?_ rfl ⟨by rw [HZ.out]; rfl, hE0⟩
    simp [results, Tryz.results46, go_sem]
   | false =>
    obtain ⟨h4, hd60⟩ := HB4.out rfl
    have HZ2 : Hid (sizeE (k + 1) d e = sumL (sizeE k (d + 1)) 1 e.args) := by show _ = _; rw [HZ.out]; rfl
    clear HZ HB4
    obtain ⟨y0, y1, y2, y3, y4, y5, y6⟩ := HBX.out.seven
    go_wp2_with fail
    clear y0 y1 y2 y3 y4 y5 y6
    go_loopg [5, 6] e.args.length (fun gk y x wr => ∃ i n : Nat, x = .int .i64 (i : Int) ∧ y = .int .i64 (n : Int) ∧ n ≤ 999 + 1000 * 61 ∧ i + gk = e.args.length ∧ Hid (sumL (sizeE k (d + 1)) n (e.args.drop i) = sumL (sizeE k (d + 1)) 1 e.args) ∧ Hid (Ext (w.alloc (.cells #[.int .i64 op, .bool b1, .slice A1 l1 c1, .bool b2, .slice A2 l2 c2, .string nm, .slice A e.args.length c] 91)) wr))
    case atStart => exact ⟨0, 1, rfl, rfl, by omega, by omega, rfl, Ext.refl _⟩
    case round =>
     obtain ⟨i, n, rfl, rfl, hn, hi, HA, HE⟩ := hrel
     obtain ⟨y0, y1, y2, y3, y4, y5, y6⟩ := (HBX.out.ext HE.out).seven
     have hEr : Ext w wr := Ext.trans (Ext.alloc _ _) HE.out
     by_cases hlt : i < e.args.length
     ·by_cases hn1 : n < 1000
      ·obtain ⟨b, off, rfl, hb, hel⟩ := HEL.out (by intro e0; rw [e0] at hlt; simp at hlt)
       have hx0 : e.args[i]? = some e.args[i] := List.getElem?_eq_getElem hlt
       obtain ⟨ds, hds, hcell, hR⟩ := hel i _ hx0
       match ds, hds with
       | [d0, d1, d2, d3, d4, d5, d6], _ =>
        have q0 : wr.cell? ⟨b, off + i * 7, none⟩ = some d0 := (hEr.cell (p := ⟨b, off + (i * 7 + 0), none⟩) hb).trans (hcell 0 _ rfl)
        have q1 : wr.cell? ⟨b, off + i * 7 + 1, none⟩ = some d1 := (hEr.cell (p := ⟨b, off + (i * 7 + 1), none⟩) hb).trans (hcell 1 _ rfl)
        have q2 : wr.cell? ⟨b, off + i * 7 + 2, none⟩ = some d2 := (hEr.cell (p := ⟨b, off + (i * 7 + 2), none⟩) hb).trans (hcell 2 _ rfl)
        have q3 : wr.cell? ⟨b, off + i * 7 + 3, none⟩ = some d3 := (hEr.cell (p := ⟨b, off + (i * 7 + 3), none⟩) hb).trans (hcell 3 _ rfl)
        have q4 : wr.cell? ⟨b, off + i * 7 + 4, none⟩ = some d4 := (hEr.cell (p := ⟨b, off + (i * 7 + 4), none⟩) hb).trans (hcell 4 _ rfl)
        have q5 : wr.cell? ⟨b, off + i * 7 + 5, none⟩ = some d5 := (hEr.cell (p := ⟨b, off + (i * 7 + 5), none⟩) hb).trans (hcell 5 _ rfl)
        have q6 : wr.cell? ⟨b, off + i * 7 + 6, none⟩ = some d6 := (hEr.cell (p := ⟨b, off + (i * 7 + 6), none⟩) hb).trans (hcell 6 _ rfl)
        have HC' := ref26_size k (d + 1) (ExprR.stable k _ _ _ _ hEr hR) (by omega)
        rw [show ((d + 1 : Nat) : Int) = (d : Int) + 1 by omega] at HC'
        have HC := Lib.hid HC'
        have hdl := sizeE_le k (d + 1) e.args[i] (by omega)
        have hdl2 : sizeE k (d + 1) e.args[i] ≤ 61000 := by omega
        have HDR : Hid (sumL (sizeE k (d + 1)) n (e.args.drop i) = sumL (sizeE k (d + 1)) (n + sizeE k (d + 1) e.args[i]) (e.args.drop (i + 1))) := by show _ = _; rw [List.drop_eq_getElem_cons hlt, sumL, if_pos hn1]
        clear hel hcell hR HC' hdl
        generalize sizeE k (d + 1) e.args[i] = fk at *
        go_wp2_with fail
        refine HC.out.mono ?_
        rintro x w2 ⟨rfl, hx2⟩
        go_wp2_with fail
        go_roundg (e.args.length - (i + 1))
        case measure => omega
        case rel => exact ⟨i + 1, n + fk, by simp, by simp, by omega, by omega, (HDR.out.symm.trans HA.out), HE.out.trans hx2⟩
      ·have HT : Hid (n = sizeE (k + 1) d e) := by show _ = _; rw [HZ2.out, ← HA.out, List.drop_eq_getElem_cons hlt, sumL, if_neg hn1]
       have hn2 : ¬ ((n : Int) < 1000) := by omega
       go_wp2_with fail
       refine bodyPost_ret (v := .int .i64 (n : Int)) ?_ rfl ⟨by rw [← HT.out], hEr⟩
       simp [results, Tryz.results46, go_sem]
     ·have HT : Hid (n = sizeE (k + 1) d e) := by show _ = _; rw [HZ2.out, ← HA.out, List.drop_eq_nil_of_le (by omega)]; rfl
      go_wp2_with fail
      refine bodyPost_ret (v := .int .i64 (n : Int)) ?_ rfl ⟨by rw [← HT.out], hEr⟩
      simp [results, Tryz.results46, go_sem]
end Go.Proofs.YtjigihlhjhbkpaaGreatDoor
namespace Go.Proofs.YtjigihlhjhbkpaaGreatDoor
open Go Go.RowKit
set_option maxRecDepth 100000 in
set_option maxHeartbeats 1600000 in
theorem ref26_many {K : Nat} {s : SkI} {v0 v1 v2 v3 v4 v5 : Value} {w : World} (h : SkAt K w v0 v1 v2 v3 v4 v5 s) :
  Calls Tryz.prog 47 #[.agg #[v0, v1, v2, v3, v4, v5]] w fun e w' => e = .returned (.bool (manyL s)) ∧ Ext w w' := by
 obtain ⟨A0, c0, rfl, hl0, hm0⟩ := h.points.form
 obtain ⟨A1, c1, rfl, hl1, hm1⟩ := h.circles.form
 obtain ⟨A2, c2, rfl, hl2, hm2⟩ := h.segs.form
 obtain ⟨A3, c3, rfl, hl3, hm3⟩ := h.arcs.form
 obtain ⟨A4, c4, rfl, hl4, hm4⟩ := h.chains.form
 obtain ⟨A5, c5, rfl, hl5, hm5⟩ := h.cons.form
 have HCH := Lib.hid h.chains
 have HML : Hid (manyL s = (s.chains.any (fun c => decide (200 < c.length)) || decide (200 < s.points.length) || decide (200 < s.circles.length) || decide (200 < s.segs.length) || decide (200 < s.arcs.length) || decide (200 < s.chains.length) || decide (200 < s.cons.length))) := rfl
 have HBX := Lib.hid (CellsAt.new w [.slice A0 s.points.length c0, .slice A1 s.circles.length c1, .slice A2 s.segs.length c2, .slice A3 s.arcs.length c3, .slice A4 s.chains.length c4, .slice A5 s.cons.length c5] 29)
 clear h
 generalize s.points.length = n0 at *
 generalize s.circles.length = n1 at *
 generalize s.segs.length = n2 at *
 generalize s.arcs.length = n3 at *
 generalize s.cons.length = n5 at *
 obtain ⟨y0, y1, y2, y3, y4, y5⟩ := HBX.out.six
 go_enter Tryz.func47, Tryz.ntmps47
 go_wp2_with fail
 go_loopg [3] s.chains.length (fun gk x wr => ∃ i : Nat, x = .int .i64 (i : Int) ∧ i + gk = s.chains.length ∧ Hid ((s.chains.drop i).any (fun c => decide (200 < c.length)) = s.chains.any (fun c => decide (200 < c.length))) ∧ wr = w.alloc (.cells #[.slice A0 n0 c0, .slice A1 n1 c1, .slice A2 n2 c2, .slice A3 n3 c3, .slice A4 s.chains.length c4, .slice A5 n5 c5] 29))
 case atStart => exact ⟨0, rfl, by omega, rfl, rfl⟩
 case round =>
  obtain ⟨i, rfl, hi, HA, rfl⟩ := hrel
  have hE : Ext w (w.alloc (.cells #[.slice A0 n0 c0, .slice A1 n1 c1, .slice A2 n2 c2, .slice A3 n3 c3, .slice A4 s.chains.length c4, .slice A5 n5 c5] 29)) := Ext.alloc _ _
  by_cases hlt : i < s.chains.length
  ·obtain ⟨b, off, rfl, hb, ds, hds, hcell, v, rfl, hv⟩ := HCH.out.at_ hlt
   obtain ⟨A6, c6, rfl, hl6, hm6⟩ := hv.form
   have q0 : (w.alloc (.cells #[.slice A0 n0 c0, .slice A1 n1 c1, .slice A2 n2 c2, .slice A3 n3 c3, .slice (some ⟨b, off, none⟩) s.chains.length c4, .slice A5 n5 c5] 29)).cell? ⟨b, off + i, none⟩ = some (.slice A6 s.chains[i].length c6) := by
    have := (hE.cell (p := ⟨b, off + (i * 1 + 0), none⟩) hb).trans (hcell 0 _ rfl)
    simpa using this
   have HDR : Hid ((s.chains.drop i).any (fun c => decide (200 < c.length)) = (decide (200 < s.chains[i].length) || (s.chains.drop (i + 1)).any (fun c => decide (200 < c.length)))) := by show _ = _; rw [List.drop_eq_getElem_cons hlt, List.any_cons]
   clear hcell hv
   generalize s.chains[i].length = m at *
   by_cases hm : 200 < m
   ·have HT : Hid (manyL s = true) := by show _ = _; rw [HML.out, ← HA.out, HDR.out]; simp [hm]
    go_wp2_with fail
    refine bodyPost_ret (v := .bool true) ?_ rfl ⟨by rw [HT.out], hE⟩
    simp [results, Tryz.results47, go_sem]
   ·have HT : Hid ((s.chains.drop (i + 1)).any (fun c => decide (200 < c.length)) = s.chains.any (fun c => decide (200 < c.length))) := by show _ = _; rw [← HA.out, HDR.out]; simp [hm]
    go_wp2_with fail
    go_roundg (s.chains.length - (i + 1))
    case measure => omega
    case rel => exact ⟨i + 1, by simp, by omega, HT, rfl⟩
  ·have HT : Hid (manyL s = (decide (200 < n0) || decide (200 < n1) || decide (200 < n2) || decide (200 < n3) || decide (200 < s.chains.length) || decide (200 < n5))) := by
    show _ = _; rw [HML.out, ← HA.out, List.drop_eq_nil_of_le (by omega)]; simp
   clear HML HA HCH
   generalize hn4 : s.chains.length = n4 at *
   have HN4 := Lib.hid hn4
   clear hn4
   by_cases t0 : 200 < n0
   ·have HX : Hid (manyL s = true) := by show _ = _; rw [HT.out]; simp [t0]
    go_wp2_with fail
    refine bodyPost_ret (v := .bool true) ?_ rfl ⟨by rw [HX.out], hE⟩
    simp [results, Tryz.results47, go_sem]
   by_cases t1 : 200 < n1
   ·have HX : Hid (manyL s = true) := by show _ = _; rw [HT.out]; simp [t1]
    go_wp2_with fail
    refine bodyPost_ret (v := .bool true) ?_ rfl ⟨by rw [HX.out], hE⟩
    simp [results, Tryz.results47, go_sem]
   by_cases t2 : 200 < n2
   ·have HX : Hid (manyL s = true) := by show _ = _; rw [HT.out]; simp [t2]
    go_wp2_with fail
    refine bodyPost_ret (v := .bool true) ?_ rfl ⟨by rw [HX.out], hE⟩
    simp [results, Tryz.results47, go_sem]
   by_cases t3 : 200 < n3
   ·have HX : Hid (manyL s = true) := by show _ = _; rw [HT.out]; simp [t3]
    go_wp2_with fail
    refine bodyPost_ret (v := .bool true) ?_ rfl ⟨by rw [HX.out], hE⟩
    simp [results, Tryz.results47, go_sem]
   by_cases t4 : 200 < n4
   ·have HX : Hid (manyL s = true) := by show _ = _; rw [HT.out]; simp [t4]
    go_wp2_with fail
    refine bodyPost_ret (v := .bool true) ?_ rfl ⟨by rw [HX.out], hE⟩
    simp [results, Tryz.results47, go_sem]
   by_cases t5 : 200 < n5
   ·have HX : Hid (manyL s = true) := by show _ = _; rw [HT.out]; simp [t5]
    go_wp2_with fail
    refine bodyPost_ret (v := .bool true) ?_ rfl ⟨by rw [HX.out], hE⟩
    simp [results, Tryz.results47, go_sem]
    try omega
   have HX : Hid (manyL s = false) := by show _ = _; rw [HT.out]; simp; omega
   go_wp2_with fail
   refine bodyPost_ret (v := .bool false) ?_ rfl ⟨by rw [HX.out], hE⟩
   simp [results, Tryz.results47, go_sem]
   try omega
def lastOf (s : SkI) (c : List PcI) (i : Nat) : Option Int := if i = 0 then none else some (endsOf s (c.getD (i - 1) ⟨false, 0, false⟩)).2
set_option maxRecDepth 100000 in
set_option maxHeartbeats 3200000 in
theorem ref26_chain {K : Nat} {s : SkI} {v0 v1 v2 v3 v4 v5 : Value} {A : Option Addr} {n cp : Nat} {c : List PcI} {w : World} (h : SkAt K w v0 v1 v2 v3 v4 v5 s) (hc : ArrAt 3 PcR w (.slice A n cp) c) :
  Calls Tryz.prog 51 #[.agg #[v0, v1, v2, v3, v4, v5], .slice A n cp] w fun e w' => e = .returned (.bool (chainL s c)) ∧ Ext w w' := by
 obtain ⟨A2, c2, rfl, hl2, hm2⟩ := h.segs.form
 obtain ⟨A3, c3, rfl, hl3, hm3⟩ := h.arcs.form
 obtain ⟨rfl, hcl, hcm⟩ := hc.len
 have HBX := Lib.hid (CellsAt.new w [v0, v1, .slice A2 s.segs.length c2, .slice A3 s.arcs.length c3, v4, v5] 29)
 have HCL : Hid (chainL s c = (chainFrom s none c && decide (0 < c.length))) := rfl
 have HC := Lib.hid hc
 have HEN := Lib.hid (fun w1 (hx : Ext w w1) (p : PcI) (hp : okPc s p = true) => ref26_Ends (p := p) (h.ext hx) hp)
 clear h hc
 obtain ⟨y0, y1, y2, y3, y4, y5⟩ := HBX.out.six
 go_enter Tryz.func51, Tryz.ntmps51
 go_wp2_with fail
 clear y0 y1 y2 y3 y4 y5
 go_loopg [5] c.length (fun gk x wr => ∃ i : Nat, x = .int .i64 (i : Int) ∧ i + gk = c.length ∧ Hid (chainFrom s (lastOf s c i) (c.drop i) = chainFrom s none c) ∧ Hid (∀ j (hj : j < c.length), j < i → okPc s c[j] = true) ∧ Hid (Ext (w.alloc (.cells #[v0, v1, .slice A2 s.segs.length c2, .slice A3 s.arcs.length c3, v4, v5] 29)) wr))
 case atStart => exact ⟨0, rfl, by omega, rfl, fun j hj h => by omega, Ext.refl _⟩
 case round =>
  obtain ⟨i, rfl, hi, HA, HO, HE⟩ := hrel
  obtain ⟨y0, y1, y2, y3, y4, y5⟩ := (HBX.out.ext HE.out).six
  have hEr : Ext w wr := Ext.trans (Ext.alloc _ _) HE.out
  by_cases hlt : i < c.length
  ·obtain ⟨b, off, rfl, hb, ds, hds, hcell, hR⟩ := HC.out.at_ hlt
   rw [hR] at hcell
   have q0 : wr.cell? ⟨b, off + i * 3, none⟩ = some (.bool c[i].arc) := (hEr.cell (p := ⟨b, off + (i * 3 + 0), none⟩) hb).trans (hcell 0 _ rfl)
   have q1 : wr.cell? ⟨b, off + i * 3 + 1, none⟩ = some (.int .i64 c[i].index) := (hEr.cell (p := ⟨b, off + (i * 3 + 1), none⟩) hb).trans (hcell 1 _ rfl)
   have q2 : wr.cell? ⟨b, off + i * 3 + 2, none⟩ = some (.bool c[i].back) := (hEr.cell (p := ⟨b, off + (i * 3 + 2), none⟩) hb).trans (hcell 2 _ rfl)
   have HDR : Hid (chainFrom s (lastOf s c i) (c.drop i) = (okPc s c[i] && (match lastOf s c i with | none => true | some e => decide (e = (endsOf s c[i]).1)) && chainFrom s (some (endsOf s c[i]).2) (c.drop (i + 1)))) := by
    show _ = _; rw [List.drop_eq_getElem_cons hlt]; rfl
   have HLS : Hid (lastOf s c (i + 1) = some (endsOf s c[i]).2) := by
    show _ = _; simp [lastOf, List.getD_eq_getElem?_getD, List.getElem?_eq_getElem hlt]
   have HEi := Lib.hid (fun w1 (hx : Ext w w1) (hp : okPc s c[i] = true) => HEN.out w1 hx (c[i]'hlt) hp)
   have HOi : Hid (okPc s c[i] = true → ∀ j (hj : j < c.length), j < i + 1 → okPc s c[j] = true) := by
    intro h1 j hj hji
    rcases Nat.lt_or_ge j i with h2 | h2
    ·exact HO.out j hj h2
    ·have : j = i := by omega
     subst this; exact h1
   have HOK : Hid (okPc s c[i] = if c[i].arc then hasL s.arcs.length c[i].index else hasL s.segs.length c[i].index) := rfl
   have HH1 := Lib.hid (fun w => ref26_has (s.arcs.length : Int) c[i].index w)
   have HH2 := Lib.hid (fun w => ref26_has (s.segs.length : Int) c[i].index w)
   clear hcell hR hds
   generalize hasL s.arcs.length c[i].index = ok1 at *
   generalize hasL s.segs.length c[i].index = ok2 at *
   generalize okPc s c[i] = okc at *
   generalize hep : endsOf s c[i] = ep at *
   have HEP := Lib.hid hep
   clear hep
   obtain ⟨eb, ee⟩ := ep
   generalize c[i].arc = arc at *
   generalize c[i].index = ix at *
   generalize c[i].back = bk at *
   go_upto_region 4 with fail
   go_cut [52] (fun x wx => x = .bool (!okc) ∧ ∃ m, wx = wr.drewN m)
   case first =>
    cases arc with
    | true =>
     cases ok1 with
     | true => (go_quiet ((go_at_call 49; exact quiet_left (HH1.out _))); go_wp2_with fail; go_meet; exact ⟨by rw [HOK.out]; rfl, _, rfl⟩)
     | false => (go_quiet ((go_at_call 49; exact quiet_left (HH1.out _))); go_wp2_with fail; go_meet; exact ⟨by rw [HOK.out]; rfl, _, rfl⟩)
    | false =>
     cases ok2 with
     | true => (go_quiet ((go_at_call 49; exact quiet_left (HH2.out _))); go_wp2_with fail; go_meet; exact ⟨by rw [HOK.out]; rfl, _, rfl⟩)
     | false => (go_quiet ((go_at_call 49; exact quiet_left (HH2.out _))); go_wp2_with fail; go_meet; exact ⟨by rw [HOK.out]; rfl, _, rfl⟩)
   case rest =>
    obtain ⟨rfl, m, rfl⟩ := hcut
    have hEm : Ext w (wr.drewN m) := hEr.pdrewN _
    cases okc with
    | false =>
     have HT : Hid (chainL s c = false) := by show _ = _; rw [HCL.out, ← HA.out, HDR.out]; rfl
     go_wp2_with fail
     refine bodyPost_ret (v := .bool false) ?_ rfl ⟨by rw [HT.out], hEm⟩
     simp [results, Tryz.results51, go_sem]
    | true =>
     have HDR2 : Hid (chainFrom s (lastOf s c i) (c.drop i) = ((match lastOf s c i with | none => true | some e => decide (e = eb)) && chainFrom s (some ee) (c.drop (i + 1)))) := by show _ = _; rw [HDR.out]; rfl
     clear HDR HOK HH1 HH2 ok1 ok2
     by_cases hi0 : 0 < i
     ·have hlt1 : i - 1 < c.length := by omega
      obtain ⟨j, rfl⟩ : ∃ j, i = j + 1 := ⟨i - 1, by omega⟩
      have hj : j < c.length := by omega
      obtain ⟨b', off', hbo, hb', ds, hds, hcell, hR⟩ := HC.out.at_ hj
      obtain ⟨rfl, rfl⟩ : b = b' ∧ off = off' := by injection hbo with hbo; injection hbo with h1 h2; exact ⟨h1, h2⟩
      rw [hR] at hcell
      have p0 : wr.cell? ⟨b, off + j * 3, none⟩ = some (.bool c[j].arc) := (hEr.cell (p := ⟨b, off + (j * 3 + 0), none⟩) hb).trans (hcell 0 _ rfl)
      have p1 : wr.cell? ⟨b, off + j * 3 + 1, none⟩ = some (.int .i64 c[j].index) := (hEr.cell (p := ⟨b, off + (j * 3 + 1), none⟩) hb).trans (hcell 1 _ rfl)
      have p2 : wr.cell? ⟨b, off + j * 3 + 2, none⟩ = some (.bool c[j].back) := (hEr.cell (p := ⟨b, off + (j * 3 + 2), none⟩) hb).trans (hcell 2 _ rfl)
      have HEj := Lib.hid (fun w1 (hx : Ext w w1) => HEN.out w1 hx (c[j]'hj) (HO.out j hj (by omega)))
      have HLJ : Hid (lastOf s c (j + 1) = some (endsOf s c[j]).2) := by
       show _ = _; simp [lastOf, List.getD_eq_getElem?_getD, List.getElem?_eq_getElem hj]
      clear hcell hR hds hbo
      generalize endsOf s c[j] = ej at *
      obtain ⟨e0, e1⟩ := ej
      generalize c[j].arc = arc' at *
      generalize c[j].index = ix' at *
      generalize c[j].back = bk' at *
      have HDR3 : Hid (chainFrom s (lastOf s c (j + 1)) (c.drop (j + 1)) = (decide (e1 = eb) && chainFrom s (some ee) (c.drop (j + 1 + 1)))) := by show _ = _; rw [HDR2.out, HLJ.out]
      have ij : (j : Int) + 1 - 1 = (j : Int) := by omega
      clear HDR2 HLJ hlt1
      go_upto_region 7 with fail
      go_cut [7] (fun x wx => x = .int .i64 e1 ∧ Hid (Ext wr wx))
      case first =>
       have wj0 : IntKind.i64.wrap (j : Int) = (j : Int) := IntWalk.i64_in _ (by omega)
       have wj1 : IntKind.i64.wrap ((j : Int) + 1 - 1) = (j : Int) := by rw [ij]; exact wj0
       have hjn : j < c.length := hj
       go_region_with (go_at_call 93; refine (HEj.out _ (by repeat first|exact xA _|assumption|refine xB ?_ _|refine xC ?_|refine xD ?_ _|refine xE ?_ (by simp <;> omega) _|refine xF ?_ (by assumption))).mono ?_; rintro e w2 ⟨rfl, hx2⟩)
       all_goals
        go_wp2_with fail
        go_meet
        exact ⟨rfl, (by repeat first|exact xA _|assumption|refine xB ?_ _|refine xC ?_|refine xD ?_ _|refine xE ?_ (by simp <;> omega) _|refine xF ?_ (by assumption))⟩
      case rest =>
       obtain ⟨rfl, HX⟩ := hcut
       have hEc : Ext w wc := hEr.trans HX.out
       clear y0 y1 y2 y3 y4 y5 p0 p1 p2
       obtain ⟨y0, y1, y2, y3, y4, y5⟩ := (HBX.out.ext (Ext.trans HE.out HX.out)).six
       have r0 := (HX.out.cell (p := ⟨b, off + (j + 1) * 3, none⟩) (Nat.lt_of_lt_of_le hb hEr.size)).trans q0
       have r1 := (HX.out.cell (p := ⟨b, off + (j + 1) * 3 + 1, none⟩) (Nat.lt_of_lt_of_le hb hEr.size)).trans q1
       have r2 := (HX.out.cell (p := ⟨b, off + (j + 1) * 3 + 2, none⟩) (Nat.lt_of_lt_of_le hb hEr.size)).trans q2
       clear q0 q1 q2
       go_upto_region 8 with fail
       go_cut [8] (fun x wx => x = .int .i64 eb ∧ Hid (Ext wc wx))
       case first =>
        go_region_with (go_at_call 93; refine (HEi.out _ (by repeat first|exact xA _|assumption|refine xB ?_ _|refine xC ?_|refine xD ?_ _|refine xE ?_ (by simp <;> omega) _|refine xF ?_ (by assumption)) trivial).mono ?_; rintro e w2 ⟨rfl, hx2⟩)
        all_goals
         go_wp2_with fail
         go_meet
         exact ⟨rfl, (by repeat first|exact xA _|assumption|refine xB ?_ _|refine xC ?_|refine xD ?_ _|refine xE ?_ (by simp <;> omega) _|refine xF ?_ (by assumption))⟩
       case rest =>
        rename_i wd _
        obtain ⟨rfl, HY⟩ := hcut
        by_cases he : e1 = eb
        ·have he' : (e1 != eb) = false := by simp [he]
         have HR1 : Hid (chainFrom s (lastOf s c (j + 1 + 1)) (c.drop (j + 1 + 1)) = chainFrom s none c) := by
          show _ = _; rw [← HA.out, HDR3.out, HLS.out, decide_eq_true he]; rfl
         clear he
         go_wp2_with fail
         go_roundg (c.length - (j + 1 + 1))
         case measure => omega
         case rel => exact ⟨j + 1 + 1, by simp, by omega, HR1, HOi.out trivial, HE.out.trans (Ext.trans HX.out HY.out)⟩
        ·have he' : (e1 != eb) = true := by simpa using he
         have HT : Hid (chainL s c = false) := by show _ = _; rw [HCL.out, ← HA.out, HDR3.out, decide_eq_false he]; rfl
         clear he
         go_wp2_with fail
         refine bodyPost_ret (v := .bool false) ?_ rfl ⟨by rw [HT.out], hEc.trans HY.out⟩
         simp [results, Tryz.results51, go_sem]
     ·obtain rfl : i = 0 := by omega
      have HR1 : Hid (chainFrom s (lastOf s c (0 + 1)) (c.drop (0 + 1)) = chainFrom s none c) := by
       show _ = _; rw [← HA.out, HDR2.out, HLS.out]; rfl
      go_wp2_with fail
      go_roundg (c.length - (0 + 1))
      case measure => omega
      case rel => exact ⟨0 + 1, by simp, by omega, HR1, HOi.out trivial, HE.out.pdrewN _⟩
  ·have HT : Hid (chainFrom s none c = true) := by show _ = _; rw [← HA.out, List.drop_eq_nil_of_le (by omega)]; rfl
   have HT2 : Hid (chainL s c = decide (0 < c.length)) := by show _ = _; rw [HCL.out, HT.out]; rfl
   go_wp2_with fail
   refine bodyPost_ret (v := .bool (decide (0 < c.length))) ?_ rfl ⟨by rw [HT2.out], hEr⟩
   simp [results, Tryz.results51, go_sem]
end Go.Proofs.YtjigihlhjhbkpaaGreatDoor
namespace Go.Proofs.YtjigihlhjhbkpaaGreatDoor
open Go Go.RowKit
theorem ref25_Valid (k : Nat) (hk : k ≤ 100000) {c : CI} {pv cv vv : Value} {np nc : Int} {w : World} (hp : Ints w pv c.points) (hc : Ints w cv c.circles) (hv : ArrAt 7 (ExprR k) w vv c.values) (hs : ∀ e ∈ c.values, smallE k e) :
  Calls Tryz.prog 52 #[.agg #[.int .i64 c.kind, pv, cv, vv, .int .i64 c.side], .int .i64 np, .int .i64 nc] w fun e w' => e = .returned (.bool (validC k c np nc)) ∧ Ext w w' := by
 by_cases h5 : c.kind = 5
 ·exact ref25_Valid_k5 k hk hp hc hv hs h5
 by_cases h6 : c.kind = 6
 ·exact ref25_Valid_k6 k hk hp hc hv hs h6
 by_cases h7 : c.kind = 7
 ·exact ref25_Valid_k7 k hk hp hc hv hs h7
 by_cases h8 : c.kind = 8
 ·exact ref25_Valid_k8 k hk hp hc hv hs h8
 exact ref25_Valid_np k hk hp hc hv hs (by simp [isPair, h5, h6, h7, h8])
/-- Numbers and formulas of a bounded size. -/
structure SmallS (K : Nat) (s : SkI) : Prop where
 points : ∀ p ∈ s.points, p.x.num.mag.length ≤ 1000 ∧ p.x.den.mag.length ≤ 1000 ∧ p.y.num.mag.length ≤ 1000 ∧ p.y.den.mag.length ≤ 1000
 circles : ∀ c ∈ s.circles, c.radius.num.mag.length ≤ 1000 ∧ c.radius.den.mag.length ≤ 1000
 cons : ∀ c ∈ s.cons, ∀ e ∈ c.values, smallE K e
theorem errS_bad {K : Nat} {s : SkI} (h0 : manyL s = false) (h : okS K s = false) : errS K s = 1 := by simp [errS, h0, h]
theorem errS_ok {K : Nat} {s : SkI} (h0 : manyL s = false) (h : okS K s = true) : errS K s = 0 := by simp [errS, h0, h]
theorem all_drop {α : Type} {p : α → Bool} {xs : List α} {i : Nat} (h : i < xs.length) : (xs.drop i).all p = (p xs[i] && (xs.drop (i + 1)).all p) := by rw [List.drop_eq_getElem_cons h, List.all_cons]
set_option maxRecDepth 100000 in
set_option maxHeartbeats 6400000 in
theorem ref26_Valid {K : Nat} (hK : K ≤ 100000) {s : SkI} {v0 v1 v2 v3 v4 v5 : Value} {w : World} (h : SkAt K w v0 v1 v2 v3 v4 v5 s) (hs : SmallS K s) :
  Calls Tryz.prog 16 #[.agg #[v0, v1, v2, v3, v4, v5]] w fun e w' => e = .returned (.int .i64 (errS K s)) ∧ Ext w w' := by
 obtain ⟨A0, c0, rfl, hl0, hm0⟩ := h.points.form
 obtain ⟨A1, c1, rfl, hl1, hm1⟩ := h.circles.form
 obtain ⟨A2, c2, rfl, hl2, hm2⟩ := h.segs.form
 obtain ⟨A3, c3, rfl, hl3, hm3⟩ := h.arcs.form
 obtain ⟨A4, c4, rfl, hl4, hm4⟩ := h.chains.form
 obtain ⟨A5, c5, rfl, hl5, hm5⟩ := h.cons.form
 have HBX := Lib.hid (CellsAt.new w [.slice A0 s.points.length c0, .slice A1 s.circles.length c1, .slice A2 s.segs.length c2, .slice A3 s.arcs.length c3, .slice A4 s.chains.length c4, .slice A5 s.cons.length c5] 29)
 have HMY := Lib.hid (fun w1 (hx : Ext w w1) => ref26_many (h.ext hx))
 have HCHN := Lib.hid (fun w1 (hx : Ext w w1) A n cp c (hc : ArrAt 3 PcR w1 (.slice A n cp) c) => ref26_chain (h.ext hx) hc)
 have HCON := Lib.hid (fun w1 (c : CI) pv cv vv (hc : c ∈ s.cons) (hp : Ints w1 pv c.points) (hq : Ints w1 cv c.circles) (hv : ArrAt 7 (ExprR K) w1 vv c.values) => ref25_Valid K hK (np := s.points.length) (nc := s.circles.length) hp hq hv (hs.cons c hc))
 have HPT := Lib.hid h.points
 have HCI := Lib.hid h.circles
 have HSG := Lib.hid h.segs
 have HAR := Lib.hid h.arcs
 have HCH := Lib.hid h.chains
 have HCO := Lib.hid h.cons
 have HSM := Lib.hid hs
 have HER : Hid (errS K s = if manyL s then 3 else if okS K s then 0 else 1) := rfl
 clear h hs
 go_enter Tryz.func16, Tryz.ntmps16
 go_wp2_with fail
 refine (HMY.out _ (Ext.alloc _ _)).mono ?_
 rintro e w1 ⟨rfl, hx1⟩
 have hE1 : Ext w w1 := Ext.trans (Ext.alloc _ _) hx1
 generalize hmy : manyL s = my at *
 have HMS := Lib.hid hmy
 clear hmy
 cases my with
 | true =>
  go_wp2_with fail
  go_ret
  exact ⟨by rw [HER.out]; rfl, hE1⟩
 | false =>
 have HB1 := Lib.hid (HBX.out.ext hx1)
 have HBAD : Hid (okS K s = false → errS K s = 1) := errS_bad HMS.out
 have HGOOD : Hid (okS K s = true → errS K s = 0) := errS_ok HMS.out
 clear HBX HMY hx1 HER
 obtain ⟨y0, y1, y2, y3, y4, y5⟩ := HB1.out.six
 go_wp2_with fail
 clear y0 y1 y2 y3 y4 y5
 go_loopg [4] s.points.length (fun gk x wr => ∃ i : Nat, x = .int .i64 (i : Int) ∧ i + gk = s.points.length ∧ Hid ((s.points.drop i).all okPt = s.points.all okPt) ∧ Hid (Ext w1 wr))
 case atStart => exact ⟨0, rfl, by omega, rfl, Ext.refl _⟩
 case round =>
  obtain ⟨i, rfl, hi, HA, HE⟩ := hrel
  have HB2 := Lib.hid (HB1.out.ext HE.out)
  obtain ⟨y0, y1, y2, y3, y4, y5⟩ := HB2.out.six
  have hEr : Ext w wr := Ext.trans hE1 HE.out
  by_cases hlt : i < s.points.length
  ·obtain ⟨b, off, rfl, hb, ds, hds, hcell, u, v, u', v', rfl, hu, hv, hu', hv'⟩ := HPT.out.at_ hlt
   obtain ⟨s1, s2, s3, s4⟩ := HSM.out.points _ (List.getElem_mem hlt)
   have q0 : wr.cell? ⟨b, off + i * 8, none⟩ = _ := (hEr.cell (p := ⟨b, off + (i * 8 + 0), none⟩) hb).trans (hcell 0 _ rfl)
   have q1 : wr.cell? ⟨b, off + i * 8 + 1, none⟩ = _ := (hEr.cell (p := ⟨b, off + (i * 8 + 1), none⟩) hb).trans (hcell 1 _ rfl)
   have q2 : wr.cell? ⟨b, off + i * 8 + 2, none⟩ = _ := (hEr.cell (p := ⟨b, off + (i * 8 + 2), none⟩) hb).trans (hcell 2 _ rfl)
   have q3 : wr.cell? ⟨b, off + i * 8 + 3, none⟩ = _ := (hEr.cell (p := ⟨b, off + (i * 8 + 3), none⟩) hb).trans (hcell 3 _ rfl)
   have q4 : wr.cell? ⟨b, off + i * 8 + 4, none⟩ = _ := (hEr.cell (p := ⟨b, off + (i * 8 + 4), none⟩) hb).trans (hcell 4 _ rfl)
   have q5 : wr.cell? ⟨b, off + i * 8 + 5, none⟩ = _ := (hEr.cell (p := ⟨b, off + (i * 8 + 5), none⟩) hb).trans (hcell 5 _ rfl)
   have q6 : wr.cell? ⟨b, off + i * 8 + 6, none⟩ = _ := (hEr.cell (p := ⟨b, off + (i * 8 + 6), none⟩) hb).trans (hcell 6 _ rfl)
   have q7 : wr.cell? ⟨b, off + i * 8 + 7, none⟩ = _ := (hEr.cell (p := ⟨b, off + (i * 8 + 7), none⟩) hb).trans (hcell 7 _ rfl)
   obtain ⟨D1, d1, rfl, hd1, hd1'⟩ := hu.form
   obtain ⟨D2, d2, rfl, hd2, hd2'⟩ := hv.form
   obtain ⟨D3, d3, rfl, hd3, hd3'⟩ := hu'.form
   obtain ⟨D4, d4, rfl, hd4, hd4'⟩ := hv'.form
   have HV1 := Lib.hid (fun w2 (hx : Ext w w2) => ref02_Valid (q := s.points[i].x) (hu.ext hx) (hv.ext hx) (by omega) (by omega))
   have HV2 := Lib.hid (fun w2 (hx : Ext w w2) => ref02_Valid (q := s.points[i].y) (hu'.ext hx) (hv'.ext hx) (by omega) (by omega))
   have HD : Hid ((s.points.drop i).all okPt = (s.points[i].x.ok && s.points[i].y.ok && (s.points.drop (i + 1)).all okPt)) := all_drop hlt
   clear hu hv hu' hv' hcell hds s1 s2 s3 s4
   generalize s.points[i].x.ok = b1 at *
   generalize s.points[i].y.ok = b2 at *
   generalize s.points[i].x.num.neg = n1 at *
   generalize s.points[i].x.den.neg = n2 at *
   generalize s.points[i].y.num.neg = n3 at *
   generalize s.points[i].y.den.neg = n4 at *
   generalize s.points[i].x.num.mag.length = l1 at *
   generalize s.points[i].x.den.mag.length = l2 at *
   generalize s.points[i].y.num.mag.length = l3 at *
   generalize s.points[i].y.den.mag.length = l4 at *
   have hz1 : b < wr.heap.size := Nat.lt_of_lt_of_le hb hEr.size
   have hz2 := HB2.out.1
   go_wp2_with fail
   refine (HV1.out _ hEr).mono ?_
   rintro e w2 ⟨rfl, hx2⟩
   cases b1 with
   | false =>
    have HT : Hid (errS K s = 1) := HBAD.out (by unfold okS; rw [← HA.out, HD.out]; rfl)
    go_wp2_with fail
    go_ret
    exact ⟨by rw [HT.out]; rfl, (by repeat first|exact xA _|assumption|refine xB ?_ _|refine xC ?_|refine xD ?_ _|refine xE ?_ (by simp <;> omega) _|refine xF ?_ (by assumption))⟩
   | true =>
    obtain ⟨hc, hf⟩ := bcell hx2
    go_wp2_with fail
    refine (HV2.out _ (by repeat first|exact xA _|assumption|refine xB ?_ _|refine xC ?_|refine xD ?_ _|refine xE ?_ (by simp <;> omega) _|refine xF ?_ (by assumption))).mono ?_
    rintro e w3 ⟨rfl, hx3⟩
    clear hc hf
    cases b2 with
    | false =>
     have HT : Hid (errS K s = 1) := HBAD.out (by unfold okS; rw [← HA.out, HD.out]; rfl)
     go_wp2_with fail
     go_ret
     exact ⟨by rw [HT.out]; rfl, (by repeat first|exact xA _|assumption|refine xB ?_ _|refine xC ?_|refine xD ?_ _|refine xE ?_ (by simp <;> omega) _|refine xF ?_ (by assumption))⟩
    | true =>
     have HT : Hid ((s.points.drop (i + 1)).all okPt = s.points.all okPt) := by show _ = _; rw [← HA.out, HD.out]; rfl
     go_wp2_with fail
     go_roundg (s.points.length - (i + 1))
     case measure => omega
     case rel => exact ⟨i + 1, by simp, by omega, HT, (HE.out.trans hx2).trans hx3⟩
  ·have HP1 : Hid (s.points.all okPt = true) := by show _ = _; rw [← HA.out, List.drop_eq_nil_of_le (by omega)]; rfl
   clear HPT HA
   go_wp2_with fail
   clear y0 y1 y2 y3 y4 y5 hEr HB2
   go_loopg [5] s.circles.length (fun gk x wr => ∃ i : Nat, x = .int .i64 (i : Int) ∧ i + gk = s.circles.length ∧ Hid ((s.circles.drop i).all (okRd s.points.length) = s.circles.all (okRd s.points.length)) ∧ Hid (Ext w1 wr))
   case atStart => exact ⟨0, rfl, by omega, rfl, HE.out⟩
   case round =>
    clear HE
    obtain ⟨i, rfl, hi, HA, HE⟩ := hrel
    have HB2 := Lib.hid (HB1.out.ext HE.out)
    obtain ⟨y0, y1, y2, y3, y4, y5⟩ := HB2.out.six
    have hE0 := HE.out
    have hEr : Ext w wr := Ext.trans hE1 HE.out
    by_cases hlt : i < s.circles.length
    ·have HD0 : Hid ((s.circles.drop i).all (okRd s.points.length) = ((okRd s.points.length) s.circles[i] && (s.circles.drop (i + 1)).all (okRd s.points.length))) := all_drop hlt
     have hz2 := HB2.out.1
     obtain ⟨b, off, rfl, hb, ds, hds, hcell, u, v, rfl, hu, hv⟩ := HCI.out.at_ hlt
     obtain ⟨s1, s2⟩ := HSM.out.circles _ (List.getElem_mem hlt)
     have q0 : wr.cell? ⟨b, off + i * 5, none⟩ = _ := (hEr.cell (p := ⟨b, off + (i * 5 + 0), none⟩) hb).trans (hcell 0 _ rfl)
     have q1 : wr.cell? ⟨b, off + i * 5 + 1, none⟩ = _ := (hEr.cell (p := ⟨b, off + (i * 5 + 1), none⟩) hb).trans (hcell 1 _ rfl)
     have q2 : wr.cell? ⟨b, off + i * 5 + 2, none⟩ = _ := (hEr.cell (p := ⟨b, off + (i * 5 + 2), none⟩) hb).trans (hcell 2 _ rfl)
     have q3 : wr.cell? ⟨b, off + i * 5 + 3, none⟩ = _ := (hEr.cell (p := ⟨b, off + (i * 5 + 3), none⟩) hb).trans (hcell 3 _ rfl)
     have q4 : wr.cell? ⟨b, off + i * 5 + 4, none⟩ = _ := (hEr.cell (p := ⟨b, off + (i * 5 + 4), none⟩) hb).trans (hcell 4 _ rfl)
     obtain ⟨D1, d1, rfl, hd1, hd1'⟩ := hu.form
     obtain ⟨D2, d2, rfl, hd2, hd2'⟩ := hv.form
     have HV1 := Lib.hid (fun w2 (hx : Ext w w2) => ref02_Valid (q := s.circles[i].radius) (hu.ext hx) (hv.ext hx) (by omega) (by omega))
     have HV2 := Lib.hid (fun w2 (hx : Ext w w2) => ref02_Sign (q := s.circles[i].radius) (v' := .slice D2 s.circles[i].radius.den.mag.length d2) (hu.ext hx))
     have HH := Lib.hid (fun w2 => ref26_has s.points.length s.circles[i].center w2)
     have HD : Hid ((s.circles.drop i).all (okRd s.points.length) = (hasL s.points.length s.circles[i].center && s.circles[i].radius.ok && decide (0 < s.circles[i].radius.num.sgn) && (s.circles.drop (i + 1)).all (okRd s.points.length))) := HD0.out
     clear hu hv hcell hds s1 s2 HD0
     generalize hasL s.points.length s.circles[i].center = b1 at *
     generalize s.circles[i].radius.ok = b2 at *
     generalize s.circles[i].radius.num.sgn = sg at *
     generalize s.circles[i].radius.num.neg = n1 at *
     generalize s.circles[i].radius.den.neg = n2 at *
     generalize s.circles[i].radius.num.mag.length = l1 at *
     generalize s.circles[i].radius.den.mag.length = l2 at *
     generalize s.circles[i].center = ct at *
     have hz1 : b < wr.heap.size := Nat.lt_of_lt_of_le hb hEr.size
     go_wp2_with fail
     refine (HH.out _).mono ?_
     rintro e w2 ⟨rfl, rfl⟩
     cases b1 with
     | false =>
      have HT : Hid (errS K s = 1) := HBAD.out (by unfold okS; rw [← HA.out, HD.out]; simp)
      go_wp2_with fail
      go_ret
      exact ⟨by rw [HT.out]; rfl, (by repeat first|exact xA _|assumption|refine xB ?_ _|refine xC ?_|refine xD ?_ _|refine xE ?_ (by simp <;> omega) _|refine xF ?_ (by assumption))⟩
     | true =>
      go_wp2_with fail
      refine (HV1.out _ (by repeat first|exact xA _|assumption|refine xB ?_ _|refine xC ?_|refine xD ?_ _|refine xE ?_ (by simp <;> omega) _|refine xF ?_ (by assumption))).mono ?_
      rintro e w3 ⟨rfl, hx3⟩
      cases b2 with
      | false =>
       have HT : Hid (errS K s = 1) := HBAD.out (by unfold okS; rw [← HA.out, HD.out]; simp)
       go_wp2_with fail
       go_ret
       exact ⟨by rw [HT.out]; rfl, (by repeat first|exact xA _|assumption|refine xB ?_ _|refine xC ?_|refine xD ?_ _|refine xE ?_ (by simp <;> omega) _|refine xF ?_ (by assumption))⟩
      | true =>
       obtain ⟨hc, hf⟩ := bcell hx3
       go_wp2_with fail
       refine (HV2.out _ (by repeat first|exact xA _|assumption|refine xB ?_ _|refine xC ?_|refine xD ?_ _|refine xE ?_ (by simp <;> omega) _|refine xF ?_ (by assumption))).mono ?_
       rintro e w4 ⟨rfl, hx4⟩
       clear hc hf
       by_cases hsg : 0 < sg
       ·have hsl : ¬ sg ≤ 0 := by omega
        have hsd : decide (0 < sg) = true := by simpa using hsg
        rw [hsd] at HD
        clear hsg hsd
        have HT : Hid ((s.circles.drop (i + 1)).all (okRd s.points.length) = s.circles.all (okRd s.points.length)) := by show _ = _; rw [← HA.out, HD.out]; simp
        go_wp2_with fail
        go_roundg (s.circles.length - (i + 1))
        case measure => omega
        case rel => exact ⟨i + 1, by simp, by omega, HT, (by repeat first|exact xA _|assumption|refine xB ?_ _|refine xC ?_|refine xD ?_ _|refine xE ?_ (by simp <;> omega) _|refine xF ?_ (by assumption))⟩
       ·have hsl : sg ≤ 0 := by omega
        have hsd : decide (0 < sg) = false := by simpa using hsg
        rw [hsd] at HD
        clear hsg hsd
        have HT : Hid (errS K s = 1) := HBAD.out (by unfold okS; rw [← HA.out, HD.out]; simp)
        go_wp2_with fail
        go_ret
        exact ⟨by rw [HT.out]; rfl, (by repeat first|exact xA _|assumption|refine xB ?_ _|refine xC ?_|refine xD ?_ _|refine xE ?_ (by simp <;> omega) _|refine xF ?_ (by assumption))⟩
    ·have HP2 : Hid (s.circles.all (okRd s.points.length) = true) := by show _ = _; rw [← HA.out, List.drop_eq_nil_of_le (by omega)]; rfl
     clear HA
     go_wp2_with fail
     clear y0 y1 y2 y3 y4 y5 hEr HB2
     go_loopg [7] s.segs.length (fun gk x wr => ∃ i : Nat, x = .int .i64 (i : Int) ∧ i + gk = s.segs.length ∧ Hid ((s.segs.drop i).all (okSg s.points.length) = s.segs.all (okSg s.points.length)) ∧ Hid (Ext w1 wr))
     case atStart => exact ⟨0, rfl, by omega, rfl, HE.out⟩
     case round =>
      clear HE
      obtain ⟨i, rfl, hi, HA, HE⟩ := hrel
      have HB2 := Lib.hid (HB1.out.ext HE.out)
      obtain ⟨y0, y1, y2, y3, y4, y5⟩ := HB2.out.six
      have hE0 := HE.out
      have hEr : Ext w wr := Ext.trans hE1 HE.out
      by_cases hlt : i < s.segs.length
      ·have HD0 : Hid ((s.segs.drop i).all (okSg s.points.length) = ((okSg s.points.length) s.segs[i] && (s.segs.drop (i + 1)).all (okSg s.points.length))) := all_drop hlt
       have hz2 := HB2.out.1
       obtain ⟨b, off, rfl, hb, ds, hds, hcell, hR⟩ := HSG.out.at_ hlt
       rw [hR] at hcell
       have q0 : wr.cell? ⟨b, off + i * 2, none⟩ = _ := (hEr.cell (p := ⟨b, off + (i * 2 + 0), none⟩) hb).trans (hcell 0 _ rfl)
       have q1 : wr.cell? ⟨b, off + i * 2 + 1, none⟩ = _ := (hEr.cell (p := ⟨b, off + (i * 2 + 1), none⟩) hb).trans (hcell 1 _ rfl)
       have HH1 := Lib.hid (fun w2 => ref26_has s.points.length s.segs[i].a w2)
       have HH2 := Lib.hid (fun w2 => ref26_has s.points.length s.segs[i].b w2)
       have HD : Hid ((s.segs.drop i).all (okSg s.points.length) = (hasL s.points.length s.segs[i].a && hasL s.points.length s.segs[i].b && !decide (s.segs[i].a = s.segs[i].b) && (s.segs.drop (i + 1)).all (okSg s.points.length))) := HD0.out
       clear hR hcell hds HD0
       generalize hasL s.points.length s.segs[i].a = b1 at *
       generalize hasL s.points.length s.segs[i].b = b2 at *
       generalize s.segs[i].a = x at *
       generalize s.segs[i].b = y at *
       have hz1 : b < wr.heap.size := Nat.lt_of_lt_of_le hb hEr.size
       go_wp2_with fail
       refine (HH1.out _).mono ?_
       rintro e w2 ⟨rfl, rfl⟩
       cases b1 with
       | false =>
        have HT : Hid (errS K s = 1) := HBAD.out (by unfold okS; rw [← HA.out, HD.out]; simp)
        go_wp2_with fail
        go_ret
        exact ⟨by rw [HT.out]; rfl, (by repeat first|exact xA _|assumption|refine xB ?_ _|refine xC ?_|refine xD ?_ _|refine xE ?_ (by simp <;> omega) _|refine xF ?_ (by assumption))⟩
       | true =>
        go_wp2_with fail
        refine (HH2.out _).mono ?_
        rintro e w3 ⟨rfl, rfl⟩
        cases b2 with
        | false =>
         have HT : Hid (errS K s = 1) := HBAD.out (by unfold okS; rw [← HA.out, HD.out]; simp)
         go_wp2_with fail
         go_ret
         exact ⟨by rw [HT.out]; rfl, (by repeat first|exact xA _|assumption|refine xB ?_ _|refine xC ?_|refine xD ?_ _|refine xE ?_ (by simp <;> omega) _|refine xF ?_ (by assumption))⟩
        | true =>
         by_cases hxy : x = y
         ·have hxe : (x == y) = true := by simpa using hxy
          have hxd : decide (x = y) = true := by simpa using hxy
          rw [hxd] at HD
          clear hxy hxd
          have HT : Hid (errS K s = 1) := HBAD.out (by unfold okS; rw [← HA.out, HD.out]; simp)
          go_wp2_with fail
          go_ret
          exact ⟨by rw [HT.out]; rfl, (by repeat first|exact xA _|assumption|refine xB ?_ _|refine xC ?_|refine xD ?_ _|refine xE ?_ (by simp <;> omega) _|refine xF ?_ (by assumption))⟩
         ·have hxe : (x == y) = false := by simpa using hxy
          have hxd : decide (x = y) = false := by simpa using hxy
          rw [hxd] at HD
          clear hxy hxd
          have HT : Hid ((s.segs.drop (i + 1)).all (okSg s.points.length) = s.segs.all (okSg s.points.length)) := by show _ = _; rw [← HA.out, HD.out]; simp
          go_wp2_with fail
          go_roundg (s.segs.length - (i + 1))
          case measure => omega
          case rel => exact ⟨i + 1, by simp, by omega, HT, (by repeat first|exact xA _|assumption|refine xB ?_ _|refine xC ?_|refine xD ?_ _|refine xE ?_ (by simp <;> omega) _|refine xF ?_ (by assumption))⟩
      ·have HP3 : Hid (s.segs.all (okSg s.points.length) = true) := by show _ = _; rw [← HA.out, List.drop_eq_nil_of_le (by omega)]; rfl
       clear HSG HA
       go_wp2_with fail
       clear y0 y1 y2 y3 y4 y5 hEr HB2
       go_loopg [9] s.arcs.length (fun gk x wr => ∃ i : Nat, x = .int .i64 (i : Int) ∧ i + gk = s.arcs.length ∧ Hid ((s.arcs.drop i).all (okAr s) = s.arcs.all (okAr s)) ∧ Hid (Ext w1 wr))
       case atStart => exact ⟨0, rfl, by omega, rfl, HE.out⟩
       case round =>
        clear HE
        obtain ⟨i, rfl, hi, HA, HE⟩ := hrel
        have HB2 := Lib.hid (HB1.out.ext HE.out)
        obtain ⟨y0, y1, y2, y3, y4, y5⟩ := HB2.out.six
        have hE0 := HE.out
        have hEr : Ext w wr := Ext.trans hE1 HE.out
        by_cases hlt : i < s.arcs.length
        ·have HD0 : Hid ((s.arcs.drop i).all (okAr s) = ((okAr s) s.arcs[i] && (s.arcs.drop (i + 1)).all (okAr s))) := all_drop hlt
         have hz2 := HB2.out.1
         obtain ⟨b, off, rfl, hb, ds, hds, hcell, hR⟩ := HAR.out.at_ hlt
         rw [hR] at hcell
         have q0 : wr.cell? ⟨b, off + i * 4, none⟩ = _ := (hEr.cell (p := ⟨b, off + (i * 4 + 0), none⟩) hb).trans (hcell 0 _ rfl)
         have q1 : wr.cell? ⟨b, off + i * 4 + 1, none⟩ = _ := (hEr.cell (p := ⟨b, off + (i * 4 + 1), none⟩) hb).trans (hcell 1 _ rfl)
         have q2 : wr.cell? ⟨b, off + i * 4 + 2, none⟩ = _ := (hEr.cell (p := ⟨b, off + (i * 4 + 2), none⟩) hb).trans (hcell 2 _ rfl)
         have q3 : wr.cell? ⟨b, off + i * 4 + 3, none⟩ = _ := (hEr.cell (p := ⟨b, off + (i * 4 + 3), none⟩) hb).trans (hcell 3 _ rfl)
         have HH1 := Lib.hid (fun w2 => ref26_has s.circles.length s.arcs[i].circle w2)
         have HH2 := Lib.hid (fun w2 => ref26_has s.points.length s.arcs[i].a w2)
         have HH3 := Lib.hid (fun w2 => ref26_has s.points.length s.arcs[i].b w2)
         have HD : Hid ((s.arcs.drop i).all (okAr s) = (okAr s s.arcs[i] && (s.arcs.drop (i + 1)).all (okAr s))) := HD0.out
         have HOK : Hid (okAr s s.arcs[i] = (hasL s.circles.length s.arcs[i].circle && hasL s.points.length s.arcs[i].a && hasL s.points.length s.arcs[i].b && !decide (s.arcs[i].a = centerOf s s.arcs[i].circle) && !decide (s.arcs[i].b = centerOf s s.arcs[i].circle))) := rfl
         have HCT : Hid (hasL s.circles.length s.arcs[i].circle = true → ∃ (k : Nat) (b' off' : Nat) (ct : Int), s.arcs[i].circle = (k : Int) ∧ (k : Int) < (s.circles.length : Int) ∧ A1 = some ⟨b', off', none⟩ ∧ b' < w.heap.size ∧ w.cell? ⟨b', off' + k * 5, none⟩ = some (.int .i64 ct) ∧ centerOf s s.arcs[i].circle = ct) := by
          intro h1
          obtain ⟨k, hk, hkl⟩ : ∃ k : Nat, s.arcs[i].circle = (k : Int) ∧ k < s.circles.length := by
           simp [hasL] at h1; exact ⟨s.arcs[i].circle.toNat, by omega, by omega⟩
          obtain ⟨b', off', e1, hb', ds', hds', hcell', u, v, rfl, -⟩ := HCI.out.at_ hkl
          refine ⟨k, b', off', s.circles[k].center, hk, by omega, e1, hb', hcell' 0 _ rfl, ?_⟩
          rw [hk]; simp [centerOf, List.getElem?_eq_getElem hkl]
         clear hR hcell hds HD0
         generalize okAr s s.arcs[i] = ok at *
         generalize hasL s.circles.length s.arcs[i].circle = b1 at *
         generalize hasL s.points.length s.arcs[i].a = b2 at *
         generalize hasL s.points.length s.arcs[i].b = b3 at *
         generalize centerOf s s.arcs[i].circle = ce at *
         generalize s.arcs[i].circle = ci at *
         generalize s.arcs[i].a = x at *
         generalize s.arcs[i].b = y at *
         generalize s.arcs[i].cw = cw at *
         have hz1 : b < wr.heap.size := Nat.lt_of_lt_of_le hb hEr.size
         go_upto_region 25 with fail
         go_cut [157] (fun xx wx => xx = .bool (!ok) ∧ ∃ m, wx = (wr.alloc (.cells #[.int .i64 ci, .int .i64 x, .int .i64 y, .bool cw] 61)).drewN m)
         case first =>
          cases b1 with
          | false => (go_quiet (first | (go_at_call 49; first | (with_reducible exact quiet_left (HH1.out _)) | (with_reducible exact quiet_left (HH2.out _)) | (with_reducible exact quiet_left (HH3.out _)))); go_wp2_with fail; go_meet; exact ⟨by rw [HOK.out]; rfl, _, rfl⟩)
          | true =>
           obtain ⟨k, b', off', ct, rfl, hk, rfl, hb', hct, rfl⟩ := HCT.out rfl
           have hk0 : (0 : Int) ≤ (k : Int) := by omega
           have hcw := (hEr.cell (p := ⟨b', off' + k * 5, none⟩) hb').trans hct
           have hb2 : b' < wr.heap.size := Nat.lt_of_lt_of_le hb' hEr.size
           have hne : b' ≠ wr.heap.size := by omega
           clear hct HCT
           cases b2 with
           | false => (go_quiet (first | (go_at_call 49; first | (with_reducible exact quiet_left (HH1.out _)) | (with_reducible exact quiet_left (HH2.out _)) | (with_reducible exact quiet_left (HH3.out _)))); go_wp2_with fail; go_meet; exact ⟨by rw [HOK.out]; rfl, _, rfl⟩)
           | true =>
            cases b3 with
            | false => (go_quiet (first | (go_at_call 49; first | (with_reducible exact quiet_left (HH1.out _)) | (with_reducible exact quiet_left (HH2.out _)) | (with_reducible exact quiet_left (HH3.out _)))); go_wp2_with fail; go_meet; exact ⟨by rw [HOK.out]; rfl, _, rfl⟩)
            | true =>
             by_cases e1 : x = ce
             ·have f1 : (x == ce) = true := by simpa using e1
              have HR : Hid (ok = false) := by show _ = _; rw [HOK.out, decide_eq_true e1]; rfl
              clear e1
              go_quiet (first | (go_at_call 49; first | (with_reducible exact quiet_left (HH1.out _)) | (with_reducible exact quiet_left (HH2.out _)) | (with_reducible exact quiet_left (HH3.out _))))
              go_wp2_with fail
              go_meet
              exact ⟨by rw [HR.out]; rfl, _, rfl⟩
             ·have f1 : (x == ce) = false := by simpa using e1
              by_cases e2 : y = ce
              ·have f2 : (y == ce) = true := by simpa using e2
               have HR : Hid (ok = false) := by show _ = _; rw [HOK.out, decide_eq_true e2]; simp
               clear e1 e2
               go_quiet (first | (go_at_call 49; first | (with_reducible exact quiet_left (HH1.out _)) | (with_reducible exact quiet_left (HH2.out _)) | (with_reducible exact quiet_left (HH3.out _))))
               go_wp2_with fail
               go_meet
               exact ⟨by rw [HR.out]; rfl, _, rfl⟩
              ·have f2 : (y == ce) = false := by simpa using e2
               have HR : Hid (ok = true) := by show _ = _; rw [HOK.out, decide_eq_false e1, decide_eq_false e2]; rfl
               clear e1 e2
               go_quiet (first | (go_at_call 49; first | (with_reducible exact quiet_left (HH1.out _)) | (with_reducible exact quiet_left (HH2.out _)) | (with_reducible exact quiet_left (HH3.out _))))
               go_wp2_with fail
               go_meet
               exact ⟨by rw [HR.out]; rfl, _, rfl⟩
         case rest =>
          obtain ⟨rfl, m, rfl⟩ := hcut
          clear HCT HOK
          cases ok with
          | false =>
           have HT : Hid (errS K s = 1) := HBAD.out (by unfold okS; rw [← HA.out, HD.out]; simp)
           go_wp2_with fail
           go_ret
           exact ⟨by rw [HT.out]; rfl, (by repeat first|exact xA _|assumption|refine xB ?_ _|refine xC ?_|refine xD ?_ _|refine xE ?_ (by simp <;> omega) _|refine xF ?_ (by assumption))⟩
          | true =>
           have HT : Hid ((s.arcs.drop (i + 1)).all (okAr s) = s.arcs.all (okAr s)) := by show _ = _; rw [← HA.out, HD.out]; simp
           go_wp2_with fail
           go_roundg (s.arcs.length - (i + 1))
           case measure => omega
           case rel => exact ⟨i + 1, by simp, by omega, HT, (by repeat first|exact xA _|assumption|refine xB ?_ _|refine xC ?_|refine xD ?_ _|refine xE ?_ (by simp <;> omega) _|refine xF ?_ (by assumption))⟩
        ·have HP4 : Hid (s.arcs.all (okAr s) = true) := by show _ = _; rw [← HA.out, List.drop_eq_nil_of_le (by omega)]; rfl
         clear HAR HCI HA
         go_wp2_with fail
         clear y0 y1 y2 y3 y4 y5 hEr HB2
         go_loopg [11] s.chains.length (fun gk x wr => ∃ i : Nat, x = .int .i64 (i : Int) ∧ i + gk = s.chains.length ∧ Hid ((s.chains.drop i).all (chainL s) = s.chains.all (chainL s)) ∧ Hid (Ext w1 wr))
         case atStart => exact ⟨0, rfl, by omega, rfl, HE.out⟩
         case round =>
          clear HE
          obtain ⟨i, rfl, hi, HA, HE⟩ := hrel
          have HB2 := Lib.hid (HB1.out.ext HE.out)
          obtain ⟨y0, y1, y2, y3, y4, y5⟩ := HB2.out.six
          have hE0 := HE.out
          have hEr : Ext w wr := Ext.trans hE1 HE.out
          by_cases hlt : i < s.chains.length
          ·have HD0 : Hid ((s.chains.drop i).all (chainL s) = ((chainL s) s.chains[i] && (s.chains.drop (i + 1)).all (chainL s))) := all_drop hlt
           have hz2 := HB2.out.1
           obtain ⟨b, off, rfl, hb, ds, hds, hcell, v, rfl, hv⟩ := HCH.out.at_ hlt
           obtain ⟨A6, c6, rfl, hl6, hm6⟩ := hv.form
           have q0 : wr.cell? ⟨b, off + i, none⟩ = some (.slice A6 s.chains[i].length c6) := by
            have := (hEr.cell (p := ⟨b, off + (i * 1 + 0), none⟩) hb).trans (hcell 0 _ rfl)
            simpa using this
           have HC := Lib.hid (fun w2 (hx : Ext w w2) => HCHN.out w2 hx _ _ _ _ (hv.ext PcR.stable hx))
           have HD : Hid ((s.chains.drop i).all (chainL s) = (chainL s s.chains[i] && (s.chains.drop (i + 1)).all (chainL s))) := HD0.out
           clear hv hcell hds HD0
           generalize chainL s s.chains[i] = ok at *
           generalize s.chains[i].length = n6 at *
           have hi0 : (0 : Int) ≤ (i : Int) := by omega
           have hi1 : (i : Int) < (s.chains.length : Int) := by omega
           go_upto_region 30 with fail
           go_cut [172] (fun xx wx => xx = .bool (!ok) ∧ Hid (Ext wr wx))
           case first =>
            go_region_with (go_at_call 51; refine (HC.out _ (by repeat first|exact xA _|assumption|refine xB ?_ _|refine xC ?_|refine xD ?_ _|refine xE ?_ (by simp <;> omega) _|refine xF ?_ (by assumption))).mono ?_; rintro e w2 ⟨rfl, hx2⟩)
            all_goals
             go_wp2_with fail
             go_meet
             exact ⟨rfl, (by repeat first|exact xA _|assumption|refine xB ?_ _|refine xC ?_|refine xD ?_ _|refine xE ?_ (by simp <;> omega) _|refine xF ?_ (by assumption))⟩
           case rest =>
            obtain ⟨rfl, HXc⟩ := hcut
            have hxc := HXc.out
            cases ok with
            | false =>
             have HT : Hid (errS K s = 1) := HBAD.out (by unfold okS; rw [← HA.out, HD.out]; simp)
             go_wp2_with fail
             go_ret
             exact ⟨by rw [HT.out]; rfl, (by repeat first|exact xA _|assumption|refine xB ?_ _|refine xC ?_|refine xD ?_ _|refine xE ?_ (by simp <;> omega) _|refine xF ?_ (by assumption))⟩
            | true =>
             have HT : Hid ((s.chains.drop (i + 1)).all (chainL s) = s.chains.all (chainL s)) := by show _ = _; rw [← HA.out, HD.out]; simp
             go_wp2_with fail
             go_roundg (s.chains.length - (i + 1))
             case measure => omega
             case rel => exact ⟨i + 1, by simp, by omega, HT, (by repeat first|exact xA _|assumption|refine xB ?_ _|refine xC ?_|refine xD ?_ _|refine xE ?_ (by simp <;> omega) _|refine xF ?_ (by assumption))⟩
          ·have HP5 : Hid (s.chains.all (chainL s) = true) := by show _ = _; rw [← HA.out, List.drop_eq_nil_of_le (by omega)]; rfl
           clear HCH HA
           go_wp2_with fail
           clear y0 y1 y2 y3 y4 y5 hEr HB2
           go_loopg [12] s.cons.length (fun gk x wr => ∃ i : Nat, x = .int .i64 (i : Int) ∧ i + gk = s.cons.length ∧ Hid ((s.cons.drop i).all (fun c => validC K c s.points.length s.circles.length) = s.cons.all (fun c => validC K c s.points.length s.circles.length)) ∧ Hid (Ext w1 wr))
           case atStart => exact ⟨0, rfl, by omega, rfl, HE.out⟩
           case round =>
            clear HE
            obtain ⟨i, rfl, hi, HA, HE⟩ := hrel
            have HB2 := Lib.hid (HB1.out.ext HE.out)
            obtain ⟨y0, y1, y2, y3, y4, y5⟩ := HB2.out.six
            have hE0 := HE.out
            have hEr : Ext w wr := Ext.trans hE1 HE.out
            by_cases hlt : i < s.cons.length
            ·have HD0 : Hid ((s.cons.drop i).all (fun c => validC K c s.points.length s.circles.length) = ((fun c => validC K c s.points.length s.circles.length) s.cons[i] && (s.cons.drop (i + 1)).all (fun c => validC K c s.points.length s.circles.length))) := all_drop hlt
             have hz2 := HB2.out.1
             obtain ⟨b, off, rfl, hb, ds, hds, hcell, pv, cv, vv, rfl, hp, hq, hv⟩ := HCO.out.at_ hlt
             obtain ⟨A6, c6, rfl, hl6, hm6⟩ := hp.form
             obtain ⟨A7, c7, rfl, hl7, hm7⟩ := hq.form
             obtain ⟨A8, c8, rfl, hl8, hm8⟩ := hv.form
             have q0 : wr.cell? ⟨b, off + i * 5, none⟩ = _ := (hEr.cell (p := ⟨b, off + (i * 5 + 0), none⟩) hb).trans (hcell 0 _ rfl)
             have q1 : wr.cell? ⟨b, off + i * 5 + 1, none⟩ = _ := (hEr.cell (p := ⟨b, off + (i * 5 + 1), none⟩) hb).trans (hcell 1 _ rfl)
             have q2 : wr.cell? ⟨b, off + i * 5 + 2, none⟩ = _ := (hEr.cell (p := ⟨b, off + (i * 5 + 2), none⟩) hb).trans (hcell 2 _ rfl)
             have q3 : wr.cell? ⟨b, off + i * 5 + 3, none⟩ = _ := (hEr.cell (p := ⟨b, off + (i * 5 + 3), none⟩) hb).trans (hcell 3 _ rfl)
             have q4 : wr.cell? ⟨b, off + i * 5 + 4, none⟩ = _ := (hEr.cell (p := ⟨b, off + (i * 5 + 4), none⟩) hb).trans (hcell 4 _ rfl)
             have HC := Lib.hid (fun w2 (hx : Ext w w2) => HCON.out w2 s.cons[i] _ _ _ (List.getElem_mem hlt) (hp.ext IntR.stable hx) (hq.ext IntR.stable hx) (hv.ext (ExprR.stable K) hx))
             have HD : Hid ((s.cons.drop i).all (fun c => validC K c s.points.length s.circles.length) = (validC K s.cons[i] s.points.length s.circles.length && (s.cons.drop (i + 1)).all (fun c => validC K c s.points.length s.circles.length))) := HD0.out
             clear hp hq hv hcell hds HD0
             generalize validC K s.cons[i] s.points.length s.circles.length = ok at *
             generalize s.cons[i].points.length = n6 at *
             generalize s.cons[i].circles.length = n7 at *
             generalize s.cons[i].values.length = n8 at *
             generalize s.cons[i].kind = kd at *
             generalize s.cons[i].side = sd at *
             have hi0 : (0 : Int) ≤ (i : Int) := by omega
             have hi1 : (i : Int) < (s.cons.length : Int) := by omega
             go_upto_region 35 with fail
             go_cut [190] (fun xx wx => xx = .bool (!ok) ∧ Hid (Ext wr wx))
             case first =>
              go_region_with (go_at_call 52; refine (HC.out _ (by repeat first|exact xA _|assumption|refine xB ?_ _|refine xC ?_|refine xD ?_ _|refine xE ?_ (by simp <;> omega) _|refine xF ?_ (by assumption))).mono ?_; rintro e w2 ⟨rfl, hx2⟩)
              all_goals
               go_wp2_with fail
               go_meet
               exact ⟨rfl, (by repeat first|exact xA _|assumption|refine xB ?_ _|refine xC ?_|refine xD ?_ _|refine xE ?_ (by simp <;> omega) _|refine xF ?_ (by assumption))⟩
             case rest =>
              obtain ⟨rfl, HXc⟩ := hcut
              have hxc := HXc.out
              cases ok with
              | false =>
               have HT : Hid (errS K s = 1) := HBAD.out (by unfold okS; rw [← HA.out, HD.out]; simp)
               go_wp2_with fail
               go_ret
               exact ⟨by rw [HT.out]; rfl, (by repeat first|exact xA _|assumption|refine xB ?_ _|refine xC ?_|refine xD ?_ _|refine xE ?_ (by simp <;> omega) _|refine xF ?_ (by assumption))⟩
              | true =>
               have HT : Hid ((s.cons.drop (i + 1)).all (fun c => validC K c s.points.length s.circles.length) = s.cons.all (fun c => validC K c s.points.length s.circles.length)) := by show _ = _; rw [← HA.out, HD.out]; simp
               go_wp2_with fail
               go_roundg (s.cons.length - (i + 1))
               case measure => omega
               case rel => exact ⟨i + 1, by simp, by omega, HT, (by repeat first|exact xA _|assumption|refine xB ?_ _|refine xC ?_|refine xD ?_ _|refine xE ?_ (by simp <;> omega) _|refine xF ?_ (by assumption))⟩
            ·have HP6 : Hid (s.cons.all (fun c => validC K c s.points.length s.circles.length) = true) := by show _ = _; rw [← HA.out, List.drop_eq_nil_of_le (by omega)]; rfl
             clear HCO HA
             go_wp2_with fail
             have HT : Hid (errS K s = 0) := HGOOD.out (by unfold okS; rw [HP1.out, HP2.out, HP3.out, HP4.out, HP5.out, HP6.out]; rfl)
             go_ret
             exact ⟨by rw [HT.out]; rfl, (by repeat first|exact xA _|assumption|refine xB ?_ _|refine xC ?_|refine xD ?_ _|refine xE ?_ (by simp <;> omega) _|refine xF ?_ (by assumption))⟩
end Go.Proofs.YtjigihlhjhbkpaaGreatDoor
namespace Go.Proofs.YtjigihlhjhbkpaaGreatDoor
open Go Go.RowKit
def fewPt (p : PtI) : Bool := p.x.few 3 && p.y.few 3
def fewRd (c : RdI) : Bool := c.radius.few 3
def fewCh (c : List PcI) : Bool := decide (c.length ≤ 20)
def fewE (K : Nat) (e : EI) : Bool := decide (sizeE K 0 e ≤ 60)
def conHead (c : CI) : Bool := decide (c.points.length ≤ 10) && decide (c.circles.length ≤ 10) && decide (c.values.length ≤ 10)
def fewCon (K : Nat) (c : CI) : Bool := conHead c && c.values.all (fewE K)
def headS (s : SkI) : Bool := decide (s.points.length ≤ 10) && decide (s.circles.length ≤ 10) && decide (s.segs.length ≤ 10) && decide (s.arcs.length ≤ 10) && decide (s.chains.length ≤ 10) && decide (s.cons.length ≤ 20)
def smallB (K : Nat) (s : SkI) : Bool := headS s && s.points.all fewPt && s.circles.all fewRd && s.chains.all fewCh && s.cons.all (fewCon K)
theorem seven_of {es : List Value} (h : es.length = 7) : ∃ e0 e1 e2 e3 e4 e5 e6, es = [e0, e1, e2, e3, e4, e5, e6] := by
 match es, h with
 | [e0, e1, e2, e3, e4, e5, e6], _ => exact ⟨e0, e1, e2, e3, e4, e5, e6, rfl⟩
theorem few_len {q : QI} (h : q.few 3 = true) : q.num.mag.length ≤ 1000 ∧ q.den.mag.length ≤ 1000 := by
 simp [QI.few] at h; omega
theorem SmallS.of_B {K : Nat} {s : SkI} (h : smallB K s = true) : SmallS 61 s := by
 simp only [smallB, Bool.and_eq_true, List.all_eq_true] at h
 obtain ⟨⟨⟨⟨_, h1⟩, h2⟩, _⟩, h3⟩ := h
 refine ⟨fun p hp => ?_, fun c hc => few_len (h2 c hc), fun c hc e he => ?_⟩
 ·have := h1 p hp
  simp only [fewPt, Bool.and_eq_true] at this
  exact ⟨(few_len this.1).1, (few_len this.1).2, (few_len this.2).1, (few_len this.2).2⟩
 ·have := h3 c hc
  simp only [fewCon, Bool.and_eq_true, List.all_eq_true] at this
  have := this.2 e he
  simp only [fewE, decide_eq_true_eq] at this
  exact sizeE_small K 0 e (by omega) this
theorem ArrAt.mono {α : Type} {sz : Nat} {R S : World → List Value → α → Prop} {w : World} {v : Value} {xs : List α} (h : ArrAt sz R w v xs) (hRS : ∀ cs x, x ∈ xs → R w cs x → S w cs x) : ArrAt sz S w v xs := by
 obtain ⟨A, c, hv, hl, hm, hc⟩ := h
 refine ⟨A, c, hv, hl, hm, fun hne => ?_⟩
 obtain ⟨b, off, hA, hb, hk⟩ := hc hne
 refine ⟨b, off, hA, hb, fun k x hkx => ?_⟩
 obtain ⟨cs, hcs, hcell, hr⟩ := hk k x hkx
 exact ⟨cs, hcs, hcell, hRS cs x (List.mem_of_getElem? hkx) hr⟩
theorem SkAt.lower {K : Nat} {s : SkI} {v0 v1 v2 v3 v4 v5 : Value} {w : World} (h : SkAt K w v0 v1 v2 v3 v4 v5 s) (hs : SmallS 61 s) : SkAt 61 w v0 v1 v2 v3 v4 v5 s :=
 ⟨h.points, h.circles, h.segs, h.arcs, h.chains, h.cons.mono fun cs c hc hR => by
  obtain ⟨pv, cv, vv, h1, h2, h3, h4⟩ := hR
  exact ⟨pv, cv, vv, h1, h2, h3, h4.mono fun ds e he hR => ExprR.lower 61 K w ds e hR (hs.cons c hc e he)⟩⟩
theorem ref02_Few3 {q : QI} {v v' : Value} {w : World} (h : Words w v q.num.mag) (h' : Words w v' q.den.mag) :
  Calls Tryz.prog 45 #[.agg #[.bool q.num.neg, v, .bool q.den.neg, v'], .int .i64 3] w fun e w' => e = .returned (.bool (q.few 3)) ∧ Ext w w' := ref02_Few (k := 3) (by omega) h h'
set_option maxRecDepth 100000 in
set_option maxHeartbeats 12800000 in
theorem ref26_Small {K : Nat} {s : SkI} {v0 v1 v2 v3 v4 v5 : Value} {w : World} (h : SkAt K w v0 v1 v2 v3 v4 v5 s) :
  Calls Tryz.prog 15 #[.agg #[v0, v1, v2, v3, v4, v5]] w fun e w' => e = .returned (.bool (smallB K s)) ∧ Ext w w' := by
 obtain ⟨A0, c0, rfl, hl0, hm0⟩ := h.points.form
 obtain ⟨A1, c1, rfl, hl1, hm1⟩ := h.circles.form
 obtain ⟨A2, c2, rfl, hl2, hm2⟩ := h.segs.form
 obtain ⟨A3, c3, rfl, hl3, hm3⟩ := h.arcs.form
 obtain ⟨A4, c4, rfl, hl4, hm4⟩ := h.chains.form
 obtain ⟨A5, c5, rfl, hl5, hm5⟩ := h.cons.form
 have HB1 := Lib.hid (CellsAt.new w [.slice A0 s.points.length c0, .slice A1 s.circles.length c1, .slice A2 s.segs.length c2, .slice A3 s.arcs.length c3, .slice A4 s.chains.length c4, .slice A5 s.cons.length c5] 29)
 have HPT := Lib.hid h.points
 have HCI := Lib.hid h.circles
 have HCH := Lib.hid h.chains
 have HCO := Lib.hid h.cons
 have HSB : Hid (smallB K s = (headS s && s.points.all fewPt && s.circles.all fewRd && s.chains.all fewCh && s.cons.all (fewCon K))) := rfl
 have HHD : Hid (headS s = (decide (s.points.length ≤ 10) && decide (s.circles.length ≤ 10) && decide (s.segs.length ≤ 10) && decide (s.arcs.length ≤ 10) && decide (s.chains.length ≤ 10) && decide (s.cons.length ≤ 20))) := rfl
 clear h
 have hE1 : Ext w (w.alloc (.cells #[.slice A0 s.points.length c0, .slice A1 s.circles.length c1, .slice A2 s.segs.length c2, .slice A3 s.arcs.length c3, .slice A4 s.chains.length c4, .slice A5 s.cons.length c5] 29)) := Ext.alloc _ _
 obtain ⟨y0, y1, y2, y3, y4, y5⟩ := HB1.out.six
 go_enter Tryz.func15, Tryz.ntmps15
 go_upto_region 1 with fail
 go_cut [42] (fun x wx => x = .bool (!headS s) ∧ wx = w.alloc (.cells #[.slice A0 s.points.length c0, .slice A1 s.circles.length c1, .slice A2 s.segs.length c2, .slice A3 s.arcs.length c3, .slice A4 s.chains.length c4, .slice A5 s.cons.length c5] 29))
 case first =>
  generalize headS s = hs at *
  generalize s.points.length = n0 at *
  generalize s.circles.length = n1 at *
  generalize s.segs.length = n2 at *
  generalize s.arcs.length = n3 at *
  generalize s.chains.length = n4 at *
  generalize s.cons.length = n5 at *
  by_cases t0 : 10 < n0
  ·have HX : Hid (hs = false) := by show _ = _; rw [HHD.out, decide_eq_false (show ¬ n0 ≤ 10 by omega)]; simp
   go_wp2_with fail
   go_meet
   exact ⟨by rw [HX.out]; first | rfl | (congr 1; exact decide_eq_true (by omega)) | (congr 1; simp; omega) | (simp; omega), rfl⟩
  by_cases t1 : 10 < n1
  ·have HX : Hid (hs = false) := by show _ = _; rw [HHD.out, decide_eq_false (show ¬ n1 ≤ 10 by omega)]; simp
   go_wp2_with fail
   go_meet
   exact ⟨by rw [HX.out]; first | rfl | (congr 1; exact decide_eq_true (by omega)) | (congr 1; simp; omega) | (simp; omega), rfl⟩
  by_cases t2 : 10 < n2
  ·have HX : Hid (hs = false) := by show _ = _; rw [HHD.out, decide_eq_false (show ¬ n2 ≤ 10 by omega)]; simp
   go_wp2_with fail
   go_meet
   exact ⟨by rw [HX.out]; first | rfl | (congr 1; exact decide_eq_true (by omega)) | (congr 1; simp; omega) | (simp; omega), rfl⟩
  by_cases t3 : 10 < n3
  ·have HX : Hid (hs = false) := by show _ = _; rw [HHD.out, decide_eq_false (show ¬ n3 ≤ 10 by omega)]; simp
   go_wp2_with fail
   go_meet
   exact ⟨by rw [HX.out]; first | rfl | (congr 1; exact decide_eq_true (by omega)) | (congr 1; simp; omega) | (simp; omega), rfl⟩
  by_cases t4 : 10 < n4
  ·have HX : Hid (hs = false) := by show _ = _; rw [HHD.out, decide_eq_false (show ¬ n4 ≤ 10 by omega)]; simp
   go_wp2_with fail
   go_meet
   exact ⟨by rw [HX.out]; first | rfl | (congr 1; exact decide_eq_true (by omega)) | (congr 1; simp; omega) | (simp; omega), rfl⟩
  by_cases t5 : 20 < n5
  ·have HX : Hid (hs = false) := by show _ = _; rw [HHD.out, decide_eq_false (show ¬ n5 ≤ 20 by omega)]; simp
   go_wp2_with fail
   go_meet
   exact ⟨by rw [HX.out]; first | rfl | (congr 1; exact decide_eq_true (by omega)) | (congr 1; simp; omega) | (simp; omega), rfl⟩
  have HX : Hid (hs = true) := by show _ = _; rw [HHD.out]; simp; omega
  go_wp2_with fail
  go_meet
  exact ⟨by rw [HX.out]; first | rfl | (congr 1; exact decide_eq_false (by omega)) | (congr 1; simp; omega) | (simp; omega), rfl⟩
 case rest =>
  obtain ⟨rfl, rfl⟩ := hcut
  generalize w.alloc (.cells #[.slice A0 s.points.length c0, .slice A1 s.circles.length c1, .slice A2 s.segs.length c2, .slice A3 s.arcs.length c3, .slice A4 s.chains.length c4, .slice A5 s.cons.length c5] 29) = w1 at *
  generalize headS s = hs at *
  cases hs with
  | false =>
   go_wp2_with fail
   go_ret
   exact ⟨by rw [HSB.out]; rfl, hE1⟩
  | true =>
  have HBAD : Hid ((s.points.all fewPt && s.circles.all fewRd && s.chains.all fewCh && s.cons.all (fewCon K)) = false → smallB K s = false) := by
   intro h; rw [HSB.out, Bool.true_and]; exact h
  have HGOOD : Hid ((s.points.all fewPt && s.circles.all fewRd && s.chains.all fewCh && s.cons.all (fewCon K)) = true → smallB K s = true) := by
   intro h; rw [HSB.out, Bool.true_and]; exact h
  clear HSB HHD
  go_wp2_with fail
  clear y0 y1 y2 y3 y4 y5
  go_loopg [3] s.points.length (fun gk x wr => ∃ i : Nat, x = .int .i64 (i : Int) ∧ i + gk = s.points.length ∧ Hid ((s.points.drop i).all (fewPt) = s.points.all (fewPt)) ∧ Hid (Ext w1 wr))
  case atStart => exact ⟨0, rfl, by omega, rfl, Ext.refl _⟩
  case round =>

   obtain ⟨i, rfl, hi, HA, HE⟩ := hrel
   have HB2 := Lib.hid (HB1.out.ext HE.out)
   obtain ⟨y0, y1, y2, y3, y4, y5⟩ := HB2.out.six
   have hE0 := HE.out
   have hEr : Ext w wr := Ext.trans hE1 HE.out
   by_cases hlt : i < s.points.length
   ·have HD0 : Hid ((s.points.drop i).all (fewPt) = ((fewPt) s.points[i] && (s.points.drop (i + 1)).all (fewPt))) := all_drop hlt
    have hz2 := HB2.out.1
    obtain ⟨b, off, rfl, hb, ds, hds, hcell, u, v, u', v', rfl, hu, hv, hu', hv'⟩ := HPT.out.at_ hlt
    have q0 : wr.cell? ⟨b, off + i * 8, none⟩ = _ := (hEr.cell (p := ⟨b, off + (i * 8 + 0), none⟩) hb).trans (hcell 0 _ rfl)
    have q1 : wr.cell? ⟨b, off + i * 8 + 1, none⟩ = _ := (hEr.cell (p := ⟨b, off + (i * 8 + 1), none⟩) hb).trans (hcell 1 _ rfl)
    have q2 : wr.cell? ⟨b, off + i * 8 + 2, none⟩ = _ := (hEr.cell (p := ⟨b, off + (i * 8 + 2), none⟩) hb).trans (hcell 2 _ rfl)
    have q3 : wr.cell? ⟨b, off + i * 8 + 3, none⟩ = _ := (hEr.cell (p := ⟨b, off + (i * 8 + 3), none⟩) hb).trans (hcell 3 _ rfl)
    have q4 : wr.cell? ⟨b, off + i * 8 + 4, none⟩ = _ := (hEr.cell (p := ⟨b, off + (i * 8 + 4), none⟩) hb).trans (hcell 4 _ rfl)
    have q5 : wr.cell? ⟨b, off + i * 8 + 5, none⟩ = _ := (hEr.cell (p := ⟨b, off + (i * 8 + 5), none⟩) hb).trans (hcell 5 _ rfl)
    have q6 : wr.cell? ⟨b, off + i * 8 + 6, none⟩ = _ := (hEr.cell (p := ⟨b, off + (i * 8 + 6), none⟩) hb).trans (hcell 6 _ rfl)
    have q7 : wr.cell? ⟨b, off + i * 8 + 7, none⟩ = _ := (hEr.cell (p := ⟨b, off + (i * 8 + 7), none⟩) hb).trans (hcell 7 _ rfl)
    obtain ⟨D1, d1, rfl, hd1, hd1'⟩ := hu.form
    obtain ⟨D2, d2, rfl, hd2, hd2'⟩ := hv.form
    obtain ⟨D3, d3, rfl, hd3, hd3'⟩ := hu'.form
    obtain ⟨D4, d4, rfl, hd4, hd4'⟩ := hv'.form
    have HV1 := Lib.hid (fun w2 (hx : Ext w w2) => ref02_Few3 (q := s.points[i].x) (hu.ext hx) (hv.ext hx))
    have HV2 := Lib.hid (fun w2 (hx : Ext w w2) => ref02_Few3 (q := s.points[i].y) (hu'.ext hx) (hv'.ext hx))
    have HD : Hid ((s.points.drop i).all (fewPt) = (s.points[i].x.few 3 && s.points[i].y.few 3 && (s.points.drop (i + 1)).all (fewPt))) := HD0.out
    clear hu hv hu' hv' hcell hds HD0
    generalize s.points[i].x.few 3 = b1 at *
    generalize s.points[i].y.few 3 = b2 at *
    generalize s.points[i].x.num.neg = n1 at *
    generalize s.points[i].x.den.neg = n2 at *
    generalize s.points[i].y.num.neg = n3 at *
    generalize s.points[i].y.den.neg = n4 at *
    generalize s.points[i].x.num.mag.length = l1 at *
    generalize s.points[i].x.den.mag.length = l2 at *
    generalize s.points[i].y.num.mag.length = l3 at *
    generalize s.points[i].y.den.mag.length = l4 at *
    have hz1 : b < wr.heap.size := Nat.lt_of_lt_of_le hb hEr.size
    go_wp2_with fail
    refine (HV1.out _ hEr).mono ?_
    rintro e w2 ⟨rfl, hx2⟩
    cases b1 with
    | false =>
     have HT : Hid (smallB K s = false) := HBAD.out (by rw [← HA.out, HD.out]; simp)
     go_wp2_with fail
     go_ret
     exact ⟨by rw [HT.out]; rfl, (by repeat first|exact xA _|assumption|refine xB ?_ _|refine xC ?_|refine xD ?_ _|refine xE ?_ (by simp <;> omega) _|refine xF ?_ (by assumption))⟩
    | true =>
     obtain ⟨hc, hf⟩ := bcell hx2
     go_wp2_with fail
     refine (HV2.out _ (by repeat first|exact xA _|assumption|refine xB ?_ _|refine xC ?_|refine xD ?_ _|refine xE ?_ (by simp <;> omega) _|refine xF ?_ (by assumption))).mono ?_
     rintro e w3 ⟨rfl, hx3⟩
     clear hc hf
     cases b2 with
     | false =>
      have HT : Hid (smallB K s = false) := HBAD.out (by rw [← HA.out, HD.out]; simp)
      go_wp2_with fail
      go_ret
      exact ⟨by rw [HT.out]; rfl, (by repeat first|exact xA _|assumption|refine xB ?_ _|refine xC ?_|refine xD ?_ _|refine xE ?_ (by simp <;> omega) _|refine xF ?_ (by assumption))⟩
     | true =>
      have HT : Hid ((s.points.drop (i + 1)).all (fewPt) = s.points.all (fewPt)) := by show _ = _; rw [← HA.out, HD.out]; simp
      go_wp2_with fail
      go_roundg (s.points.length - (i + 1))
      case measure => omega
      case rel => exact ⟨i + 1, by simp, by omega, HT, (by repeat first|exact xA _|assumption|refine xB ?_ _|refine xC ?_|refine xD ?_ _|refine xE ?_ (by simp <;> omega) _|refine xF ?_ (by assumption))⟩
   ·have HP1 : Hid (s.points.all (fewPt) = true) := by show _ = _; rw [← HA.out, List.drop_eq_nil_of_le (by omega)]; rfl
    clear HPT HA
    go_wp2_with fail
    clear y0 y1 y2 y3 y4 y5 hEr HB2
    go_loopg [4] s.circles.length (fun gk x wr => ∃ i : Nat, x = .int .i64 (i : Int) ∧ i + gk = s.circles.length ∧ Hid ((s.circles.drop i).all (fewRd) = s.circles.all (fewRd)) ∧ Hid (Ext w1 wr))
    case atStart => exact ⟨0, rfl, by omega, rfl, HE.out⟩
    case round =>
     clear HE
     obtain ⟨i, rfl, hi, HA, HE⟩ := hrel
     have HB2 := Lib.hid (HB1.out.ext HE.out)
     obtain ⟨y0, y1, y2, y3, y4, y5⟩ := HB2.out.six
     have hE0 := HE.out
     have hEr : Ext w wr := Ext.trans hE1 HE.out
     by_cases hlt : i < s.circles.length
     ·have HD0 : Hid ((s.circles.drop i).all (fewRd) = ((fewRd) s.circles[i] && (s.circles.drop (i + 1)).all (fewRd))) := all_drop hlt
      have hz2 := HB2.out.1
      obtain ⟨b, off, rfl, hb, ds, hds, hcell, u, v, rfl, hu, hv⟩ := HCI.out.at_ hlt
      have q1 : wr.cell? ⟨b, off + i * 5 + 1, none⟩ = _ := (hEr.cell (p := ⟨b, off + (i * 5 + 1), none⟩) hb).trans (hcell 1 _ rfl)
      have q2 : wr.cell? ⟨b, off + i * 5 + 2, none⟩ = _ := (hEr.cell (p := ⟨b, off + (i * 5 + 2), none⟩) hb).trans (hcell 2 _ rfl)
      have q3 : wr.cell? ⟨b, off + i * 5 + 3, none⟩ = _ := (hEr.cell (p := ⟨b, off + (i * 5 + 3), none⟩) hb).trans (hcell 3 _ rfl)
      have q4 : wr.cell? ⟨b, off + i * 5 + 4, none⟩ = _ := (hEr.cell (p := ⟨b, off + (i * 5 + 4), none⟩) hb).trans (hcell 4 _ rfl)
      obtain ⟨D1, d1, rfl, hd1, hd1'⟩ := hu.form
      obtain ⟨D2, d2, rfl, hd2, hd2'⟩ := hv.form
      have HV1 := Lib.hid (fun w2 (hx : Ext w w2) => ref02_Few3 (q := s.circles[i].radius) (hu.ext hx) (hv.ext hx))
      have HD : Hid ((s.circles.drop i).all (fewRd) = (s.circles[i].radius.few 3 && (s.circles.drop (i + 1)).all (fewRd))) := HD0.out
      clear hu hv hcell hds HD0
      generalize s.circles[i].radius.few 3 = b1 at *
      generalize s.circles[i].radius.num.neg = n1 at *
      generalize s.circles[i].radius.den.neg = n2 at *
      generalize s.circles[i].radius.num.mag.length = l1 at *
      generalize s.circles[i].radius.den.mag.length = l2 at *
      have hz1 : b < wr.heap.size := Nat.lt_of_lt_of_le hb hEr.size
      go_wp2_with fail
      refine (HV1.out _ hEr).mono ?_
      rintro e w2 ⟨rfl, hx2⟩
      cases b1 with
      | false =>
       have HT : Hid (smallB K s = false) := HBAD.out (by rw [← HA.out, HD.out]; simp)
       go_wp2_with fail
       go_ret
       exact ⟨by rw [HT.out]; rfl, (by repeat first|exact xA _|assumption|refine xB ?_ _|refine xC ?_|refine xD ?_ _|refine xE ?_ (by simp <;> omega) _|refine xF ?_ (by assumption))⟩
      | true =>
       have HT : Hid ((s.circles.drop (i + 1)).all (fewRd) = s.circles.all (fewRd)) := by show _ = _; rw [← HA.out, HD.out]; simp
       go_wp2_with fail
       go_roundg (s.circles.length - (i + 1))
       case measure => omega
       case rel => exact ⟨i + 1, by simp, by omega, HT, (by repeat first|exact xA _|assumption|refine xB ?_ _|refine xC ?_|refine xD ?_ _|refine xE ?_ (by simp <;> omega) _|refine xF ?_ (by assumption))⟩
     ·have HP2 : Hid (s.circles.all (fewRd) = true) := by show _ = _; rw [← HA.out, List.drop_eq_nil_of_le (by omega)]; rfl
      clear HCI HA
      go_wp2_with fail
      clear y0 y1 y2 y3 y4 y5 hEr HB2
      go_loopg [5] s.chains.length (fun gk x wr => ∃ i : Nat, x = .int .i64 (i : Int) ∧ i + gk = s.chains.length ∧ Hid ((s.chains.drop i).all (fewCh) = s.chains.all (fewCh)) ∧ Hid (Ext w1 wr))
      case atStart => exact ⟨0, rfl, by omega, rfl, HE.out⟩
      case round =>
       clear HE
       obtain ⟨i, rfl, hi, HA, HE⟩ := hrel
       have HB2 := Lib.hid (HB1.out.ext HE.out)
       obtain ⟨y0, y1, y2, y3, y4, y5⟩ := HB2.out.six
       have hE0 := HE.out
       have hEr : Ext w wr := Ext.trans hE1 HE.out
       by_cases hlt : i < s.chains.length
       ·have HD0 : Hid ((s.chains.drop i).all (fewCh) = ((fewCh) s.chains[i] && (s.chains.drop (i + 1)).all (fewCh))) := all_drop hlt
        have hz2 := HB2.out.1
        obtain ⟨b, off, rfl, hb, ds, hds, hcell, v, rfl, hv⟩ := HCH.out.at_ hlt
        obtain ⟨A6, c6, rfl, hl6, hm6⟩ := hv.form
        have q0 : wr.cell? ⟨b, off + i, none⟩ = some (.slice A6 s.chains[i].length c6) := by
         have := (hEr.cell (p := ⟨b, off + (i * 1 + 0), none⟩) hb).trans (hcell 0 _ rfl)
         simpa using this
        have HD : Hid ((s.chains.drop i).all (fewCh) = (decide (s.chains[i].length ≤ 20) && (s.chains.drop (i + 1)).all (fewCh))) := HD0.out
        clear hv hcell hds HD0
        generalize s.chains[i].length = n6 at *
        by_cases hn6 : 20 < n6
        ·rw [decide_eq_false (show ¬ n6 ≤ 20 by omega)] at HD
         have HT : Hid (smallB K s = false) := HBAD.out (by rw [← HA.out, HD.out]; simp)
         go_wp2_with fail
         go_ret
         exact ⟨by rw [HT.out]; rfl, (by repeat first|exact xA _|assumption|refine xB ?_ _|refine xC ?_|refine xD ?_ _|refine xE ?_ (by simp <;> omega) _|refine xF ?_ (by assumption))⟩
        ·rw [decide_eq_true (show n6 ≤ 20 by omega)] at HD
         have HT : Hid ((s.chains.drop (i + 1)).all (fewCh) = s.chains.all (fewCh)) := by show _ = _; rw [← HA.out, HD.out]; simp
         go_wp2_with fail
         go_roundg (s.chains.length - (i + 1))
         case measure => omega
         case rel => exact ⟨i + 1, by simp, by omega, HT, (by repeat first|exact xA _|assumption|refine xB ?_ _|refine xC ?_|refine xD ?_ _|refine xE ?_ (by simp <;> omega) _|refine xF ?_ (by assumption))⟩
       ·have HP3 : Hid (s.chains.all (fewCh) = true) := by show _ = _; rw [← HA.out, List.drop_eq_nil_of_le (by omega)]; rfl
        clear HCH HA
        go_wp2_with fail
        clear y0 y1 y2 y3 y4 y5 hEr HB2
        go_loopg [6] s.cons.length (fun gk x wr => ∃ i : Nat, x = .int .i64 (i : Int) ∧ i + gk = s.cons.length ∧ Hid ((s.cons.drop i).all (fewCon K) = s.cons.all (fewCon K)) ∧ Hid (Ext w1 wr))
        case atStart => exact ⟨0, rfl, by omega, rfl, HE.out⟩
        case round =>
         clear HE
         obtain ⟨i, rfl, hi, HA, HE⟩ := hrel
         have HB2 := Lib.hid (HB1.out.ext HE.out)
         obtain ⟨y0, y1, y2, y3, y4, y5⟩ := HB2.out.six
         have hE0 := HE.out
         have hEr : Ext w wr := Ext.trans hE1 HE.out
         by_cases hlt : i < s.cons.length
         ·have HD0 : Hid ((s.cons.drop i).all (fewCon K) = ((fewCon K) s.cons[i] && (s.cons.drop (i + 1)).all (fewCon K))) := all_drop hlt
          have hz2 := HB2.out.1
          obtain ⟨b, off, rfl, hb, ds, hds, hcell, pv, cv, vv, rfl, hp, hq, hv⟩ := HCO.out.at_ hlt
          obtain ⟨A6, c6, rfl, hl6, hm6⟩ := hp.form
          obtain ⟨A7, c7, rfl, hl7, hm7⟩ := hq.form
          obtain ⟨A8, c8, rfl, hl8, hm8⟩ := hv.form
          have q0 : wr.cell? ⟨b, off + i * 5, none⟩ = _ := (hEr.cell (p := ⟨b, off + (i * 5 + 0), none⟩) hb).trans (hcell 0 _ rfl)
          have q1 : wr.cell? ⟨b, off + i * 5 + 1, none⟩ = _ := (hEr.cell (p := ⟨b, off + (i * 5 + 1), none⟩) hb).trans (hcell 1 _ rfl)
          have q2 : wr.cell? ⟨b, off + i * 5 + 2, none⟩ = _ := (hEr.cell (p := ⟨b, off + (i * 5 + 2), none⟩) hb).trans (hcell 2 _ rfl)
          have q3 : wr.cell? ⟨b, off + i * 5 + 3, none⟩ = _ := (hEr.cell (p := ⟨b, off + (i * 5 + 3), none⟩) hb).trans (hcell 3 _ rfl)
          have q4 : wr.cell? ⟨b, off + i * 5 + 4, none⟩ = _ := (hEr.cell (p := ⟨b, off + (i * 5 + 4), none⟩) hb).trans (hcell 4 _ rfl)
          have HVV := Lib.hid hv
          have HD : Hid ((s.cons.drop i).all (fewCon K) = (decide (s.cons[i].points.length ≤ 10) && decide (s.cons[i].circles.length ≤ 10) && decide (s.cons[i].values.length ≤ 10) && s.cons[i].values.all (fewE K) && (s.cons.drop (i + 1)).all (fewCon K))) := HD0.out
          have HBo := Lib.hid (CellsAt.new wr [.int .i64 s.cons[i].kind, .slice A6 s.cons[i].points.length c6, .slice A7 s.cons[i].circles.length c7, .slice A8 s.cons[i].values.length c8, .int .i64 s.cons[i].side] 84)
          have hEo2 : Ext wr (wr.alloc (.cells #[.int .i64 s.cons[i].kind, .slice A6 s.cons[i].points.length c6, .slice A7 s.cons[i].circles.length c7, .slice A8 s.cons[i].values.length c8, .int .i64 s.cons[i].side] 84)) := Ext.alloc _ _
          have hEo := hEr.trans hEo2
          clear hp hq hv hcell hds HD0
          generalize s.cons[i].points.length = n6 at *
          generalize s.cons[i].circles.length = n7 at *
          generalize s.cons[i].kind = kd at *
          generalize s.cons[i].side = sd at *
          have hz1 : b < wr.heap.size := Nat.lt_of_lt_of_le hb hEr.size
          by_cases t6 : 10 < n6
          ·rw [decide_eq_false (show ¬ n6 ≤ 10 by omega)] at HD
           have HT : Hid (smallB K s = false) := HBAD.out (by rw [← HA.out, HD.out]; simp)
           go_wp2_with fail
           go_ret
           exact ⟨by rw [HT.out]; rfl, (by repeat first|exact xA _|assumption|refine xB ?_ _|refine xC ?_|refine xD ?_ _|refine xE ?_ (by simp <;> omega) _|refine xF ?_ (by assumption))⟩
          rw [decide_eq_true (show n6 ≤ 10 by omega)] at HD
          by_cases t7 : 10 < n7
          ·rw [decide_eq_false (show ¬ n7 ≤ 10 by omega)] at HD
           have HT : Hid (smallB K s = false) := HBAD.out (by rw [← HA.out, HD.out]; simp)
           go_wp2_with fail
           go_ret
           exact ⟨by rw [HT.out]; rfl, (by repeat first|exact xA _|assumption|refine xB ?_ _|refine xC ?_|refine xD ?_ _|refine xE ?_ (by simp <;> omega) _|refine xF ?_ (by assumption))⟩
          rw [decide_eq_true (show n7 ≤ 10 by omega)] at HD
          by_cases t8 : 10 < s.cons[i].values.length
          ·rw [decide_eq_false (show ¬ s.cons[i].values.length ≤ 10 by omega)] at HD
           have HT : Hid (smallB K s = false) := HBAD.out (by rw [← HA.out, HD.out]; simp)
           go_wp2_with fail
           go_ret
           exact ⟨by rw [HT.out]; rfl, (by repeat first|exact xA _|assumption|refine xB ?_ _|refine xC ?_|refine xD ?_ _|refine xE ?_ (by simp <;> omega) _|refine xF ?_ (by assumption))⟩
          rw [decide_eq_true (show s.cons[i].values.length ≤ 10 by omega)] at HD
          go_wp2_with fail
          clear y0 y1 y2 y3 y4 y5
          generalize wr.alloc (.cells #[.int .i64 kd, .slice A6 n6 c6, .slice A7 n7 c7, .slice A8 s.cons[i].values.length c8, .int .i64 sd] 84) = wo at *
          go_loopg [8] s.cons[i].values.length (fun gk x wr2 => ∃ j : Nat, x = .int .i64 (j : Int) ∧ j + gk = s.cons[i].values.length ∧ Hid ((s.cons[i].values.drop j).all (fewE K) = s.cons[i].values.all (fewE K)) ∧ Hid (Ext wo wr2))
          case atStart => exact ⟨0, rfl, by omega, rfl, Ext.refl _⟩
          case round =>
           obtain ⟨j, rfl, hj, HAj, HEj⟩ := hrel
           have hEj := HEj.out
           have hEjw : Ext w wr := hEo.trans hEj
           have HBj := Lib.hid (HBo.out.ext hEj)
           obtain ⟨z0, z1, z2, z3, z4⟩ := HBj.out.five
           have HBs := Lib.hid (HB2.out.ext (Ext.trans hEo2 hEj))
           obtain ⟨y0, y1, y2, y3, y4, y5⟩ := HBs.out.six
           by_cases hjl : j < s.cons[i].values.length
           ·obtain ⟨b2, off2, rfl, hb2, es, hes, hcell2, hR2⟩ := HVV.out.at_ hjl
            have HDj : Hid ((s.cons[i].values.drop j).all (fewE K) = (decide (sizeE K 0 (s.cons[i].values[j]) ≤ 60) && (s.cons[i].values.drop (j + 1)).all (fewE K))) := all_drop hjl
            have HSZ := ref26_size K 0 (ExprR.stable K _ _ _ _ hEjw hR2) (by omega)
            have hsl := sizeE_le K 0 (s.cons[i].values[j]) (by omega)
            obtain ⟨e0, e1, e2, e3, e4, e5, e6, rfl⟩ := seven_of hes
            clear hes
            have r0 : wr.cell? ⟨b2, off2 + j * 7, none⟩ = _ := (hEjw.cell (p := ⟨b2, off2 + (j * 7 + 0), none⟩) hb2).trans (hcell2 0 _ rfl)
            have r1 : wr.cell? ⟨b2, off2 + j * 7 + 1, none⟩ = _ := (hEjw.cell (p := ⟨b2, off2 + (j * 7 + 1), none⟩) hb2).trans (hcell2 1 _ rfl)
            have r2 : wr.cell? ⟨b2, off2 + j * 7 + 2, none⟩ = _ := (hEjw.cell (p := ⟨b2, off2 + (j * 7 + 2), none⟩) hb2).trans (hcell2 2 _ rfl)
            have r3 : wr.cell? ⟨b2, off2 + j * 7 + 3, none⟩ = _ := (hEjw.cell (p := ⟨b2, off2 + (j * 7 + 3), none⟩) hb2).trans (hcell2 3 _ rfl)
            have r4 : wr.cell? ⟨b2, off2 + j * 7 + 4, none⟩ = _ := (hEjw.cell (p := ⟨b2, off2 + (j * 7 + 4), none⟩) hb2).trans (hcell2 4 _ rfl)
            have r5 : wr.cell? ⟨b2, off2 + j * 7 + 5, none⟩ = _ := (hEjw.cell (p := ⟨b2, off2 + (j * 7 + 5), none⟩) hb2).trans (hcell2 5 _ rfl)
            have r6 : wr.cell? ⟨b2, off2 + j * 7 + 6, none⟩ = _ := (hEjw.cell (p := ⟨b2, off2 + (j * 7 + 6), none⟩) hb2).trans (hcell2 6 _ rfl)
            have HSZ' : Calls Tryz.prog 46 #[.agg #[e0, e1, e2, e3, e4, e5, e6], .int .i64 0] wr fun x w' => x = .returned (.int .i64 (sizeE K 0 (s.cons[i].values[j]) : Nat)) ∧ Ext wr w' := HSZ
            have HC := Lib.hid HSZ'
            clear HSZ HSZ' hcell2 hR2
            generalize sizeE K 0 (s.cons[i].values[j]) = sz at *
            go_wp2_with fail
            refine HC.out.mono ?_
            rintro e w3 ⟨rfl, hx3⟩
            by_cases hs60 : sz ≤ 60
            ·rw [decide_eq_true hs60] at HDj
             have hs61 : ¬ (60 < (sz : Int)) := by omega
             have HTj : Hid ((s.cons[i].values.drop (j + 1)).all (fewE K) = s.cons[i].values.all (fewE K)) := by show _ = _; rw [← HAj.out, HDj.out]; rfl
             go_wp2_with fail
             go_roundg (s.cons[i].values.length - (j + 1))
             case measure => omega
             case rel => exact ⟨j + 1, by simp, by omega, HTj, (by repeat first|exact xA _|assumption|refine xB ?_ _|refine xC ?_|refine xD ?_ _|refine xE ?_ (by simp <;> omega) _|refine xF ?_ (by assumption))⟩
            ·rw [decide_eq_false hs60] at HDj
             have hs61 : 60 < (sz : Int) := by omega
             have HT : Hid (smallB K s = false) := HBAD.out (by rw [← HA.out, HD.out, ← HAj.out, HDj.out]; simp)
             go_wp2_with fail
             go_ret
             exact ⟨by rw [HT.out]; rfl, (by repeat first|exact xA _|assumption|refine xB ?_ _|refine xC ?_|refine xD ?_ _|refine xE ?_ (by simp <;> omega) _|refine xF ?_ (by assumption))⟩
           ·have HTj : Hid (s.cons[i].values.all (fewE K) = true) := by show _ = _; rw [← HAj.out, List.drop_eq_nil_of_le (by omega)]; rfl
            have HT : Hid ((s.cons.drop (i + 1)).all (fewCon K) = s.cons.all (fewCon K)) := by show _ = _; rw [← HA.out, HD.out, HTj.out]; simp
            go_wp2_with fail
            go_roundg (s.cons.length - (i + 1))
            case measure => omega
            case rel => exact ⟨i + 1, by simp, by omega, HT, hE0.trans (Ext.trans hEo2 hEj)⟩
         ·have HP4 : Hid (s.cons.all (fewCon K) = true) := by show _ = _; rw [← HA.out, List.drop_eq_nil_of_le (by omega)]; rfl
          clear HCO HA
          go_wp2_with fail
          have HT : Hid (smallB K s = true) := HGOOD.out (by rw [HP1.out, HP2.out, HP3.out, HP4.out]; rfl)
          go_ret
          exact ⟨by rw [HT.out]; rfl, (by repeat first|exact xA _|assumption|refine xB ?_ _|refine xC ?_|refine xD ?_ _|refine xE ?_ (by simp <;> omega) _|refine xF ?_ (by assumption))⟩
end Go.Proofs.YtjigihlhjhbkpaaGreatDoor
