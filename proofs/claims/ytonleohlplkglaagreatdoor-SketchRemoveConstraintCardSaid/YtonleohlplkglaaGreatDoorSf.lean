/- size of the reference's layer 26; what it says of an expression. -/
import Derived.Test.YtonleohlplkglaaGreatDoorSb
namespace Go.Proofs.YtonleohlplkglaaGreatDoor
open Go Go.RowKit

def badE (d : Nat) (e : EI) : Bool := decide (60 < d) || decide (4 < e.args.length) || decide (40 < e.name.size) || decide (4 < e.value.num.mag.length) || decide (4 < e.value.den.mag.length)
/-- The loop of size. -/
def sumL (f : EI → Nat) : Nat → List EI → Nat
  | n, [] => n
  | n, a :: l => if n < 1000 then sumL f (n + f a) l else n
def sizeE : Nat → Nat → EI → Nat
  | 0, _, _ => 1000
  | k + 1, d, e => if badE d e then 1000 else sumL (sizeE k (d + 1)) 1 e.args
theorem sumL_le (f : EI → Nat) (B : Nat) (hB : ∀ a, f a ≤ B) : ∀ (l : List EI) (n : Nat), n ≤ 999 + B → sumL f n l ≤ 999 + B
  | [], _, h => h
  | a :: l, n, h => by
    unfold sumL
    split
    · exact sumL_le f B hB l _ (by have := hB a; omega)
    · exact h
theorem sizeE_le : ∀ k d e, d ≤ 61 → sizeE k d e ≤ 1000 * (62 - d)
  | 0, d, e, h => by unfold sizeE; omega
  | k + 1, d, e, h => by
    unfold sizeE
    split
    · omega
    · next hb =>
      have hd : d ≤ 60 := by
        rcases Nat.lt_or_ge 60 d with h1 | h1
        · exfalso; apply hb; simp [badE, h1]
        · exact h1
      have := sumL_le (sizeE k (d + 1)) (1000 * (61 - d)) (fun a => by have := sizeE_le k (d + 1) a (by omega); omega) e.args 1 (by omega)
      omega
theorem sumL_ge (f : EI → Nat) : ∀ (l : List EI) (n : Nat), n ≤ sumL f n l
  | [], _ => Nat.le_refl _
  | a :: l, n => by
    unfold sumL
    split
    · have := sumL_ge f l (n + f a); omega
    · exact Nat.le_refl _
theorem sumL_mem (f : EI → Nat) : ∀ (l : List EI) (n : Nat), sumL f n l ≤ 60 → ∀ a ∈ l, f a ≤ 60
  | [], _, _ => by simp
  | a :: l, n, h => by
    unfold sumL at h
    split at h
    · intro b hb
      rcases List.mem_cons.1 hb with rfl | hb
      · have := sumL_ge f l (n + f b); omega
      · exact sumL_mem f l _ h b hb
    · omega
theorem sizeE_small : ∀ k d e, d ≤ 61 → sizeE k d e ≤ 60 → smallE (61 - d) e
  | 0, d, e, _, h => by unfold sizeE at h; omega
  | k + 1, d, e, hd, h => by
    unfold sizeE at h
    split at h
    · omega
    · next hb =>
      simp only [badE, Bool.not_eq_true, Bool.or_eq_false_iff, decide_eq_false_iff_not] at hb
      obtain ⟨⟨⟨⟨h1, h2⟩, h3⟩, h4⟩, h5⟩ := hb
      obtain ⟨j, hj⟩ : ∃ j, 61 - d = j + 1 := ⟨60 - d, by omega⟩
      rw [hj]
      refine ⟨by omega, by omega, by omega, by omega, fun a ha => ?_⟩
      have := sizeE_small k (d + 1) a (by omega) (sumL_mem _ _ _ h a ha)
      rwa [show 61 - (d + 1) = j by omega] at this
theorem ExprR.lower : ∀ (k K : Nat) (w : World) (cs : List Value) (e : EI), ExprR K w cs e → smallE k e → ExprR k w cs e
  | 0, _, _, _, _, _, hs => hs.elim
  | k + 1, 0, _, _, _, h, _ => h.elim
  | k + 1, K + 1, w, cs, e, h, hs => by
    obtain ⟨u, v, sl, h1, h2, h3, A, c, h4, h5, h6, h7⟩ := h
    refine ⟨u, v, sl, h1, h2, h3, A, c, h4, h5, h6, fun hne => ?_⟩
    obtain ⟨b, off, g1, g2, g3⟩ := h7 hne
    refine ⟨b, off, g1, g2, fun i x hx => ?_⟩
    obtain ⟨ds, e1, e2, e3⟩ := g3 i x hx
    exact ⟨ds, e1, e2, ExprR.lower k K w ds x e3 (hs.2.2.2.2 x (List.mem_of_getElem? hx))⟩

set_option maxRecDepth 100000 in
set_option maxHeartbeats 1600000 in
theorem ref26_size : ∀ (k d : Nat) {e : EI} {cs : List Value} {w : World} (_ : ExprR k w cs e) (_ : d ≤ 61),
    Calls Tryz.prog 32 #[.agg cs.toArray, .int .i64 (d : Int)] w fun x w' => x = .returned (.int .i64 (sizeE k d e : Nat)) ∧ Ext w w'
  | 0, _, _, _, _, h, _ => h.elim
  | k + 1, d, e, cs, w, h, hd => by
    obtain ⟨u, v, sl, rfl, hu, hv, hsl⟩ := h
    obtain ⟨A, c, rfl, hl, hm0, hel⟩ := hsl
    have HM0 := Lib.hid hm0
    have HEL := Lib.hid hel
    obtain ⟨A1, c1, rfl, hc1, hc1'⟩ := hu.form
    obtain ⟨A2, c2, rfl, hc2, hc2'⟩ := hv.form
    have HBX := Lib.hid (CellsAt.new w [.int .i64 e.op, .bool e.value.num.neg, .slice A1 e.value.num.mag.length c1, .bool e.value.den.neg, .slice A2 e.value.den.mag.length c2, .string e.name, .slice A e.args.length c] 69)
    have HZ : Hid (sizeE (k + 1) d e = if badE d e then 1000 else sumL (sizeE k (d + 1)) 1 e.args) := rfl
    have HB : Hid (badE d e = (decide (60 < d) || decide (4 < e.args.length) || decide (40 < e.name.size) || decide (4 < e.value.num.mag.length) || decide (4 < e.value.den.mag.length))) := rfl
    have HB4 : Hid (badE d e = false → e.args.length ≤ 4 ∧ d ≤ 60) := by
      intro h; rw [HB.out] at h; simp at h; omega
    clear hu hv hel hm0
    have i1 : decide (60 < (d : Int)) = decide (60 < d) := by rw [decide_eq_decide]; omega
    generalize e.value.num.mag.length = l1 at *
    generalize e.value.den.mag.length = l2 at *
    generalize e.value.num.neg = b1 at *
    generalize e.value.den.neg = b2 at *
    generalize e.op = op at *
    generalize e.name = nm at *
    generalize badE d e = bad at *
    obtain ⟨y0, y1, y2, y3, y4, y5, y6⟩ := HBX.out.seven
    go_enter Tryz.func32, Tryz.ntmps32
    go_upto_region 1 with fail
    go_cut [36] (fun x wx => x = .bool bad ∧ wx = w.alloc (.cells #[.int .i64 op, .bool b1, .slice A1 l1 c1, .bool b2, .slice A2 l2 c2, .string nm, .slice A e.args.length c] 69))
    case first =>
      by_cases t1 : 60 < d
      · have HX : Hid (bad = true) := by show _ = _; rw [HB.out]; simp [t1]
        go_wp2_with fail
        go_meet
        exact ⟨by rw [HX.out], rfl⟩
      by_cases t2 : 4 < e.args.length
      · have HX : Hid (bad = true) := by show _ = _; rw [HB.out]; simp [t2]
        go_wp2_with fail
        go_meet
        exact ⟨by rw [HX.out], rfl⟩
      by_cases t3 : 40 < nm.size
      · have HX : Hid (bad = true) := by show _ = _; rw [HB.out]; simp [t3]
        go_wp2_with fail
        go_meet
        exact ⟨by rw [HX.out], rfl⟩
      by_cases t4 : 4 < l1
      · have HX : Hid (bad = true) := by show _ = _; rw [HB.out]; simp [t4]
        go_wp2_with fail
        go_meet
        exact ⟨by rw [HX.out], rfl⟩
      by_cases t5 : 4 < l2
      · have HX : Hid (bad = true) := by show _ = _; rw [HB.out]; simp [t5]
        go_wp2_with fail
        go_meet
        exact ⟨by rw [HX.out]; first | rfl | (congr 1; exact decide_eq_true (by omega)) | (congr 1; simp; omega), rfl⟩
      have HX : Hid (bad = false) := by show _ = _; rw [HB.out]; simp; omega
      go_wp2_with fail
      go_meet
      exact ⟨by rw [HX.out]; first | rfl | (congr 1; exact decide_eq_false (by omega)) | (congr 1; simp; omega), rfl⟩
    case rest =>
      obtain ⟨rfl, rfl⟩ := hcut
      clear y0 y1 y2 y3 y4 y5 y6 HB
      have hE0 : Ext w (w.alloc (.cells #[.int .i64 op, .bool b1, .slice A1 l1 c1, .bool b2, .slice A2 l2 c2, .string nm, .slice A e.args.length c] 69)) := Ext.alloc _ _
      cases bad with
      | true =>
        go_wp2_with fail
        refine bodyPost_ret (v := .int .i64 1000) ?_ rfl ⟨by rw [HZ.out]; rfl, hE0⟩
        simp [results, Tryz.results32, go_sem]
      | false =>
        obtain ⟨h4, hd60⟩ := HB4.out rfl
        have HZ2 : Hid (sizeE (k + 1) d e = sumL (sizeE k (d + 1)) 1 e.args) := by show _ = _; rw [HZ.out]; rfl
        clear HZ HB4
        obtain ⟨y0, y1, y2, y3, y4, y5, y6⟩ := HBX.out.seven
        go_wp2_with fail
        clear y0 y1 y2 y3 y4 y5 y6
        go_loopg [5, 6] e.args.length (fun gk y x wr => ∃ i n : Nat, x = .int .i64 (i : Int) ∧ y = .int .i64 (n : Int) ∧ n ≤ 999 + 1000 * 61 ∧ i + gk = e.args.length ∧ Hid (sumL (sizeE k (d + 1)) n (e.args.drop i) = sumL (sizeE k (d + 1)) 1 e.args) ∧ Hid (Ext (w.alloc (.cells #[.int .i64 op, .bool b1, .slice A1 l1 c1, .bool b2, .slice A2 l2 c2, .string nm, .slice A e.args.length c] 69)) wr))
        case atStart => exact ⟨0, 1, rfl, rfl, by omega, by omega, rfl, Ext.refl _⟩
        case round =>
          obtain ⟨i, n, rfl, rfl, hn, hi, HA, HE⟩ := hrel
          obtain ⟨y0, y1, y2, y3, y4, y5, y6⟩ := (HBX.out.ext HE.out).seven
          have hEr : Ext w wr := Ext.trans (Ext.alloc _ _) HE.out
          by_cases hlt : i < e.args.length
          · by_cases hn1 : n < 1000
            · obtain ⟨b, off, rfl, hb, hel⟩ := HEL.out (by intro e0; rw [e0] at hlt; simp at hlt)
              have hx0 : e.args[i]? = some e.args[i] := List.getElem?_eq_getElem hlt
              obtain ⟨ds, hds, hcell, hR⟩ := hel i _ hx0
              match ds, hds with
              | [d0, d1, d2, d3, d4, d5, d6], _ =>
                have q0 : wr.cell? ⟨b, off + i * 7, none⟩ = some d0 := (hEr.cell (p := ⟨b, off + (i * 7 + 0), none⟩) hb).trans (hcell 0 _ rfl)
                have q1 : wr.cell? ⟨b, off + i * 7 + 1, none⟩ = some d1 := (hEr.cell (p := ⟨b, off + (i * 7 + 1), none⟩) hb).trans (hcell 1 _ rfl)
                have q2 : wr.cell? ⟨b, off + i * 7 + 2, none⟩ = some d2 := (hEr.cell (p := ⟨b, off + (i * 7 + 2), none⟩) hb).trans (hcell 2 _ rfl)
                have q3 : wr.cell? ⟨b, off + i * 7 + 3, none⟩ = some d3 := (hEr.cell (p := ⟨b, off + (i * 7 + 3), none⟩) hb).trans (hcell 3 _ rfl)
                have q4 : wr.cell? ⟨b, off + i * 7 + 4, none⟩ = some d4 := (hEr.cell (p := ⟨b, off + (i * 7 + 4), none⟩) hb).trans (hcell 4 _ rfl)
                have q5 : wr.cell? ⟨b, off + i * 7 + 5, none⟩ = some d5 := (hEr.cell (p := ⟨b, off + (i * 7 + 5), none⟩) hb).trans (hcell 5 _ rfl)
                have q6 : wr.cell? ⟨b, off + i * 7 + 6, none⟩ = some d6 := (hEr.cell (p := ⟨b, off + (i * 7 + 6), none⟩) hb).trans (hcell 6 _ rfl)
                have HC' := ref26_size k (d + 1) (ExprR.stable k _ _ _ _ hEr hR) (by omega)
                rw [show ((d + 1 : Nat) : Int) = (d : Int) + 1 by omega] at HC'
                have HC := Lib.hid HC'
                have hdl := sizeE_le k (d + 1) e.args[i] (by omega)
                have hdl2 : sizeE k (d + 1) e.args[i] ≤ 61000 := by omega
                have HDR : Hid (sumL (sizeE k (d + 1)) n (e.args.drop i) = sumL (sizeE k (d + 1)) (n + sizeE k (d + 1) e.args[i]) (e.args.drop (i + 1))) := by show _ = _; rw [List.drop_eq_getElem_cons hlt, sumL, if_pos hn1]
                clear hel hcell hR HC' hdl
                generalize sizeE k (d + 1) e.args[i] = fk at *
                go_wp2_with fail
                refine HC.out.mono ?_
                rintro x w2 ⟨rfl, hx2⟩
                go_wp2_with fail
                go_roundg (e.args.length - (i + 1))
                case measure => omega
                case rel => exact ⟨i + 1, n + fk, by simp, by simp, by omega, by omega, (HDR.out.symm.trans HA.out), HE.out.trans hx2⟩
            · have HT : Hid (n = sizeE (k + 1) d e) := by show _ = _; rw [HZ2.out, ← HA.out, List.drop_eq_getElem_cons hlt, sumL, if_neg hn1]
              have hn2 : ¬ ((n : Int) < 1000) := by omega
              go_wp2_with fail
              refine bodyPost_ret (v := .int .i64 (n : Int)) ?_ rfl ⟨by rw [← HT.out], hEr⟩
              simp [results, Tryz.results32, go_sem]
          · have HT : Hid (n = sizeE (k + 1) d e) := by show _ = _; rw [HZ2.out, ← HA.out, List.drop_eq_nil_of_le (by omega)]; rfl
            go_wp2_with fail
            refine bodyPost_ret (v := .int .i64 (n : Int)) ?_ rfl ⟨by rw [← HT.out], hEr⟩
            simp [results, Tryz.results32, go_sem]
end Go.Proofs.YtonleohlplkglaaGreatDoor
