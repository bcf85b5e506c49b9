/- Contracts: Depth, Valid of the reference's layer 22. -/
import Derived.Test.YtonleohlplkglaaGreatDoorTy
namespace Go.Proofs.YtonleohlplkglaaGreatDoor
open Go Go.RowKit

def depthE : Nat → EI → Nat
  | 0, _ => 0
  | k + 1, e => e.args.foldl (fun n a => max n (depthE k a)) 0 + 1
theorem foldl_max_le {α : Type} (f : α → Nat) (k : Nat) : ∀ (l : List α) (n : Nat), n ≤ k → (∀ a, f a ≤ k) → l.foldl (fun n a => max n (f a)) n ≤ k
  | [], _, hn, _ => hn
  | a :: l, _, hn, h => foldl_max_le f k l _ (Nat.max_le.2 ⟨hn, h a⟩) h
theorem depthE_le : ∀ k e, depthE k e ≤ k
  | 0, _ => Nat.le_refl _
  | k + 1, e => Nat.succ_le_succ (foldl_max_le (depthE k) k e.args 0 (Nat.zero_le _) (depthE_le k))

set_option maxRecDepth 100000 in
set_option maxHeartbeats 1600000 in
theorem ref22_Depth : ∀ (k : Nat) {e : EI} {cs : List Value} {w : World} (_ : ExprR k w cs e) (_ : smallE k e) (_ : k ≤ 100000),
    Calls Tryz.prog 151 #[.agg cs.toArray] w fun x w' => x = .returned (.int .i64 (depthE k e : Nat)) ∧ Ext w w'
  | 0, _, _, _, h, _, _ => h.elim
  | k + 1, e, cs, w, h, hs, hk => by
    obtain ⟨u, v, sl, rfl, hu, hv, hsl⟩ := h
    obtain ⟨s1, s2, s3, hm, s4⟩ := hs
    obtain ⟨A, c, rfl, hl, hm0, hel⟩ := hsl
    clear hm0
    have HF : Hid (depthE (k + 1) e = e.args.foldl (fun n a => max n (depthE k a)) 0 + 1) := rfl
    have HEL := Lib.hid hel
    have HS4 := Lib.hid s4
    obtain ⟨A1, c1, rfl, hc1, hc1'⟩ := hu.form
    obtain ⟨A2, c2, rfl, hc2, hc2'⟩ := hv.form
    clear hu hv hel s1 s2 s3 s4
    have HBX := Lib.hid (CellsAt.new w [.int .i64 e.op, .bool e.value.num.neg, .slice A1 e.value.num.mag.length c1, .bool e.value.den.neg, .slice A2 e.value.den.mag.length c2, .string e.name, .slice A e.args.length c] 69)
    generalize e.value.num.mag.length = l1 at *
    generalize e.value.den.mag.length = l2 at *
    generalize e.value.num.neg = b1 at *
    generalize e.value.den.neg = b2 at *
    generalize e.op = op at *
    generalize e.name = nm at *
    go_enter Tryz.func151, Tryz.ntmps151
    go_wp2_with fail
    go_loopg [3, 4] e.args.length (fun gk y x wr => ∃ i n : Nat, x = .int .i64 (i : Int) ∧ y = .int .i64 (n : Int) ∧ n ≤ k ∧ i + gk = e.args.length ∧ Hid ((e.args.drop i).foldl (fun n a => max n (depthE k a)) n = e.args.foldl (fun n a => max n (depthE k a)) 0) ∧ Hid (Ext (w.alloc (.cells #[.int .i64 op, .bool b1, .slice A1 l1 c1, .bool b2, .slice A2 l2 c2, .string nm, .slice A e.args.length c] 69)) wr))
    case atStart => exact ⟨0, 0, rfl, rfl, Nat.zero_le _, by omega, rfl, Ext.refl _⟩
    case round =>
      obtain ⟨i, n, rfl, rfl, hn, hi, HA, HE⟩ := hrel
      obtain ⟨y0, y1, y2, y3, y4, y5, y6⟩ := (HBX.out.ext HE.out).seven
      have hEr : Ext w wr := Ext.trans (Ext.alloc _ _) HE.out
      by_cases hlt : i < e.args.length
      · obtain ⟨b, off, rfl, hb, hel⟩ := HEL.out (by intro e0; rw [e0] at hlt; simp at hlt)
        have hx0 : e.args[i]? = some e.args[i] := List.getElem?_eq_getElem hlt
        obtain ⟨ds, hds, hcell, hR⟩ := hel i _ hx0
        have hsm := HS4.out e.args[i] (List.getElem_mem hlt)
        match ds, hds with
        | [d0, d1, d2, d3, d4, d5, d6], _ =>
          have q0 : wr.cell? ⟨b, off + i * 7, none⟩ = some d0 := (hEr.cell (p := ⟨b, off + (i * 7 + 0), none⟩) hb).trans (hcell 0 _ rfl)
          have q1 : wr.cell? ⟨b, off + i * 7 + 1, none⟩ = some d1 := (hEr.cell (p := ⟨b, off + (i * 7 + 1), none⟩) hb).trans (hcell 1 _ rfl)
          have q2 : wr.cell? ⟨b, off + i * 7 + 2, none⟩ = some d2 := (hEr.cell (p := ⟨b, off + (i * 7 + 2), none⟩) hb).trans (hcell 2 _ rfl)
          have q3 : wr.cell? ⟨b, off + i * 7 + 3, none⟩ = some d3 := (hEr.cell (p := ⟨b, off + (i * 7 + 3), none⟩) hb).trans (hcell 3 _ rfl)
          have q4 : wr.cell? ⟨b, off + i * 7 + 4, none⟩ = some d4 := (hEr.cell (p := ⟨b, off + (i * 7 + 4), none⟩) hb).trans (hcell 4 _ rfl)
          have q5 : wr.cell? ⟨b, off + i * 7 + 5, none⟩ = some d5 := (hEr.cell (p := ⟨b, off + (i * 7 + 5), none⟩) hb).trans (hcell 5 _ rfl)
          have q6 : wr.cell? ⟨b, off + i * 7 + 6, none⟩ = some d6 := (hEr.cell (p := ⟨b, off + (i * 7 + 6), none⟩) hb).trans (hcell 6 _ rfl)
          have HC := Lib.hid (ref22_Depth k (ExprR.stable k _ _ _ _ hEr hR) hsm (by omega))
          have hdl := depthE_le k e.args[i]
          have HDR : Hid ((e.args.drop i).foldl (fun n a => max n (depthE k a)) n = (e.args.drop (i + 1)).foldl (fun n a => max n (depthE k a)) (max n (depthE k e.args[i]))) := by show _ = _; rw [List.drop_eq_getElem_cons hlt, List.foldl_cons]
          clear hel hcell hR
          generalize depthE k e.args[i] = fk at *
          go_wp2_with fail
          refine HC.out.mono ?_
          rintro x w2 ⟨rfl, hx2⟩
          by_cases hle : n < fk
          rotate_left
          · rw [Nat.max_eq_left (by omega)] at HDR
            go_wp2_with fail
            go_roundg (gk - 1)
            case measure => omega
            case rel => exact ⟨i + 1, n, by simp, by simp; try omega, hn, by omega, (HDR.out.symm.trans HA.out), HE.out.trans hx2⟩
          · rw [Nat.max_eq_right (by omega)] at HDR
            go_wp2_with fail
            go_roundg (gk - 1)
            case measure => omega
            case rel => exact ⟨i + 1, fk, by simp, by simp; try omega, hdl, by omega, (HDR.out.symm.trans HA.out), HE.out.trans hx2⟩
      · have HT : Hid (n + 1 = depthE (k + 1) e) := by show _ = _; rw [HF.out, ← HA.out, List.drop_eq_nil_of_le (by omega)]; rfl
        go_wp2_with fail
        refine bodyPost_ret (v := .int .i64 ((n + 1 : Nat) : Int)) ?_ rfl ⟨?_, hEr⟩
        · simp [results, Tryz.results151, go_sem]
        · rw [HT.out]

/-- The error of an expression. -/
def errE (k : Nat) (e : EI) : Int := if formed k e then if depthE k e ≤ 40 then 0 else 3 else 1

set_option maxRecDepth 100000 in
set_option maxHeartbeats 1600000 in
theorem ref22_Valid (k : Nat) {e : EI} {cs : List Value} {w : World} (h : ExprR k w cs e) (hs : smallE k e) (hk : k ≤ 100000) :
    Calls Tryz.prog 105 #[.agg cs.toArray] w fun x w' => x = .returned (.int .i64 (errE k e)) ∧ Ext w w' := by
  have H1 := Lib.hid (fun w1 (hx : Ext w w1) => ref22_Formed k (ExprR.stable k _ _ _ _ hx h) hs)
  have H2 := Lib.hid (fun w1 (hx : Ext w w1) => ref22_Depth k (ExprR.stable k _ _ _ _ hx h) hs hk)
  have hd := depthE_le k e
  have HE : Hid (errE k e = if formed k e then if depthE k e ≤ 40 then 0 else 3 else 1) := rfl
  obtain ⟨j, rfl⟩ : ∃ j, k = j + 1 := by cases k with | zero => exact h.elim | succ j => exact ⟨j, rfl⟩
  obtain ⟨u, v, sl, rfl, hu, hv, hsl⟩ := h
  clear hu hv hsl hs
  generalize formed (j + 1) e = fk at *
  generalize depthE (j + 1) e = dk at *
  generalize e.op = op at *
  generalize e.name = nm at *
  generalize e.value.num.neg = b1 at *
  generalize e.value.den.neg = b2 at *
  have HBX := Lib.hid (CellsAt.new w [.int .i64 op, .bool b1, u, .bool b2, v, .string nm, sl] 69)
  go_enter Tryz.func105, Tryz.ntmps105
  go_wp2_with fail
  refine (H1.out _ (by repeat (first | exact Ext.refl _ | assumption | refine Ext.pdrewN ?_ _ | refine Ext.pdrew ?_ | refine Ext.palloc ?_ _ | refine Ext.pset ?_ (by simp <;> omega) _ | refine Ext.trans ?_ (by assumption)))).mono ?_
  rintro x w1 ⟨rfl, hx1⟩
  obtain ⟨y0, y1, y2, y3, y4, y5, y6⟩ := (HBX.out.ext hx1).seven
  have hE1 : Ext w w1 := (by repeat (first | exact Ext.refl _ | assumption | refine Ext.pdrewN ?_ _ | refine Ext.pdrew ?_ | refine Ext.palloc ?_ _ | refine Ext.pset ?_ (by simp <;> omega) _ | refine Ext.trans ?_ (by assumption)))
  cases fk with
  | false =>
    go_wp2_with fail
    go_ret
    exact ⟨by rw [HE.out]; rfl, hE1⟩
  | true =>
    go_wp2_with fail
    refine (H2.out _ hE1).mono ?_
    rintro x w2 ⟨rfl, hx2⟩
    have hE2 : Ext w w2 := hE1.trans hx2
    by_cases h40 : dk ≤ 40
    · have h40' : ¬ (40 < dk) := by omega
      have HE' : Hid (errE (j + 1) e = 0) := by show _ = _; rw [HE.out]; simp [h40]
      go_wp2_with fail
      go_ret
      exact ⟨by rw [HE'.out]; try rfl, hE2⟩
    · have h40' : 40 < dk := by omega
      have HE' : Hid (errE (j + 1) e = 3) := by show _ = _; rw [HE.out]; simp [h40]
      go_wp2_with fail
      go_ret
      exact ⟨by rw [HE'.out]; try rfl, hE2⟩
end Go.Proofs.YtonleohlplkglaaGreatDoor
