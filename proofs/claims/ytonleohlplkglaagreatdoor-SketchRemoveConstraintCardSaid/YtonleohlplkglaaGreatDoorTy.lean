/- Contracts: Formed, Depth, Valid of the reference's layer 22. -/
import Derived.Test.YtonleohlplkglaaGreatDoorTx
namespace Go.Proofs.YtonleohlplkglaaGreatDoor
open Go Go.RowKit

/-- Short numbers and names, to some depth. -/
def smallE : Nat → EI → Prop
  | 0, _ => False
  | k + 1, e => e.value.num.mag.length ≤ 1000 ∧ e.value.den.mag.length ≤ 1000 ∧ e.name.size ≤ 1000000 ∧ e.args.length ≤ 1000 ∧ ∀ a ∈ e.args, smallE k a
def formed : Nat → EI → Bool
  | 0, _ => false
  | k + 1, e => shapeOf e.op e.value e.name e.args.length && e.args.all (formed k)

set_option maxRecDepth 100000 in
set_option maxHeartbeats 1600000 in
theorem ref22_Formed : ∀ (k : Nat) {e : EI} {cs : List Value} {w : World} (_ : ExprR k w cs e) (_ : smallE k e),
    Calls Tryz.prog 150 #[.agg cs.toArray] w fun x w' => x = .returned (.bool (formed k e)) ∧ Ext w w'
  | 0, _, _, _, h, _ => h.elim
  | k + 1, e, cs, w, h, hs => by
    obtain ⟨u, v, sl, rfl, hu, hv, hsl⟩ := h
    obtain ⟨s1, s2, s3, hm, s4⟩ := hs
    obtain ⟨A, c, rfl, hl, hm0, hel⟩ := hsl
    clear hm0
    have HSH := Lib.hid (fun w1 (hx : Ext w w1) => ref22_shape (op := e.op) (q := e.value) (s := e.name) (A := A) (n := e.args.length) (c := c) (hu.ext hx) (hv.ext hx) s1 s2 s3)
    have HF : Hid (formed (k + 1) e = (shapeOf e.op e.value e.name e.args.length && e.args.all (formed k))) := rfl
    have HEL := Lib.hid hel
    have HS4 := Lib.hid s4
    obtain ⟨A1, c1, rfl, hc1, hc1'⟩ := hu.form
    obtain ⟨A2, c2, rfl, hc2, hc2'⟩ := hv.form
    clear hu hv hel s1 s2 s3 s4
    have HBX := Lib.hid (CellsAt.new w [.int .i64 e.op, .bool e.value.num.neg, .slice A1 e.value.num.mag.length c1, .bool e.value.den.neg, .slice A2 e.value.den.mag.length c2, .string e.name, .slice A e.args.length c] 69)
    generalize shapeOf e.op e.value e.name e.args.length = sh at *
    generalize e.value.num.mag.length = l1 at *
    generalize e.value.den.mag.length = l2 at *
    generalize e.value.num.neg = b1 at *
    generalize e.value.den.neg = b2 at *
    generalize e.op = op at *
    generalize e.name = nm at *
    go_enter Tryz.func150, Tryz.ntmps150
    go_wp2_with fail
    refine (HSH.out _ (by repeat (first | exact Ext.refl _ | assumption | refine Ext.pdrewN ?_ _ | refine Ext.pdrew ?_ | refine Ext.palloc ?_ _ | refine Ext.pset ?_ (by simp <;> omega) _ | refine Ext.trans ?_ (by assumption)))).mono ?_
    rintro x w1 ⟨rfl, hx1⟩
    have HBX1 := Lib.hid (HBX.out.ext hx1)
    have hE1 : Ext w w1 := (by repeat (first | exact Ext.refl _ | assumption | refine Ext.pdrewN ?_ _ | refine Ext.pdrew ?_ | refine Ext.palloc ?_ _ | refine Ext.pset ?_ (by simp <;> omega) _ | refine Ext.trans ?_ (by assumption)))
    clear HSH HBX hx1
    cases sh with
    | false =>
      go_wp2_with fail
      refine bodyPost_ret ?_ rfl ⟨by rw [HF.out]; try rfl, hE1⟩
      simp [results, Tryz.results150, go_sem]
    | true =>
      go_wp2_with fail
      go_loopg [3] e.args.length (fun gk x wr => ∃ i : Nat, x = .int .i64 (i : Int) ∧ i + gk = e.args.length ∧ Hid ((e.args.drop i).all (formed k) = e.args.all (formed k)) ∧ Hid (Ext w1 wr))
      case atStart => exact ⟨0, rfl, by omega, rfl, Ext.refl _⟩
      case round =>
        obtain ⟨i, rfl, hi, HA, HE⟩ := hrel
        obtain ⟨y0, y1, y2, y3, y4, y5, y6⟩ := (HBX1.out.ext HE.out).seven
        by_cases hlt : i < e.args.length
        · obtain ⟨b, off, rfl, hb, hel⟩ := HEL.out (by intro e0; rw [e0] at hlt; simp at hlt)
          have hx0 : e.args[i]? = some e.args[i] := List.getElem?_eq_getElem hlt
          obtain ⟨ds, hds, hcell, hR⟩ := hel i _ hx0
          have hsm := HS4.out e.args[i] (List.getElem_mem hlt)
          match ds, hds with
          | [d0, d1, d2, d3, d4, d5, d6], _ =>
            have hEr := hE1.trans HE.out
            have q0 : wr.cell? ⟨b, off + i * 7, none⟩ = some d0 := (hEr.cell (p := ⟨b, off + (i * 7 + 0), none⟩) hb).trans (hcell 0 _ rfl)
            have q1 : wr.cell? ⟨b, off + i * 7 + 1, none⟩ = some d1 := (hEr.cell (p := ⟨b, off + (i * 7 + 1), none⟩) hb).trans (hcell 1 _ rfl)
            have q2 : wr.cell? ⟨b, off + i * 7 + 2, none⟩ = some d2 := (hEr.cell (p := ⟨b, off + (i * 7 + 2), none⟩) hb).trans (hcell 2 _ rfl)
            have q3 : wr.cell? ⟨b, off + i * 7 + 3, none⟩ = some d3 := (hEr.cell (p := ⟨b, off + (i * 7 + 3), none⟩) hb).trans (hcell 3 _ rfl)
            have q4 : wr.cell? ⟨b, off + i * 7 + 4, none⟩ = some d4 := (hEr.cell (p := ⟨b, off + (i * 7 + 4), none⟩) hb).trans (hcell 4 _ rfl)
            have q5 : wr.cell? ⟨b, off + i * 7 + 5, none⟩ = some d5 := (hEr.cell (p := ⟨b, off + (i * 7 + 5), none⟩) hb).trans (hcell 5 _ rfl)
            have q6 : wr.cell? ⟨b, off + i * 7 + 6, none⟩ = some d6 := (hEr.cell (p := ⟨b, off + (i * 7 + 6), none⟩) hb).trans (hcell 6 _ rfl)
            have HC := Lib.hid (ref22_Formed k (ExprR.stable k _ _ _ _ hEr hR) hsm)
            have HDR : Hid ((e.args.drop i).all (formed k) = (formed k e.args[i] && (e.args.drop (i + 1)).all (formed k))) := by show _ = _; rw [List.drop_eq_getElem_cons hlt, List.all_cons]
            clear hel hcell hR
            generalize formed k e.args[i] = fk at *
            go_wp2_with fail
            refine HC.out.mono ?_
            rintro x w2 ⟨rfl, hx2⟩
            cases fk with
            | true =>
              go_wp2_with fail
              go_roundg (gk - 1)
              case measure => omega
              case rel => exact ⟨i + 1, by simp, by omega, (HDR.out.symm.trans HA.out), HE.out.trans hx2⟩
            | false =>
              go_wp2_with fail
              refine bodyPost_ret (v := .bool false) ?_ rfl ⟨?_, hEr.trans hx2⟩
              · simp [results, Tryz.results150, go_sem]
              · rw [HF.out, ← HA.out, HDR.out]; rfl
        · have HT : Hid ((e.args.drop i).all (formed k) = true) := by show _ = _; rw [List.drop_eq_nil_of_le (by omega)]; rfl
          have hEr := hE1.trans HE.out
          go_wp2_with fail
          refine bodyPost_ret (v := .bool true) ?_ rfl ⟨?_, hEr⟩
          · simp [results, Tryz.results150, go_sem]
          · rw [HF.out, ← HA.out, HT.out]; rfl
end Go.Proofs.YtonleohlplkglaaGreatDoor
