/- Users of the program and of the reference's layer 26. -/
import Derived.Test.YtonleohlplkglaaGreatDoorRA
import Derived.Test.YtonleohlplkglaaGreatDoorQY
import Derived.Test.YtonleohlplkglaaGreatDoorQX
import Derived.Test.YtonleohlplkglaaGreatDoorKb
namespace Go.Proofs.YtonleohlplkglaaGreatDoor
open Go Go.RowKit

def usersFrom (p : Int) : Nat → List CI → List Int
  | _, [] => []
  | i, c :: l => if decide (p ∈ c.points) then (i : Int) :: usersFrom p (i + 1) l else usersFrom p (i + 1) l
def usersL (s : SkI) (p : Int) : List Int := usersFrom p 0 s.cons
theorem usersFrom_len (p : Int) : ∀ (l : List CI) (i : Nat), (usersFrom p i l).length ≤ l.length
  | [], _ => Nat.le_refl _
  | c :: l, i => by
    unfold usersFrom
    have := usersFrom_len p l (i + 1)
    split <;> simp <;> omega
theorem usersFrom_step (p : Int) {l : List CI} {i : Nat} (h : i < l.length) : usersFrom p i (l.drop i) = (if decide (p ∈ l[i].points) then [(i : Int)] else []) ++ usersFrom p (i + 1) (l.drop (i + 1)) := by
  rw [List.drop_eq_getElem_cons h]
  conv => lhs; unfold usersFrom
  split <;> rfl

theorem own_snoc {w : World} {base g cap : Nat} {out : List Int} {i : Int} (h : w.ownsRow base 3 1 (.slice (some ⟨g, 0, none⟩) (out.length + 1) cap) (out.length + 1) (intVs out ++ [.int .i64 i])) : w.ownsRow base 3 1 (.slice (some ⟨g, 0, none⟩) (out ++ [i]).length cap) (out ++ [i]).length (intVs (out ++ [i])) := by
  simpa [intVs] using h

set_option maxRecDepth 100000 in
set_option maxHeartbeats 3200000 in
theorem sketch_Users {K : Nat} {s : SkI} {p : Int} {v0 v1 v2 v3 v4 v5 : Value} {w : World} (h : SkAt K w v0 v1 v2 v3 v4 v5 s) (hc : s.cons.length ≤ 1000) :
    Calls Tryz.prog 19 #[.agg #[v0, v1, v2, v3, v4, v5], .int .i64 p] w (Ret w fun r w' => ∃ A c, r = .slice A (usersL s p).length c ∧ Ints w' (.slice A (usersL s p).length c) (usersL s p)) := by
  obtain ⟨A5, c5, rfl, hl5, hm5⟩ := h.cons.form
  have HCN := Lib.hid h.cons
  have HBX := Lib.hid (CellsAt.new w [v0, v1, v2, v3, v4, .slice A5 s.cons.length c5] 29)
  obtain ⟨w1, hw1⟩ : ∃ w1, w.alloc (.cells #[v0, v1, v2, v3, v4, .slice A5 s.cons.length c5] 29) = w1 := ⟨_, rfl⟩
  have HE1 : Hid (Ext w w1) := by rw [← hw1]; exact Ext.alloc _ _
  have HB1 : Hid (CellsAt w1 w.heap.size [v0, v1, v2, v3, v4, .slice A5 s.cons.length c5]) := by rw [← hw1]; exact HBX.out
  have HW1 := Lib.hid hw1
  clear hw1 HBX h
  obtain ⟨i0, hi, hz0, hz1, hz2⟩ := info_parts infoInt
  have hE1 := HE1.out
  obtain ⟨y0, y1, y2, y3, y4, y5⟩ := HB1.out.six
  go_enter Tryz.func19, Tryz.ntmps19
  go_upto_region 1 with fail
  rw [HW1.out]
  go_wp2_with fail
  clear y0 y1 y2 y3 y4 y5
  go_loopg [5, 11] s.cons.length (fun gk v x wr => ∃ (i : Nat) (out : List Int) (A : Option Addr) (c : Nat), v = .slice A out.length c ∧ x = .int .i64 (i : Int) ∧ i + gk = s.cons.length ∧ out.length ≤ i ∧ Hid (wr.ownsRow w1.heap.size 3 1 (.slice A out.length c) out.length (intVs out)) ∧ Hid (out ++ usersFrom p i (s.cons.drop i) = usersL s p) ∧ Hid (Ext w1 wr))
  case atStart => exact ⟨0, [], none, 0, rfl, rfl, by omega, Nat.le_refl _, World.ownsRow_nil _ _ _ _, rfl, Ext.refl _⟩
  case round =>
    obtain ⟨i, out, A, c, rfl, rfl, hk, hol, HO, HF, HE⟩ := hrel
    obtain ⟨y0, y1, y2, y3, y4, y5⟩ := (HB1.out.ext HE.out).six
    have hE0 := HE.out
    have hEr : Ext w wr := Ext.trans hE1 HE.out
    by_cases hlt : i < s.cons.length
    · obtain ⟨b, off, rfl, hb, ds, hds, hcell, pv, cv, vv, rfl, hp, hcv, hvv⟩ := HCN.out.at_ hlt
      have q0 : wr.cell? ⟨b, off + i * 5, none⟩ = _ := (hEr.cell (p := ⟨b, off + (i * 5 + 0), none⟩) hb).trans (hcell 0 _ rfl)
      have q1 : wr.cell? ⟨b, off + i * 5 + 1, none⟩ = _ := (hEr.cell (p := ⟨b, off + (i * 5 + 1), none⟩) hb).trans (hcell 1 _ rfl)
      have q2 : wr.cell? ⟨b, off + i * 5 + 2, none⟩ = _ := (hEr.cell (p := ⟨b, off + (i * 5 + 2), none⟩) hb).trans (hcell 2 _ rfl)
      have q3 : wr.cell? ⟨b, off + i * 5 + 3, none⟩ = _ := (hEr.cell (p := ⟨b, off + (i * 5 + 3), none⟩) hb).trans (hcell 3 _ rfl)
      have q4 : wr.cell? ⟨b, off + i * 5 + 4, none⟩ = _ := (hEr.cell (p := ⟨b, off + (i * 5 + 4), none⟩) hb).trans (hcell 4 _ rfl)
      have hz3 : b < wr.heap.size := Nat.lt_of_lt_of_le hb hEr.size
      have HST := Lib.hid (usersFrom_step p hlt)
      obtain ⟨P1, c1, rfl, hp1, hp1'⟩ := hp.form
      obtain ⟨P2, c2, rfl, hp2, hp2'⟩ := hcv.form
      obtain ⟨P3, c3, rfl, hp3, hp3'⟩ := hvv.form
      have HCT := Lib.hid (fun w2 (hx : Ext w w2) => slices_Contains_int (x := p) (hp.ext IntR.stable hx))
      clear hcell hds hp hcv hvv
      generalize decide (p ∈ s.cons[i].points) = bb at *
      generalize s.cons[i].points.length = l1 at *
      generalize s.cons[i].circles.length = l2 at *
      generalize s.cons[i].values.length = l3 at *
      generalize s.cons[i].kind = kd at *
      generalize s.cons[i].side = sd at *
      go_wp2_with fail
      refine (HCT.out _ (by repeat (first | exact Ext.refl _ | assumption | refine Ext.pdrewN ?_ _ | refine Ext.pdrew ?_ | refine Ext.palloc ?_ _ | refine Ext.pset ?_ (by simp <;> omega) _ | refine Ext.trans ?_ (by assumption)))).mono ?_
      rintro e w2 ⟨rfl, hx2⟩
      have hX2 : Ext wr w2 := Ext.trans (Ext.alloc _ _) hx2
      have HO2 := Lib.hid (ownsRow_ext HO.out hX2)
      have hX3 : Ext w1 w2 := hE0.trans hX2
      cases bb with
      | true =>
        have HF2 : Hid ((out ++ [(i : Int)]) ++ usersFrom p (i + 1) (s.cons.drop (i + 1)) = usersL s p) := by show _ = _; rw [← HF.out, HST.out]; simp
        go_wp2_with (at_builtin; refine wpList_append_lies _ rfl _ _ 49 rfl w1.heap.size 3 i0 (.int .i64 0) 1 8 Tryz.underlying49 hi hz0 hz1 hz2 rfl (by decide) _ out.length (intVs out) rfl (ownsRow_ext HO2.out (by repeat (first | exact Ext.refl _ | assumption | refine Ext.pdrewN ?_ _ | refine Ext.pdrew ?_ | refine Ext.palloc ?_ _ | refine Ext.pset ?_ (by simp <;> omega) _ | refine Ext.trans ?_ (by assumption)))) _ 1 1 [.int .i64 (i : Int)] rfl rfl (news_new _ [.int .i64 (i : Int)] _) (by simp [Value.oneCell']) (by omega) (by unfold maxLen; omega) (by omega) (by have := hX3.size; simp; omega) _ rfl ?_; intro g cap w4 hown4 hgrow hat hlt4)
        go_roundg (s.cons.length - (i + 1))
        case measure => omega
        case rel => exact ⟨i + 1, out ++ [(i : Int)], some ⟨g, 0, none⟩, cap, by simp, by simp, by omega, by simp; omega, own_snoc hown4, HF2.out, ext_grown hgrow (by repeat (first | exact Ext.refl _ | assumption | refine Ext.pdrewN ?_ _ | refine Ext.pdrew ?_ | refine Ext.palloc ?_ _ | refine Ext.pset ?_ (by simp <;> omega) _ | refine Ext.trans ?_ (by assumption))) (ownsRow_block HO2.out)⟩
      | false =>
        have HF2 : Hid (out ++ usersFrom p (i + 1) (s.cons.drop (i + 1)) = usersL s p) := by show _ = _; rw [← HF.out, HST.out]; simp
        go_wp2_with fail
        go_roundg (s.cons.length - (i + 1))
        case measure => omega
        case rel => exact ⟨i + 1, out, _, _, rfl, by simp, by omega, by omega, HO2.out, HF2.out, hX3⟩
    · have HU : Hid (out = usersL s p) := by show _ = _; rw [← HF.out, List.drop_eq_nil_of_le (by omega)]; simp [usersFrom]
      have HI := Lib.hid (ints_of_own HO.out (by omega))
      go_wp2_with fail
      go_ret
      have e0 : Value.slice A out.length c = .slice A (usersL s p).length c := by rw [← HU.out]
      exact ⟨_, rfl, ⟨A, c, e0, by rw [← HU.out]; exact HI.out⟩, hEr⟩
set_option maxRecDepth 100000 in
set_option maxHeartbeats 3200000 in
theorem ref26_Users {K : Nat} {s : SkI} {p : Int} {v0 v1 v2 v3 v4 v5 : Value} {w : World} (h : SkAt K w v0 v1 v2 v3 v4 v5 s) (hc : s.cons.length ≤ 1000) :
    Calls Tryz.prog 20 #[.agg #[v0, v1, v2, v3, v4, v5], .int .i64 p] w (Ret w fun r w' => ∃ A c, r = .slice A (usersL s p).length c ∧ Ints w' (.slice A (usersL s p).length c) (usersL s p)) := by
  obtain ⟨A5, c5, rfl, hl5, hm5⟩ := h.cons.form
  have HCN := Lib.hid h.cons
  have HBX := Lib.hid (CellsAt.new w [v0, v1, v2, v3, v4, .slice A5 s.cons.length c5] 29)
  obtain ⟨w1, hw1⟩ : ∃ w1, w.alloc (.cells #[v0, v1, v2, v3, v4, .slice A5 s.cons.length c5] 29) = w1 := ⟨_, rfl⟩
  have HE1 : Hid (Ext w w1) := by rw [← hw1]; exact Ext.alloc _ _
  have HB1 : Hid (CellsAt w1 w.heap.size [v0, v1, v2, v3, v4, .slice A5 s.cons.length c5]) := by rw [← hw1]; exact HBX.out
  have HW1 := Lib.hid hw1
  clear hw1 HBX h
  obtain ⟨i0, hi, hz0, hz1, hz2⟩ := info_parts infoInt
  have hE1 := HE1.out
  obtain ⟨y0, y1, y2, y3, y4, y5⟩ := HB1.out.six
  go_enter Tryz.func20, Tryz.ntmps20
  go_upto_region 1 with fail
  rw [HW1.out]
  go_wp2_with fail
  clear y0 y1 y2 y3 y4 y5
  go_loopg [5, 6, 7, 8] s.cons.length (fun gk v x _ _ wr => ∃ (i : Nat) (out : List Int) (A : Option Addr) (c : Nat), v = .slice A out.length c ∧ x = .int .i64 (i : Int) ∧ i + gk = s.cons.length ∧ out.length ≤ i ∧ Hid (wr.ownsRow w1.heap.size 3 1 (.slice A out.length c) out.length (intVs out)) ∧ Hid (out ++ usersFrom p i (s.cons.drop i) = usersL s p) ∧ Hid (Ext w1 wr))
  case atStart => exact ⟨0, [], none, 0, rfl, rfl, by omega, Nat.le_refl _, World.ownsRow_nil _ _ _ _, rfl, Ext.refl _⟩
  case round =>
    obtain ⟨i, out, A, c, rfl, rfl, hk, hol, HO, HF, HE⟩ := hrel
    obtain ⟨y0, y1, y2, y3, y4, y5⟩ := (HB1.out.ext HE.out).six
    have hE0 := HE.out
    have hEr : Ext w wr := Ext.trans hE1 HE.out
    by_cases hlt : i < s.cons.length
    · obtain ⟨b, off, rfl, hb, ds, hds, hcell, pv, cv, vv, rfl, hp, hcv, hvv⟩ := HCN.out.at_ hlt
      have hz3 : b < wr.heap.size := Nat.lt_of_lt_of_le hb hEr.size
      have HST := Lib.hid (usersFrom_step p hlt)
      obtain ⟨P1, c1, rfl, hp1, hp1'⟩ := hp.form
      have q1 : wr.cell? ⟨b, off + i * 5 + 1, none⟩ = _ := (hEr.cell (p := ⟨b, off + (i * 5 + 1), none⟩) hb).trans (hcell 1 _ rfl)
      have HPC := Lib.hid (fun k (hk : k < s.cons[i].points.length) => ints_cells (hp.ext IntR.stable hEr) hk)
      have i1 : (i : Int) < (s.cons.length : Int) := by omega
      have i0' : (0 : Int) ≤ (i : Int) := by omega
      clear hcell hds hp hcv hvv
      generalize s.cons[i].points = pts at *
      go_wp2_with fail
      go_loopg [7, 8] pts.length (fun gk2 f x wr2 => ∃ (k : Nat) (fd : Bool), f = .bool fd ∧ x = .int .i64 (k : Int) ∧ k + gk2 = pts.length ∧ Hid ((fd || decide (p ∈ pts.drop k)) = decide (p ∈ pts)) ∧ wr2 = wr)
      case atStart => exact ⟨0, false, rfl, rfl, by omega, rfl, rfl⟩
      case round =>
        obtain ⟨k, fd, rfl, rfl, hk2, HM, hwr⟩ := hrel
        have hwr' := hwr.symm
        clear hwr
        subst hwr'
        by_cases hlt2 : k < pts.length
        · obtain ⟨b', off', rfl, hb', hcell⟩ := HPC.out _ hlt2
          have q := hcell k hlt2
          have HD := Lib.hid (mem_drop_step (x := p) hlt2)
          have k1 : (k : Int) < (pts.length : Int) := by omega
          have k0 : (0 : Int) ≤ (k : Int) := by omega
          clear hcell HPC
          generalize pts[k] = y at *
          cases fd with
          | true =>
            have HR : Hid ((true || decide (p ∈ pts.drop (k + 1))) = decide (p ∈ pts)) := by show _ = _; rw [← HM.out]; simp
            go_wp2_with fail
            go_roundg (pts.length - (k + 1))
            case measure => omega
            case rel => exact ⟨k + 1, true, rfl, by simp, by omega, HR, rfl⟩
          | false =>
            by_cases he : p = y
            · have he' : (y == p) = true := by simp [he]
              have HR : Hid ((true || decide (p ∈ pts.drop (k + 1))) = decide (p ∈ pts)) := by show _ = _; rw [← HM.out, HD.out, decide_eq_true he]; simp
              clear he
              go_wp2_with fail
              go_roundg (pts.length - (k + 1))
              case measure => omega
              case rel => exact ⟨k + 1, true, rfl, by simp, by omega, HR, rfl⟩
            · have he' : (y == p) = false := by simpa using fun e => he e.symm
              have HR : Hid ((false || decide (p ∈ pts.drop (k + 1))) = decide (p ∈ pts)) := by show _ = _; rw [← HM.out, HD.out, decide_eq_false he]; simp
              clear he
              go_wp2_with fail
              go_roundg (pts.length - (k + 1))
              case measure => omega
              case rel => exact ⟨k + 1, false, rfl, by simp, by omega, HR, rfl⟩
        · have HMM : Hid (fd = decide (p ∈ pts)) := by show _ = _; rw [← HM.out, List.drop_eq_nil_of_le (by omega)]; simp
          clear HM
          cases fd with
          | true =>
            have HF2 : Hid ((out ++ [(i : Int)]) ++ usersFrom p (i + 1) (s.cons.drop (i + 1)) = usersL s p) := by show _ = _; rw [← HF.out, HST.out, ← HMM.out]; simp
            go_wp2_with (at_builtin; refine wpList_append_lies _ rfl _ _ 49 rfl w1.heap.size 3 i0 (.int .i64 0) 1 8 Tryz.underlying49 hi hz0 hz1 hz2 rfl (by decide) _ out.length (intVs out) rfl (ownsRow_ext HO.out (by repeat (first | exact Ext.refl _ | assumption | refine Ext.pdrewN ?_ _ | refine Ext.pdrew ?_ | refine Ext.palloc ?_ _ | refine Ext.pset ?_ (by simp <;> omega) _ | refine Ext.trans ?_ (by assumption)))) _ 1 1 [.int .i64 (i : Int)] rfl rfl (news_new _ [.int .i64 (i : Int)] _) (by simp [Value.oneCell']) (by omega) (by unfold maxLen; omega) (by omega) (by have := hE0.size; simp; omega) _ rfl ?_; intro g cap w4 hown4 hgrow hat hlt4)
            go_roundg (s.cons.length - (i + 1))
            case measure => omega
            case rel => exact ⟨i + 1, out ++ [(i : Int)], some ⟨g, 0, none⟩, cap, by simp, by simp, by omega, by simp; omega, own_snoc hown4, HF2.out, ext_grown hgrow (by repeat (first | exact Ext.refl _ | assumption | refine Ext.pdrewN ?_ _ | refine Ext.pdrew ?_ | refine Ext.palloc ?_ _ | refine Ext.pset ?_ (by simp <;> omega) _ | refine Ext.trans ?_ (by assumption))) (ownsRow_block HO.out)⟩
          | false =>
            have HF2 : Hid (out ++ usersFrom p (i + 1) (s.cons.drop (i + 1)) = usersL s p) := by show _ = _; rw [← HF.out, HST.out, ← HMM.out]; simp
            go_wp2_with fail
            go_roundg (s.cons.length - (i + 1))
            case measure => omega
            case rel => exact ⟨i + 1, out, _, _, rfl, by simp, by omega, by omega, HO.out, HF2.out, hE0⟩
    · have HU : Hid (out = usersL s p) := by show _ = _; rw [← HF.out, List.drop_eq_nil_of_le (by omega)]; simp [usersFrom]
      have HI := Lib.hid (ints_of_own HO.out (by omega))
      go_wp2_with fail
      go_ret
      have e0 : Value.slice A out.length c = .slice A (usersL s p).length c := by rw [← HU.out]
      exact ⟨_, rfl, ⟨A, c, e0, by rw [← HU.out]; exact HI.out⟩, hEr⟩
end Go.Proofs.YtonleohlplkglaaGreatDoor

/- The statement SketchUsers: its walk. -/
namespace Go.Proofs.YtonleohlplkglaaGreatDoor
open Go Go.RowKit

theorem headS_le {s : SkI} (h : headS s = true) : s.points.length ≤ 10 ∧ s.circles.length ≤ 10 ∧ s.segs.length ≤ 10 ∧ s.arcs.length ≤ 10 ∧ s.chains.length ≤ 10 ∧ s.cons.length ≤ 20 := by
  unfold headS at h
  simp only [Bool.and_eq_true, decide_eq_true_eq] at h
  obtain ⟨⟨⟨⟨⟨h1, h2⟩, h3⟩, h4⟩, h5⟩, h6⟩ := h
  exact ⟨h1, h2, h3, h4, h5, h6⟩
theorem GoodS.cons_le {s : SkI} (h : GoodS s) : s.cons.length ≤ 1000 := by
  have := headS_le h.few
  omega

set_option maxRecDepth 100000 in
set_option maxHeartbeats 1600000 in
theorem law_Users {K : Nat} {s : SkI} {i : Int} {v0 v1 v2 v3 v4 v5 : Value} {w : World} (h : SkAt K w v0 v1 v2 v3 v4 v5 s) :
    Calls Tryz.prog 6 #[.agg #[v0, v1, v2, v3, v4, v5], .int .i64 i] w fun e w' => e = .returned (.bool true) ∧ Ext w w' := by
  have HBX := Lib.hid (CellsAt.new w [v0, v1, v2, v3, v4, v5] 29)
  have HA := Lib.hid law_awake
  have HV := Lib.hid (fun w1 (hx : Ext w w1) => law_valid (h.ext hx))
  have HG := Lib.hid (vld_good (K := K) (s := s))
  have H1 := Lib.hid (fun (hg : GoodS s) w1 (hx : Ext w w1) => sketch_Users (p := i) (h.ext hx) hg.cons_le)
  have H2 := Lib.hid (fun (hg : GoodS s) w1 (hx : Ext w w1) => ref26_Users (p := i) (h.ext hx) hg.cons_le)
  clear h
  generalize vld K s = vd at *
  generalize usersL s i = us at *
  obtain ⟨y0, y1, y2, y3, y4, y5⟩ := HBX.out.six
  go_enter Tryz.func6, Tryz.ntmps6
  go_wp2_with fail
  refine (HA.out _).mono ?_
  rintro e w1 ⟨rfl, hx1⟩
  have hE1 : Ext w w1 := Ext.trans (Ext.alloc _ _) hx1
  clear y0 y1 y2 y3 y4 y5
  obtain ⟨y0, y1, y2, y3, y4, y5⟩ := (HBX.out.ext hx1).six
  have hlt := (HBX.out.ext hx1).1
  go_wp2_with fail
  refine (HV.out _ hE1).mono ?_
  rintro e w2 ⟨rfl, hx2⟩
  have hB2 := Ext.trans hx1 hx2
  have hE2 := Ext.trans hE1 hx2
  clear y0 y1 y2 y3 y4 y5 hlt
  cases vd with
  | false =>
    go_wp2_with fail
    refine (HA.out _).mono ?_
    rintro e w3 ⟨rfl, hx3⟩
    go_wp2_with fail
    go_ret
    exact ⟨rfl, Ext.trans hE2 hx3⟩
  | true =>
    have HG1 := Lib.hid (HG.out rfl)
    obtain ⟨y0, y1, y2, y3, y4, y5⟩ := (HBX.out.ext hB2).six
    have hlt := (HBX.out.ext hB2).1
    go_upto_region 3 with fail
    go_region_with (first
      | (go_at_call 18; refine (law_ints (hi3.ext IntR.stable (by repeat (first | exact Ext.refl _ | assumption | refine Ext.pdrewN ?_ _ | refine Ext.pdrew ?_ | refine Ext.palloc ?_ _ | refine Ext.pset ?_ (by simp <;> omega) _ | refine Ext.trans ?_ (by assumption)))) (hi4.ext IntR.stable (by repeat (first | exact Ext.refl _ | assumption | refine Ext.pdrewN ?_ _ | refine Ext.pdrew ?_ | refine Ext.palloc ?_ _ | refine Ext.pset ?_ (by simp <;> omega) _ | refine Ext.trans ?_ (by assumption))))).mono ?_; rintro e w5 ⟨rfl, hx5⟩)
      | (go_at_call 19; refine (H1.out HG1.out _ (by repeat (first | exact Ext.refl _ | assumption | refine Ext.pdrewN ?_ _ | refine Ext.pdrew ?_ | refine Ext.palloc ?_ _ | refine Ext.pset ?_ (by simp <;> omega) _ | refine Ext.trans ?_ (by assumption)))).mono ?_; rintro e w3 ⟨r3, rfl, ⟨A3, c3, rfl, hi3⟩, hx3⟩; obtain ⟨x0, x1, x2, x3, x4, x5⟩ := (HBX.out.ext (w' := w3) (by repeat (first | exact Ext.refl _ | assumption | refine Ext.pdrewN ?_ _ | refine Ext.pdrew ?_ | refine Ext.palloc ?_ _ | refine Ext.pset ?_ (by simp <;> omega) _ | refine Ext.trans ?_ (by assumption)))).six)
      | (go_at_call 20; refine (H2.out HG1.out _ (by repeat (first | exact Ext.refl _ | assumption | refine Ext.pdrewN ?_ _ | refine Ext.pdrew ?_ | refine Ext.palloc ?_ _ | refine Ext.pset ?_ (by simp <;> omega) _ | refine Ext.trans ?_ (by assumption)))).mono ?_; rintro e w4 ⟨r4, rfl, ⟨A4, c4, rfl, hi4⟩, hx4⟩; obtain ⟨x0, x1, x2, x3, x4, x5⟩ := (HBX.out.ext (w' := w4) (by repeat (first | exact Ext.refl _ | assumption | refine Ext.pdrewN ?_ _ | refine Ext.pdrew ?_ | refine Ext.palloc ?_ _ | refine Ext.pset ?_ (by simp <;> omega) _ | refine Ext.trans ?_ (by assumption)))).six))
    all_goals
      go_wp2_with fail
      go_ret
      exact ⟨rfl, (by repeat (first | exact Ext.refl _ | assumption | refine Ext.pdrewN ?_ _ | refine Ext.pdrew ?_ | refine Ext.palloc ?_ _ | refine Ext.pset ?_ (by simp <;> omega) _ | refine Ext.trans ?_ (by assumption)))⟩
end Go.Proofs.YtonleohlplkglaaGreatDoor

/- Users returns the constraints of every point: for every sketch and every number of a point the statement SketchUsers returns true, and its arguments read as before. Conditions: the five listed package-level variables hold what the program's text lays (the card's tie). -/
namespace Go.Proofs.YtonleohlplkglaaGreatDoor
open Go Go.RowKit

theorem sk_args {H : Type} {enc : TypeId × Value → H} {W : World} {fuel : Nat} {cs : Array Value} {d : DataW H} {p : List MemPlace} (h : DataW.trod enc Tryz.prog W 0 (fun _ => true) true fuel 29 cs.toList = some (d, p)) (hw : (d.weights Tryz.prog 29).all (· ≤ reachBytes) = true) :
    ∃ v0 v1 v2 v3 v4 v5 s, cs = #[v0, v1, v2, v3, v4, v5] ∧ SkAt fuel W v0 v1 v2 v3 v4 v5 s := by
  obtain ⟨u0, u1, u2, u3, u4, u5, s, hcells, hSk⟩ := sk_read (enc := enc) (x := (d, p)) h hw
  exact ⟨u0, u1, u2, u3, u4, u5, s, Array.ext' hcells, hSk⟩

theorem users_law : LawSI 6 := by
  intro H enc W fuel cs k d p h hw _
  obtain ⟨v0, v1, v2, v3, v4, v5, s, rfl, hs⟩ := sk_args h hw
  exact law_Users hs

theorem sketchUsers_proved : Rows.SketchUsersCardSaid := sketchUsers_card users_law
#print axioms sketchUsers_proved
end Go.Proofs.YtonleohlplkglaaGreatDoor
