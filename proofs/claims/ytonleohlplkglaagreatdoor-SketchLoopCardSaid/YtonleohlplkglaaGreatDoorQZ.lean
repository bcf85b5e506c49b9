/- Loop of the reference's layer 26 and of the program. -/
import Derived.Test.YtonleohlplkglaaGreatDoorQJ
import Derived.Deep.RegionWith
import Derived.Test.YtonleohlplkglaaGreatDoorQY
import Derived.Test.YtonleohlplkglaaGreatDoorQX
import Derived.Test.YtonleohlplkglaaGreatDoorKa
namespace Go.Proofs.YtonleohlplkglaaGreatDoor
open Go Go.RowKit

theorem chainFrom_ok {s : SkI} : ∀ (l : List PcI) (o : Option Int), chainFrom s o l = true → ∀ p ∈ l, okPc s p = true
  | [], _, _, p, hp => by cases hp
  | q :: l, o, h, p, hp => by
    unfold chainFrom at h
    rw [Bool.and_eq_true, Bool.and_eq_true] at h
    rcases List.mem_cons.1 hp with rfl | hp
    · exact h.1.1
    · exact chainFrom_ok l _ h.2 p hp
theorem chainL_ok {s : SkI} {c : List PcI} (h : chainL s c = true) : 0 < c.length ∧ ∀ p ∈ c, okPc s p = true := by
  unfold chainL at h
  rw [Bool.and_eq_true] at h
  exact ⟨of_decide_eq_true h.2, chainFrom_ok c none h.1⟩
/-- Whether a chain is closed. -/
def closedL (s : SkI) (c : List PcI) : Bool := match c.head?, c.getLast? with | some a, some b => decide ((endsOf s a).1 = (endsOf s b).2) | _, _ => false
def loopL (s : SkI) (i : Int) : Bool := if hasL s.chains.length i then closedL s (s.chains.getD i.toNat []) else false
theorem closedL_at {s : SkI} {c : List PcI} {n : Nat} (h : n < c.length) (hn : c.length = n + 1) : closedL s c = decide ((endsOf s (c[0]'(by omega))).1 = (endsOf s c[n]).2) := by
  unfold closedL
  rw [List.head?_eq_getElem?, List.getElem?_eq_getElem (by omega), List.getLast?_eq_getElem?, show c.length - 1 = n by omega, List.getElem?_eq_getElem h]

set_option maxRecDepth 100000 in
set_option maxHeartbeats 1600000 in
theorem ref26_Loop {K : Nat} {s : SkI} {i : Int} {v0 v1 v2 v3 v4 v5 : Value} {w : World} (h : SkAt K w v0 v1 v2 v3 v4 v5 s) (hv : ∀ c ∈ s.chains, chainL s c = true) :
    Calls Tryz.prog 22 #[.agg #[v0, v1, v2, v3, v4, v5], .int .i64 i] w fun e w' => e = .returned (.bool (loopL s i)) ∧ Ext w w' := by
  obtain ⟨A4, c4, rfl, hl4, hm4⟩ := h.chains.form
  have HBX := Lib.hid (CellsAt.new w [v0, v1, v2, v3, .slice A4 s.chains.length c4, v5] 29)
  have HEN := Lib.hid (fun w1 (hx : Ext w w1) (p : PcI) (hp : okPc s p = true) => ref26_Ends (p := p) (h.ext hx) hp)
  have HH := Lib.hid (fun w1 => ref26_has (s.chains.length : Int) i w1)
  have HLP : Hid (loopL s i = if hasL s.chains.length i then closedL s (s.chains.getD i.toNat []) else false) := rfl
  by_cases hh : hasL s.chains.length i = true
  · obtain ⟨k, rfl⟩ : ∃ k : Nat, i = (k : Int) := ⟨i.toNat, by unfold hasL at hh; simp at hh; omega⟩
    have hk : k < s.chains.length := by unfold hasL at hh; simp at hh; omega
    rw [hh] at HLP HH
    obtain ⟨hne, hok⟩ := chainL_ok (hv _ (List.getElem_mem hk))
    have HLQ : Hid (loopL s (k : Int) = closedL s s.chains[k]) := by
      show _ = _
      rw [HLP.out, if_pos rfl, List.getD_eq_getElem?_getD, show ((k : Int)).toNat = k by omega, List.getElem?_eq_getElem hk]
      rfl
    obtain ⟨b, off, rfl, hb, ds, hds, hcell, v, rfl, hR⟩ := h.chains.at_ hk
    obtain ⟨C, cc, rfl, hcl, hcm⟩ := hR.form
    have q0 : w.cell? ⟨b, off + k, none⟩ = some (.slice C s.chains[k].length cc) := by
      have := hcell 0 _ rfl
      rwa [Nat.mul_one, Nat.add_zero] at this
    clear HLP hcell hds h hh hv
    generalize s.chains[k] = c at *
    obtain ⟨n, hn⟩ : ∃ n, c.length = n + 1 := ⟨c.length - 1, by omega⟩
    have hn1 : n < c.length := by omega
    have h00 : 0 < c.length := by omega
    obtain ⟨b', off', rfl, hb', ds', hds', hcell', hR'⟩ := hR.at_ h00
    obtain ⟨b2, off2, hbo, hb2, ds2, hds2, hcell2, hR2⟩ := hR.at_ hn1
    obtain ⟨rfl, rfl⟩ : b' = b2 ∧ off' = off2 := by injection hbo with hbo; injection hbo with h1 h2; exact ⟨h1, h2⟩
    rw [hR'] at hcell'
    rw [hR2] at hcell2
    have a0 : w.cell? ⟨b', off', none⟩ = some (.bool c[0].arc) := hcell' 0 _ rfl
    have a1 : w.cell? ⟨b', off' + 1, none⟩ = some (.int .i64 c[0].index) := by have := hcell' 1 _ rfl; simpa using this
    have a2 : w.cell? ⟨b', off' + 2, none⟩ = some (.bool c[0].back) := by have := hcell' 2 _ rfl; simpa using this
    have z0 : w.cell? ⟨b', off' + n * 3, none⟩ = some (.bool c[n].arc) := hcell2 0 _ rfl
    have z1 : w.cell? ⟨b', off' + n * 3 + 1, none⟩ = some (.int .i64 c[n].index) := hcell2 1 _ rfl
    have z2 : w.cell? ⟨b', off' + n * 3 + 2, none⟩ = some (.bool c[n].back) := hcell2 2 _ rfl
    have HE0 := Lib.hid (fun w1 (hx : Ext w w1) => HEN.out w1 hx (c[0]'h00) (hok _ (List.getElem_mem _)))
    have HE1 := Lib.hid (fun w1 (hx : Ext w w1) => HEN.out w1 hx (c[n]'hn1) (hok _ (List.getElem_mem _)))
    have HCL := Lib.hid (closedL_at (s := s) hn1 hn)
    rw [hn] at hcl hcm q0
    clear hcell' hcell2 hR' hR2 hds' hds2 hbo hR hok HEN hne
    generalize endsOf s (c[0]'h00) = e0 at *
    generalize endsOf s (c[n]'hn1) = e1 at *
    obtain ⟨e00, e01⟩ := e0
    obtain ⟨e10, e11⟩ := e1
    generalize (c[0]'h00).arc = p0 at *
    generalize (c[0]'h00).index = p1 at *
    generalize (c[0]'h00).back = p2 at *
    generalize (c[n]'hn1).arc = r0 at *
    generalize (c[n]'hn1).index = r1 at *
    generalize (c[n]'hn1).back = r2 at *
    rw [HLQ.out]
    generalize closedL s c = cl at *
    clear hn1 h00 hn HLQ
    obtain ⟨y0, y1, y2, y3, y4, y5⟩ := HBX.out.six
    have in0 : (0 : Int) ≤ (k : Int) := by omega
    have in1 : (k : Int) < (s.chains.length : Int) := by omega
    go_enter Tryz.func22, Tryz.ntmps22
    go_wp2_with fail
    refine (HH.out _).mono ?_
    rintro e wx ⟨rfl, rfl⟩
    go_upto_region 4 with fail
    go_cut [6] (fun x wx => x = .int .i64 e00 ∧ Hid (Ext (w.alloc (.cells #[v0, v1, v2, v3, .slice (some ⟨b, off, none⟩) s.chains.length c4, v5] 29)) wx))
    case first =>
      go_region_with (go_at_call 66; refine (HE0.out _ (by repeat (first | exact Ext.refl _ | assumption | refine Ext.pdrewN ?_ _ | refine Ext.pdrew ?_ | refine Ext.palloc ?_ _ | refine Ext.pset ?_ (by simp <;> omega) _ | refine Ext.trans ?_ (by assumption)))).mono ?_; rintro e w2 ⟨rfl, hx2⟩)
      all_goals
        go_wp2_with fail
        go_meet
        exact ⟨rfl, (by repeat (first | exact Ext.refl _ | assumption | refine Ext.pdrewN ?_ _ | refine Ext.pdrew ?_ | refine Ext.palloc ?_ _ | refine Ext.pset ?_ (by simp <;> omega) _ | refine Ext.trans ?_ (by assumption)))⟩
    case rest =>
      obtain ⟨rfl, HX⟩ := hcut
      have hEc : Ext w wc := Ext.trans (Ext.alloc _ _) HX.out
      clear y0 y1 y2 y3 y4 y5
      obtain ⟨y0, y1, y2, y3, y4, y5⟩ := (HBX.out.ext HX.out).six
      have x0 := (hEc.cell (p := ⟨b', off' + n * 3, none⟩) hb').trans z0
      have x1 := (hEc.cell (p := ⟨b', off' + n * 3 + 1, none⟩) hb').trans z1
      have x2 := (hEc.cell (p := ⟨b', off' + n * 3 + 2, none⟩) hb').trans z2
      clear a0 a1 a2 z0 z1 z2 q0 HE0 HH
      have ij : (n : Int) + 1 - 1 = (n : Int) := by omega
      have wj0 : IntKind.i64.wrap (n : Int) = (n : Int) := IntWalk.i64_in _ (by omega)
      have wj1 : IntKind.i64.wrap ((n : Int) + 1 - 1) = (n : Int) := by rw [ij]; exact wj0
      have wj2 : IntKind.i64.wrap (((n + 1 : Nat) : Int) - 1) = (n : Int) := by rw [show ((n + 1 : Nat) : Int) - 1 = (n : Int) by omega]; exact wj0
      go_upto_region 5 with fail
      go_cut [9] (fun x wx => x = .int .i64 e11 ∧ Hid (Ext wc wx))
      case first =>
        go_region_with (go_at_call 66; refine (HE1.out _ (by repeat (first | exact Ext.refl _ | assumption | refine Ext.pdrewN ?_ _ | refine Ext.pdrew ?_ | refine Ext.palloc ?_ _ | refine Ext.pset ?_ (by simp <;> omega) _ | refine Ext.trans ?_ (by assumption)))).mono ?_; rintro e w2 ⟨rfl, hx2⟩)
        all_goals
          go_wp2_with fail
          go_meet
          exact ⟨rfl, (by repeat (first | exact Ext.refl _ | assumption | refine Ext.pdrewN ?_ _ | refine Ext.pdrew ?_ | refine Ext.palloc ?_ _ | refine Ext.pset ?_ (by simp <;> omega) _ | refine Ext.trans ?_ (by assumption)))⟩
      case rest =>
        rename_i wd _
        obtain ⟨rfl, HY⟩ := hcut
        go_wp2_with fail
        go_ret
        exact ⟨by rw [HCL.out]; rfl, hEc.trans HY.out⟩
  · have hh' : hasL s.chains.length i = false := by simpa using hh
    rw [hh'] at HLP HH
    rw [HLP.out]
    clear hh hh' HLP h hv
    obtain ⟨y0, y1, y2, y3, y4, y5⟩ := HBX.out.six
    go_enter Tryz.func22, Tryz.ntmps22
    go_wp2_with fail
    refine (HH.out _).mono ?_
    rintro e wx ⟨rfl, rfl⟩
    go_wp2_with fail
    go_ret
    exact ⟨rfl, (by repeat (first | exact Ext.refl _ | assumption | refine Ext.pdrewN ?_ _ | refine Ext.pdrew ?_ | refine Ext.palloc ?_ _ | refine Ext.pset ?_ (by simp <;> omega) _ | refine Ext.trans ?_ (by assumption)))⟩

set_option maxRecDepth 100000 in
set_option maxHeartbeats 1600000 in
theorem sketch_Loop {K : Nat} {s : SkI} {i : Int} {v0 v1 v2 v3 v4 v5 : Value} {w : World} (h : SkAt K w v0 v1 v2 v3 v4 v5 s) (hv : ∀ c ∈ s.chains, chainL s c = true) :
    Calls Tryz.prog 21 #[.agg #[v0, v1, v2, v3, v4, v5], .int .i64 i] w fun e w' => e = .returned (.bool (loopL s i)) ∧ Ext w w' := by
  obtain ⟨A4, c4, rfl, hl4, hm4⟩ := h.chains.form
  have HBX := Lib.hid (CellsAt.new w [v0, v1, v2, v3, .slice A4 s.chains.length c4, v5] 29)
  have HEN := Lib.hid (fun w1 (hx : Ext w w1) (p : PcI) (hp : okPc s p = true) => sketch_ends (p := p) (h.ext hx) hp)
  have HH := Lib.hid (fun w1 => sketch_has (s.chains.length : Int) i w1)
  have HLP : Hid (loopL s i = if hasL s.chains.length i then closedL s (s.chains.getD i.toNat []) else false) := rfl
  by_cases hh : hasL s.chains.length i = true
  · obtain ⟨k, rfl⟩ : ∃ k : Nat, i = (k : Int) := ⟨i.toNat, by unfold hasL at hh; simp at hh; omega⟩
    have hk : k < s.chains.length := by unfold hasL at hh; simp at hh; omega
    rw [hh] at HLP HH
    obtain ⟨hne, hok⟩ := chainL_ok (hv _ (List.getElem_mem hk))
    have HLQ : Hid (loopL s (k : Int) = closedL s s.chains[k]) := by
      show _ = _
      rw [HLP.out, if_pos rfl, List.getD_eq_getElem?_getD, show ((k : Int)).toNat = k by omega, List.getElem?_eq_getElem hk]
      rfl
    obtain ⟨b, off, rfl, hb, ds, hds, hcell, v, rfl, hR⟩ := h.chains.at_ hk
    obtain ⟨C, cc, rfl, hcl, hcm⟩ := hR.form
    have q0 : w.cell? ⟨b, off + k, none⟩ = some (.slice C s.chains[k].length cc) := by
      have := hcell 0 _ rfl
      rwa [Nat.mul_one, Nat.add_zero] at this
    clear HLP hcell hds h hh hv
    generalize s.chains[k] = c at *
    obtain ⟨n, hn⟩ : ∃ n, c.length = n + 1 := ⟨c.length - 1, by omega⟩
    have hn1 : n < c.length := by omega
    have h00 : 0 < c.length := by omega
    obtain ⟨b', off', rfl, hb', ds', hds', hcell', hR'⟩ := hR.at_ h00
    obtain ⟨b2, off2, hbo, hb2, ds2, hds2, hcell2, hR2⟩ := hR.at_ hn1
    obtain ⟨rfl, rfl⟩ : b' = b2 ∧ off' = off2 := by injection hbo with hbo; injection hbo with h1 h2; exact ⟨h1, h2⟩
    rw [hR'] at hcell'
    rw [hR2] at hcell2
    have a0 : w.cell? ⟨b', off', none⟩ = some (.bool c[0].arc) := hcell' 0 _ rfl
    have a1 : w.cell? ⟨b', off' + 1, none⟩ = some (.int .i64 c[0].index) := by have := hcell' 1 _ rfl; simpa using this
    have a2 : w.cell? ⟨b', off' + 2, none⟩ = some (.bool c[0].back) := by have := hcell' 2 _ rfl; simpa using this
    have z0 : w.cell? ⟨b', off' + n * 3, none⟩ = some (.bool c[n].arc) := hcell2 0 _ rfl
    have z1 : w.cell? ⟨b', off' + n * 3 + 1, none⟩ = some (.int .i64 c[n].index) := hcell2 1 _ rfl
    have z2 : w.cell? ⟨b', off' + n * 3 + 2, none⟩ = some (.bool c[n].back) := hcell2 2 _ rfl
    have HE0 := Lib.hid (fun w1 (hx : Ext w w1) => HEN.out w1 hx (c[0]'h00) (hok _ (List.getElem_mem _)))
    have HE1 := Lib.hid (fun w1 (hx : Ext w w1) => HEN.out w1 hx (c[n]'hn1) (hok _ (List.getElem_mem _)))
    have HCL := Lib.hid (closedL_at (s := s) hn1 hn)
    rw [hn] at hcl hcm q0
    clear hcell' hcell2 hR' hR2 hds' hds2 hbo hR hok HEN hne
    generalize endsOf s (c[0]'h00) = e0 at *
    generalize endsOf s (c[n]'hn1) = e1 at *
    obtain ⟨e00, e01⟩ := e0
    obtain ⟨e10, e11⟩ := e1
    generalize (c[0]'h00).arc = p0 at *
    generalize (c[0]'h00).index = p1 at *
    generalize (c[0]'h00).back = p2 at *
    generalize (c[n]'hn1).arc = r0 at *
    generalize (c[n]'hn1).index = r1 at *
    generalize (c[n]'hn1).back = r2 at *
    rw [HLQ.out]
    generalize closedL s c = cl at *
    clear hn1 h00 hn HLQ
    obtain ⟨y0, y1, y2, y3, y4, y5⟩ := HBX.out.six
    have in0 : (0 : Int) ≤ (k : Int) := by omega
    have in1 : (k : Int) < (s.chains.length : Int) := by omega
    go_enter Tryz.func21, Tryz.ntmps21
    go_wp2_with fail
    refine (HH.out _).mono ?_
    rintro e wx ⟨rfl, rfl⟩
    go_upto_region 4 with fail
    go_cut [6] (fun x wx => x = .int .i64 e00 ∧ Hid (Ext (w.alloc (.cells #[v0, v1, v2, v3, .slice (some ⟨b, off, none⟩) s.chains.length c4, v5] 29)) wx))
    case first =>
      go_region_with (go_at_call 65; refine (HE0.out _ (by repeat (first | exact Ext.refl _ | assumption | refine Ext.pdrewN ?_ _ | refine Ext.pdrew ?_ | refine Ext.palloc ?_ _ | refine Ext.pset ?_ (by simp <;> omega) _ | refine Ext.trans ?_ (by assumption)))).mono ?_; rintro e w2 ⟨rfl, hx2⟩)
      all_goals
        go_wp2_with fail
        go_meet
        exact ⟨rfl, (by repeat (first | exact Ext.refl _ | assumption | refine Ext.pdrewN ?_ _ | refine Ext.pdrew ?_ | refine Ext.palloc ?_ _ | refine Ext.pset ?_ (by simp <;> omega) _ | refine Ext.trans ?_ (by assumption)))⟩
    case rest =>
      obtain ⟨rfl, HX⟩ := hcut
      have hEc : Ext w wc := Ext.trans (Ext.alloc _ _) HX.out
      clear y0 y1 y2 y3 y4 y5
      obtain ⟨y0, y1, y2, y3, y4, y5⟩ := (HBX.out.ext HX.out).six
      have x0 := (hEc.cell (p := ⟨b', off' + n * 3, none⟩) hb').trans z0
      have x1 := (hEc.cell (p := ⟨b', off' + n * 3 + 1, none⟩) hb').trans z1
      have x2 := (hEc.cell (p := ⟨b', off' + n * 3 + 2, none⟩) hb').trans z2
      clear a0 a1 a2 z0 z1 z2 q0 HE0 HH
      have ij : (n : Int) + 1 - 1 = (n : Int) := by omega
      have wj0 : IntKind.i64.wrap (n : Int) = (n : Int) := IntWalk.i64_in _ (by omega)
      have wj1 : IntKind.i64.wrap ((n : Int) + 1 - 1) = (n : Int) := by rw [ij]; exact wj0
      have wj2 : IntKind.i64.wrap (((n + 1 : Nat) : Int) - 1) = (n : Int) := by rw [show ((n + 1 : Nat) : Int) - 1 = (n : Int) by omega]; exact wj0
      go_upto_region 5 with fail
      go_cut [9] (fun x wx => x = .int .i64 e11 ∧ Hid (Ext wc wx))
      case first =>
        go_region_with (go_at_call 65; refine (HE1.out _ (by repeat (first | exact Ext.refl _ | assumption | refine Ext.pdrewN ?_ _ | refine Ext.pdrew ?_ | refine Ext.palloc ?_ _ | refine Ext.pset ?_ (by simp <;> omega) _ | refine Ext.trans ?_ (by assumption)))).mono ?_; rintro e w2 ⟨rfl, hx2⟩)
        all_goals
          go_wp2_with fail
          go_meet
          exact ⟨rfl, (by repeat (first | exact Ext.refl _ | assumption | refine Ext.pdrewN ?_ _ | refine Ext.pdrew ?_ | refine Ext.palloc ?_ _ | refine Ext.pset ?_ (by simp <;> omega) _ | refine Ext.trans ?_ (by assumption)))⟩
      case rest =>
        rename_i wd _
        obtain ⟨rfl, HY⟩ := hcut
        go_wp2_with fail
        go_ret
        exact ⟨by rw [HCL.out]; rfl, hEc.trans HY.out⟩
  · have hh' : hasL s.chains.length i = false := by simpa using hh
    rw [hh'] at HLP HH
    rw [HLP.out]
    clear hh hh' HLP h hv
    obtain ⟨y0, y1, y2, y3, y4, y5⟩ := HBX.out.six
    go_enter Tryz.func21, Tryz.ntmps21
    go_wp2_with fail
    refine (HH.out _).mono ?_
    rintro e wx ⟨rfl, rfl⟩
    go_wp2_with fail
    go_ret
    exact ⟨rfl, (by repeat (first | exact Ext.refl _ | assumption | refine Ext.pdrewN ?_ _ | refine Ext.pdrew ?_ | refine Ext.palloc ?_ _ | refine Ext.pset ?_ (by simp <;> omega) _ | refine Ext.trans ?_ (by assumption)))⟩

end Go.Proofs.YtonleohlplkglaaGreatDoor

/- The statement SketchLoop: its walk. -/
namespace Go.Proofs.YtonleohlplkglaaGreatDoor
open Go Go.RowKit

theorem GoodS.chains {s : SkI} (h : GoodS s) : ∀ c ∈ s.chains, chainL s c = true := by
  have := h.ok
  unfold okS at this
  simp only [Bool.and_eq_true] at this
  exact List.all_eq_true.1 this.1.2

set_option maxRecDepth 100000 in
set_option maxHeartbeats 1600000 in
theorem law_Loop {K : Nat} {s : SkI} {i : Int} {v0 v1 v2 v3 v4 v5 : Value} {w : World} (h : SkAt K w v0 v1 v2 v3 v4 v5 s) :
    Calls Tryz.prog 7 #[.agg #[v0, v1, v2, v3, v4, v5], .int .i64 i] w fun e w' => e = .returned (.bool true) ∧ Ext w w' := by
  have HBX := Lib.hid (CellsAt.new w [v0, v1, v2, v3, v4, v5] 29)
  have HA := Lib.hid law_awake
  have HV := Lib.hid (fun w1 (hx : Ext w w1) => law_valid (h.ext hx))
  have HG := Lib.hid (vld_good (K := K) (s := s))
  have H1 := Lib.hid (fun (hg : GoodS s) w1 (hx : Ext w w1) => sketch_Loop (i := i) (h.ext hx) hg.chains)
  have H2 := Lib.hid (fun (hg : GoodS s) w1 (hx : Ext w w1) => ref26_Loop (i := i) (h.ext hx) hg.chains)
  clear h
  generalize vld K s = vd at *
  generalize loopL s i = lp at *
  obtain ⟨y0, y1, y2, y3, y4, y5⟩ := HBX.out.six
  go_enter Tryz.func7, Tryz.ntmps7
  go_wp2_with fail
  refine (HA.out _).mono ?_
  rintro e w1 ⟨rfl, hx1⟩
  have hE1 : Ext w w1 := Ext.trans (Ext.alloc _ _) hx1
  clear y0 y1 y2 y3 y4 y5
  obtain ⟨y0, y1, y2, y3, y4, y5⟩ := (HBX.out.ext hx1).six
  have hlt := (HBX.out.ext hx1).1
  go_wp2_with fail
  refine (HV.out _ hE1).mono ?_
  rintro e w2 ⟨rfl, hx2⟩
  have hB2 := Ext.trans hx1 hx2
  have hE2 := Ext.trans hE1 hx2
  clear y0 y1 y2 y3 y4 y5 hlt
  cases vd with
  | false =>
    go_wp2_with fail
    refine (HA.out _).mono ?_
    rintro e w3 ⟨rfl, hx3⟩
    go_wp2_with fail
    go_ret
    exact ⟨rfl, Ext.trans hE2 hx3⟩
  | true =>
    have HG1 := Lib.hid (HG.out rfl)
    obtain ⟨y0, y1, y2, y3, y4, y5⟩ := (HBX.out.ext hB2).six
    have hlt := (HBX.out.ext hB2).1
    go_upto_region 3 with fail
    go_region_with (first
      | (go_at_call 21; refine (H1.out HG1.out _ (by repeat (first | exact Ext.refl _ | assumption | refine Ext.pdrewN ?_ _ | refine Ext.pdrew ?_ | refine Ext.palloc ?_ _ | refine Ext.pset ?_ (by simp <;> omega) _ | refine Ext.trans ?_ (by assumption)))).mono ?_; rintro e w3 ⟨rfl, hx3⟩; obtain ⟨x0, x1, x2, x3, x4, x5⟩ := (HBX.out.ext (w' := w3) (by repeat (first | exact Ext.refl _ | assumption | refine Ext.pdrewN ?_ _ | refine Ext.pdrew ?_ | refine Ext.palloc ?_ _ | refine Ext.pset ?_ (by simp <;> omega) _ | refine Ext.trans ?_ (by assumption)))).six)
      | (go_at_call 22; refine (H2.out HG1.out _ (by repeat (first | exact Ext.refl _ | assumption | refine Ext.pdrewN ?_ _ | refine Ext.pdrew ?_ | refine Ext.palloc ?_ _ | refine Ext.pset ?_ (by simp <;> omega) _ | refine Ext.trans ?_ (by assumption)))).mono ?_; rintro e w4 ⟨rfl, hx4⟩; obtain ⟨x0, x1, x2, x3, x4, x5⟩ := (HBX.out.ext (w' := w4) (by repeat (first | exact Ext.refl _ | assumption | refine Ext.pdrewN ?_ _ | refine Ext.pdrew ?_ | refine Ext.palloc ?_ _ | refine Ext.pset ?_ (by simp <;> omega) _ | refine Ext.trans ?_ (by assumption)))).six))
    all_goals
      go_wp2_with fail
      go_ret
      exact ⟨by cases lp <;> rfl, (by repeat (first | exact Ext.refl _ | assumption | refine Ext.pdrewN ?_ _ | refine Ext.pdrew ?_ | refine Ext.palloc ?_ _ | refine Ext.pset ?_ (by simp <;> omega) _ | refine Ext.trans ?_ (by assumption)))⟩
end Go.Proofs.YtonleohlplkglaaGreatDoor

/- Loop reports whether a chain is closed: for every sketch and every number of a chain the statement SketchLoop returns true, and its arguments read as before. Conditions: the five listed package-level variables hold what the program's text lays (the card's tie). -/
namespace Go.Proofs.YtonleohlplkglaaGreatDoor
open Go Go.RowKit

theorem sk_args {H : Type} {enc : TypeId × Value → H} {W : World} {fuel : Nat} {cs : Array Value} {d : DataW H} {p : List MemPlace} (h : DataW.trod enc Tryz.prog W 0 (fun _ => true) true fuel 29 cs.toList = some (d, p)) (hw : (d.weights Tryz.prog 29).all (· ≤ reachBytes) = true) :
    ∃ v0 v1 v2 v3 v4 v5 s, cs = #[v0, v1, v2, v3, v4, v5] ∧ SkAt fuel W v0 v1 v2 v3 v4 v5 s := by
  obtain ⟨u0, u1, u2, u3, u4, u5, s, hcells, hSk⟩ := sk_read (enc := enc) (x := (d, p)) h hw
  exact ⟨u0, u1, u2, u3, u4, u5, s, Array.ext' hcells, hSk⟩

theorem loop_law : LawSI 7 := by
  intro H enc W fuel cs k d p h hw _
  obtain ⟨v0, v1, v2, v3, v4, v5, s, rfl, hs⟩ := sk_args h hw
  exact law_Loop hs

theorem sketchLoop_proved : Rows.SketchLoopCardSaid := sketchLoop_card loop_law
#print axioms sketchLoop_proved
end Go.Proofs.YtonleohlplkglaaGreatDoor
