/- Drivers of the reference's layer 45. -/
import Derived.Test.YtmddjbmelajadaaGreatDoorYI
import Derived.Test.YtmddjbmelajadaaGreatDoorYC
namespace Go.Proofs.YtmddjbmelajadaaGreatDoor
open Go Go.RowKit Go.Sort
theorem insAll_cons (all : List Int) (t : Int) (l out : List Int) : insAll all (t :: l) out = insAll all l (if t ∈ all ∧ t ∉ out then insL t out else out) := rfl
theorem ref45_insertA {A : Option Addr} {m c : Nat} {xs : List Int} {n : Int} {w : World} (h : Ints w (.slice A m c) xs) (h0 : xs = [] → A = none ∧ c = 0) (hx : xs.length ≤ 1000) :
  Calls Tryz.prog 17 #[.slice A m c, .int .i64 n] w (Ret w fun r w' => ∃ A c, r = .slice A (insL n xs).length c ∧ Ints w' (.slice A (insL n xs).length c) (insL n xs)) := by
 by_cases he : xs = []
 ·obtain ⟨rfl, rfl⟩ := h0 he
  subst he
  obtain ⟨rfl, -, -⟩ := h.len
  exact ref45_insert_nil
 ·obtain ⟨rfl, -, -⟩ := h.len
  obtain ⟨b, off, rfl, hb, -⟩ := ints_cells h (List.length_pos_iff.2 he)
  exact ref45_insert h hx
set_option maxRecDepth 100000 in
set_option maxHeartbeats 16000000 in
theorem ref45_Drivers {l : List StI} {v0 v1 : Value} {w : World} (h : ArrAt 4 StR w v0 l) (hl : l.length ≤ 40) :
  Calls Tryz.prog 6 #[.agg #[v0, v1]] w (Ret w fun r w' => ∃ A c, r = .slice A (insAll (dlOf l) (l.map StI.target) []).length c ∧ Ints w' (.slice A (insAll (dlOf l) (l.map StI.target) []).length c) (insAll (dlOf l) (l.map StI.target) [])) := by
 obtain ⟨A0, c0, rfl, hl0, hm0⟩ := h.form
 have HST := Lib.hid h
 have HBX := Lib.hid (CellsAt.new w [.slice A0 l.length c0, v1] 25)
 obtain ⟨w1, hw1⟩ : ∃ w1, w.alloc (.cells #[.slice A0 l.length c0, v1] 25) = w1 := ⟨_, rfl⟩
 have HE1 : Hid (Ext w w1) := by rw [← hw1]; exact Ext.alloc _ _
 have HB1 : Hid (CellsAt w1 w.heap.size [.slice A0 l.length c0, v1]) := by rw [← hw1]; exact HBX.out
 have HW1 := Lib.hid hw1
 clear hw1 HBX h
 have hE1 := HE1.out
 go_enter Tryz.func6, Tryz.ntmps6
 go_upto_region 1 with fail
 rw [HW1.out]
 go_wp2_with fail
 go_loopg [3, 4] l.length (fun gk v x wr => ∃ (i : Nat) (out : List Int) (A : Option Addr) (c : Nat), v = .slice A out.length c ∧ x = .int .i64 (i : Int) ∧ i + gk = l.length ∧ out.length ≤ i ∧ Hid (out = [] → A = none ∧ c = 0) ∧ Hid (Ints wr (.slice A out.length c) out) ∧ Hid (insAll (dlOf l) ((l.map StI.target).drop i) out = insAll (dlOf l) (l.map StI.target) []) ∧ Hid (Ext w1 wr))
 case atStart => exact ⟨0, [], none, 0, rfl, rfl, by omega, Nat.le_refl _, fun _ => ⟨rfl, rfl⟩, ⟨none, 0, rfl, Nat.le_refl _, by simp, fun h => absurd rfl h⟩, rfl, Ext.refl _⟩
 case round =>
  obtain ⟨i, out, A, c, rfl, rfl, hk, hol, HN, HI, HF, HE⟩ := hrel
  have hE0 := HE.out
  have hEr : Ext w wr := Ext.trans hE1 HE.out
  have HB2 := Lib.hid (HB1.out.ext HE.out)
  obtain ⟨y0, y1⟩ := HB2.out.twoJ
  have hz4 := HB2.out.1
  by_cases hlt : i < l.length
  ·obtain ⟨b, off, rfl, hb, ds, hds, hcell, B, m, d, br, rfl⟩ := HST.out.at_ hlt
   have HQ : Hid (∀ W, Ext wr W → b < W.heap.size ∧ W.cell? ⟨b, off + i * 4 + 1, none⟩ = some (.int .i64 l[i].target)) := fun W hx => ⟨Nat.lt_of_lt_of_le hb (Ext.trans hEr hx).size, ((Ext.trans hEr hx).cell (p := ⟨b, off + (i * 4 + 1), none⟩) hb).trans (hcell 1 _ rfl)⟩
   have HS : Hid (insAll (dlOf l) ((l.map StI.target).drop (i + 1)) (if l[i].target ∈ dlOf l ∧ l[i].target ∉ out then insL l[i].target out else out) = insAll (dlOf l) (l.map StI.target) []) := by
    show _ = _
    rw [← HF.out, List.drop_eq_getElem_cons (l := l.map StI.target) (i := i) (by simpa using hlt), insAll_cons, List.getElem_map]
   have i1 : (i : Int) < (l.length : Int) := by omega
   have i0 : (0 : Int) ≤ (i : Int) := by omega
   clear hcell hds
   generalize l[i].target = tg at *
   have HD := Lib.hid (fun w2 (hx : Ext w w2) => ref45_driver (p := tg) (v1 := v1) (HST.out.ext StR.stable hx))
   have HIN := Lib.hid (fun w2 (hx : Ext wr w2) => ref45_in (x := tg) (HI.out.ext IntR.stable hx))
   have HINS := Lib.hid (fun w2 (hx : Ext wr w2) => ref45_insertA (n := tg) (HI.out.ext IntR.stable hx) HN.out (by omega))
   have HP1 : Hid (decide (tg ∈ dlOf l) = true → decide (tg ∈ out) = false → insAll (dlOf l) ((l.map StI.target).drop (i + 1)) (insL tg out) = insAll (dlOf l) (l.map StI.target) []) := by
    intro h1 h2
    have := HS.out
    rw [if_pos ⟨by simpa using h1, by simpa using h2⟩] at this
    exact this
   have HP2 : Hid (¬ (decide (tg ∈ dlOf l) = true ∧ decide (tg ∈ out) = false) → insAll (dlOf l) ((l.map StI.target).drop (i + 1)) out = insAll (dlOf l) (l.map StI.target) []) := by
    intro h1
    have := HS.out
    rw [if_neg (by rintro ⟨h2, h3⟩; exact h1 ⟨by simpa using h2, by simpa using h3⟩)] at this
    exact this
   clear HS
   generalize decide (tg ∈ dlOf l) = b1 at *
   generalize decide (tg ∈ out) = b2 at *
   obtain ⟨hzb, q1⟩ := HQ.out wr (Ext.refl _)
   go_upto_region 5 with fail
   go_cut [30] (fun x wx => x = .bool (b1 && !b2) ∧ Hid (Ext wr wx))
   case first =>
    cases b1 with
    | false =>
     first
      | go_region_with (go_at_call 15; refine (HD.out _ (by repeat first|exact xA _|assumption|refine xB ?_ _|refine xC ?_|refine xD ?_ _|refine xE ?_ (by simp <;> omega) _|refine xF ?_ (by assumption))).mono ?_; rintro e w3 ⟨rfl, hx3⟩)
      | fail
     all_goals
      simp only [Act.put, List.getElem_toArray, List.getElem_cons_succ, List.getElem_cons_zero, List.setIfInBounds_toArray, List.set_cons_zero, List.set_cons_succ]
      go_wp2_with fail
      go_meet
      exact ⟨rfl, (by repeat first|exact xA _|assumption|refine xB ?_ _|refine xC ?_|refine xD ?_ _|refine xE ?_ (by simp <;> omega) _|refine xF ?_ (by assumption))⟩
    | true =>
     go_region_with (first
      | (go_at_call 15; refine (HD.out _ (by repeat first|exact xA _|assumption|refine xB ?_ _|refine xC ?_|refine xD ?_ _|refine xE ?_ (by simp <;> omega) _|refine xF ?_ (by assumption))).mono ?_; rintro e w3 ⟨rfl, hx3⟩; obtain ⟨hzb3, q3⟩ := HQ.out w3 (by repeat first|exact xA _|assumption|refine xB ?_ _|refine xC ?_|refine xD ?_ _|refine xE ?_ (by simp <;> omega) _|refine xF ?_ (by assumption)); obtain ⟨x0, x1⟩ := (HB2.out.ext (w' := w3) (by repeat first|exact xA _|assumption|refine xB ?_ _|refine xC ?_|refine xD ?_ _|refine xE ?_ (by simp <;> omega) _|refine xF ?_ (by assumption))).twoJ; have hz43 := (HB2.out.ext (w' := w3) (by repeat first|exact xA _|assumption|refine xB ?_ _|refine xC ?_|refine xD ?_ _|refine xE ?_ (by simp <;> omega) _|refine xF ?_ (by assumption))).1)
      | (go_at_call 16; refine (HIN.out _ (by repeat first|exact xA _|assumption|refine xB ?_ _|refine xC ?_|refine xD ?_ _|refine xE ?_ (by simp <;> omega) _|refine xF ?_ (by assumption))).mono ?_; rintro e w4 ⟨rfl, rfl⟩))
     all_goals
      simp only [Act.put, List.getElem_toArray, List.getElem_cons_succ, List.getElem_cons_zero, List.setIfInBounds_toArray, List.set_cons_zero, List.set_cons_succ]
      go_wp2_with fail
      go_meet
      exact ⟨rfl, (by repeat first|exact xA _|assumption|refine xB ?_ _|refine xC ?_|refine xD ?_ _|refine xE ?_ (by simp <;> omega) _|refine xF ?_ (by assumption))⟩
   case rest =>
    obtain ⟨rfl, HX4⟩ := hcut
    obtain ⟨w4, hw4⟩ : ∃ x, x = wc := ⟨_, rfl⟩
    subst hw4
    have hE4 : Ext w1 w4 := Ext.trans hE0 HX4.out
    have hX4 := HX4.out
    have HI4 := Lib.hid (HI.out.ext IntR.stable hX4)
    obtain ⟨hzb4, q4⟩ := HQ.out w4 hX4
    obtain ⟨x0, x1⟩ := (HB2.out.ext hX4).twoJ
    have hz44 := (HB2.out.ext hX4).1
    clear y0 y1 q1
    cases b1 with
    | true =>
     cases b2 with
     | false =>
      have HR := Lib.hid (HP1.out rfl rfl)
      have hlen : (insL tg out).length ≤ out.length + 1 := Nat.le_of_eq (insL_len tg out)
      have HNE : Hid (insL tg out ≠ []) := fun e => by have h := insL_len tg out; rw [e] at h; simp at h
      go_wp2_with fail
      refine (HINS.out _ (by repeat first|exact xA _|assumption|refine xB ?_ _|refine xC ?_|refine xD ?_ _|refine xE ?_ (by simp <;> omega) _|refine xF ?_ (by assumption))).mono ?_
      rintro e w5 ⟨r, rfl, ⟨A5, c5, rfl, hi5⟩, hx5⟩
      have HI5 := Lib.hid hi5
      clear hi5
      generalize insL tg out = out5 at *
      go_wp2_with fail
      go_roundg (l.length - (i + 1))
      case measure => omega
      case rel => exact ⟨i + 1, out5, A5, c5, rfl, by simp, by omega, by omega, fun e => absurd e HNE.out, HI5.out, HR.out, hE4.trans (by repeat first|exact xA _|assumption|refine xB ?_ _|refine xC ?_|refine xD ?_ _|refine xE ?_ (by simp <;> omega) _|refine xF ?_ (by assumption))⟩
     | true =>
      have HR := Lib.hid (HP2.out (by simp))
      go_wp2_with fail
      go_roundg (l.length - (i + 1))
      case measure => omega
      case rel => exact ⟨i + 1, out, A, c, rfl, by simp, by omega, by omega, HN.out, HI4.out, HR.out, hE4⟩
    | false =>
     have HR := Lib.hid (HP2.out (by simp))
     have hz5 : (false && !b2) = false := rfl
     rw [hz5]
     go_wp2_with fail
     go_roundg (l.length - (i + 1))
     case measure => omega
     case rel => exact ⟨i + 1, out, A, c, rfl, by simp, by omega, by omega, HN.out, HI4.out, HR.out, hE4⟩
  ·have HU : Hid (out = insAll (dlOf l) (l.map StI.target) []) := by show _ = _; rw [← HF.out, List.drop_eq_nil_of_le (by simp; omega)]; rfl
   go_wp2_with fail
   go_ret
   have e0 : Value.slice A out.length c = .slice A (insAll (dlOf l) (l.map StI.target) []).length c := by rw [← HU.out]
   exact ⟨_, rfl, ⟨A, c, e0, by rw [← HU.out]; exact HI.out⟩, hEr⟩
end Go.Proofs.YtmddjbmelajadaaGreatDoor
