/- Contracts: Same and Format of the reference's layer 1, for numbers that are not negative. -/
import Derived.Test.YtonleohlplkglaaGreatDoorTr
import Derived.Laws.BytesArg
namespace Go.Proofs.YtonleohlplkglaaGreatDoor
open Go Go.RowKit

/-- The number of decimal digits, none for zero. -/
def ndig (n : Nat) : Nat := if h : n = 0 then 0 else ndig (n / 10) + 1
termination_by n
decreasing_by omega
theorem ndig_zero : ndig 0 = 0 := by rw [ndig]; simp
theorem ndig_pos {n : Nat} (h : n ≠ 0) : ndig n = ndig (n / 10) + 1 := by rw [ndig]; simp [h]

theorem ref01_Same {v v' : Value} {a b : Nat} {w : World} (h : Words w v (limbs a)) (h' : Words w v' (limbs b)) :
    Calls Tryz.prog 207 #[.agg #[.bool false, v], .agg #[.bool false, v']] w fun e w' => e = .returned (.bool (decide (a = b))) ∧ Ext w w' := by
  obtain ⟨A, c, rfl, hl, hm⟩ := h.form
  obtain ⟨A', c', rfl, hl', hm'⟩ := h'.form
  have HC := Lib.hid (fun w1 (hx : Ext w w1) => ref01_compare (h.ext hx) (h'.ext hx))
  have HV := Lib.hid (cmpW_limbs a b)
  generalize (limbs a).length = n at *
  generalize (limbs b).length = m at *
  clear h h'
  go_enter Tryz.func207, Tryz.ntmps207
  go_wp2_with fail
  refine (HC.out _ (by repeat (first | exact Ext.refl _ | assumption | refine Ext.pdrewN ?_ _ | refine Ext.pdrew ?_ | refine Ext.palloc ?_ _ | refine Ext.pset ?_ (by simp <;> omega) _ | refine Ext.trans ?_ (by assumption)))).mono ?_
  rintro e w1 ⟨rfl, hx1⟩
  rw [HV.out]
  have hz : ((if a < b then (-1 : Int) else if b < a then 1 else 0) == 0) = decide (a = b) := by
    by_cases h1 : a < b
    · have h2 : a ≠ b := by omega
      simp [h1, h2]
    · by_cases h2 : b < a
      · have h3 : a ≠ b := by omega
        simp [h1, h2, h3]
      · have h3 : a = b := by omega
        subst h3; simp
  generalize (if a < b then (-1 : Int) else if b < a then 1 else 0) = z at hz ⊢
  have HZ := Lib.hid hz
  clear hz
  go_wp2_with fail
  rw [HZ.out]
  refine bodyPost_ret ?_ rfl ⟨rfl, ?_⟩
  · simp [results, Tryz.results207, go_sem]
  · exact (by repeat (first | exact Ext.refl _ | assumption | refine Ext.pdrewN ?_ _ | refine Ext.pdrew ?_ | refine Ext.palloc ?_ _ | refine Ext.pset ?_ (by simp <;> omega) _ | refine Ext.trans ?_ (by assumption)))

theorem bytes_empty (s : ByteArray) : s.toList.isEmpty = decide (s.size = 0) := by
  rw [ByteArray.toList_eq]
  have h : s.size = s.data.toList.length := by rw [Array.length_toList]; rfl
  rw [h]
  cases s.data.toList with
  | nil => rfl
  | cons x l => simp

theorem byte_string (W : World) (z : Int) : (convert 197 9 (.slice (some ⟨W.heap.size, 0, none⟩) 1 1)).run Tryz.prog (W.alloc (.cells #[.int .u8 z] 5)) = .ok (.string (strOfNums [z])) (W.alloc (.cells #[.int .u8 z] 5)) :=
  run_convert_bytes_arg _ 197 5 Tryz.underlying197 Tryz.underlying5 _ 0 1 1 [z] rfl (fun i hi => by
    have : i = 0 := by omega
    subst this
    simp [go_sem]) _ Tryz.underlying9

set_option maxRecDepth 100000 in
set_option maxHeartbeats 1600000 in
theorem ref01_Format {v : Value} {a : Nat} {w : World} (h : Words w v (limbs a)) (hnd : ndig a ≤ 1000000000) :
    Calls Tryz.prog 208 #[.agg #[.bool false, v]] w fun e w' => (∃ s, e = .returned (.string s) ∧ s.size = max 1 (ndig a)) ∧ Ext w w' := by
  obtain ⟨A, c, rfl, hl, hm⟩ := h.form
  have HND := Lib.hid hnd
  clear hnd
  have hN := fun w1 (hx : Ext w w1) => ref01_Norm false (h.ext hx)
  rw [trimL_limbs, Bool.false_and] at hN
  have HN := Lib.hid hN
  have H := Lib.hid h
  have HB := Lib.hid (BoxI.new w false (.slice A (limbs a).length c) 36 (by simp))
  clear h hN
  generalize (limbs a).length = n at *
  go_enter Tryz.func208, Tryz.ntmps208
  go_wp2_with fail
  refine (HN.out _ (by repeat (first | exact Ext.refl _ | assumption | refine Ext.pdrewN ?_ _ | refine Ext.pdrew ?_ | refine Ext.palloc ?_ _ | refine Ext.pset ?_ (by simp <;> omega) _ | refine Ext.trans ?_ (by assumption)))).mono ?_
  rintro e w1 ⟨rfl, hx1⟩
  have hE1 : Ext w w1 := (by repeat (first | exact Ext.refl _ | assumption | refine Ext.pdrewN ?_ _ | refine Ext.pdrew ?_ | refine Ext.palloc ?_ _ | refine Ext.pset ?_ (by simp <;> omega) _ | refine Ext.trans ?_ (by assumption)))
  have HB1 := Lib.hid (HB.out.ext hx1)
  obtain ⟨y0, y1, y2, y3, -⟩ := HB1.out
  clear HB HN
  go_wp2_with fail
  rw [setCell_id (by rw [World.cell?_setCell_other _ _ _ _ (by simp)]; exact y1), setCell_id y0]
  go_loopg [3, 4] a (fun p x y wr => ∃ s : ByteArray, x = .string s ∧ Hid (s.size + ndig p = ndig a) ∧ Hid (Words wr y (limbs p)) ∧ Ext w1 wr)
  case atStart => exact ⟨_, rfl, (by show 0 + ndig a = ndig a; omega), H.out.ext hE1, Ext.refl _⟩
  case round =>
    obtain ⟨s, rfl, hs, HP, hE⟩ := hrel
    obtain ⟨A1, c1, rfl, hl1, hm1⟩ := HP.out.form
    by_cases h0 : 0 < gk
    · have hlen : 0 < (limbs gk).length := by rw [limbs_pos (by omega)]; simp
      have hD := ref01_by (n := 10) HP.out (by omega) (by omega)
      rw [val_limbs] at hD
      have HD := Lib.hid hD
      clear hD
      generalize (limbs gk).length = lk at *
      go_wp2_with fail
      refine HD.out.mono ?_
      rintro e w2 ⟨v, rfl, ⟨v1, rfl, hv1⟩, hx2⟩
      have hr : gk % 10 < 10 := Nat.mod_lt _ (by omega)
      generalize gk % 10 = r at *
      have HV1 := Lib.hid hv1
      clear hv1 HD
      have kc := byte_string
      have hsz1 : (strOfNums [48 + (r : Int)]).size = 1 := strOfNums_size _
      have hsz : s.size ≤ 1000000000 := by have := hs.out; have := HND.out; omega
      go_wp2_with fail
      go_roundg (gk / 10)
      case measure => omega
      case rel => exact ⟨_, rfl, (by have := hs.out; rw [ndig_pos (by omega)] at this; show (_ ++ s : ByteArray).size + _ = _; rw [ByteArray.size_append, hsz1]; omega), HV1.out.ext (Ext.alloc _ _), (hE.trans hx2).trans (Ext.alloc _ _)⟩
    · obtain rfl : gk = 0 := by omega
      have hlen : (limbs 0).length = 0 := by rw [limbs_zero]; rfl
      rw [hlen] at *
      have HS : Hid (s.size = ndig a) := by have := hs.out; rw [ndig_zero] at this; exact this
      clear hs hlen
      obtain ⟨hbc, -⟩ := bcell hE
      have hc0 := hbc w.heap.size 0 HB1.out.2.2.2.2.1
      rw [y0] at hc0
      have hse := bytes_empty s
      by_cases hs0 : s.size = 0
      · have hse : s.toList.isEmpty = true := by rw [hse]; simpa using hs0
        go_wp2_with fail
        refine bodyPost_ret (v := .string ⟨#[48]⟩) ?_ rfl ⟨⟨_, rfl, ?_⟩, hE1.trans hE⟩
        · simp [results, Tryz.results208, go_sem]
        · have := HS.out; show 1 = _; omega
      · have hse : s.toList.isEmpty = false := by rw [hse]; simpa using hs0
        go_wp2_with fail
        refine bodyPost_ret (v := .string s) ?_ rfl ⟨⟨_, rfl, ?_⟩, hE1.trans hE⟩
        · simp [results, Tryz.results208, go_sem]
        · have := HS.out; omega

end Go.Proofs.YtonleohlplkglaaGreatDoor
