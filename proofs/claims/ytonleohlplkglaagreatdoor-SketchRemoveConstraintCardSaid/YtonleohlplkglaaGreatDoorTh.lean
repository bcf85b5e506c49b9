/- Contracts: divide (the reference's), the simple cases. -/
import Derived.Deep.RegionWith
import Derived.Test.YtonleohlplkglaaGreatDoorTg
import Derived.Test.YtonleohlplkglaaGreatDoorDivB
namespace Go.Proofs.YtonleohlplkglaaGreatDoor
open Go Go.RowKit

/-- What a division leaves: the quotient's and the remainder's words. -/
def DivRes (a b : Nat) (v : Value) (w' : World) : Prop := ∃ v1 v2, v = .tuple #[v1, v2] ∧ Words w' v1 (limbs (a / b)) ∧ Words w' v2 (limbs (a % b))

set_option maxHeartbeats 800000 in
theorem ref01_divide_less {A A' : Option Addr} {n m c c' a b : Nat} {w : World} (h : Words w (.slice A n c) (limbs a)) (h' : Words w (.slice A' m c') (limbs b)) (hab : a < b) :
    Calls Tryz.prog 147 #[.slice A n c, .slice A' m c'] w (Ret w (DivRes a b)) := by
  have hC := ref01_compare h h'
  rw [cmpW_limbs, if_pos hab] at hC
  have HC := Lib.hid hC
  have H := Lib.hid h
  clear hC h h'
  go_enter Tryz.func147, Tryz.ntmps147
  go_wp2_with fail
  refine HC.out.mono ?_
  rintro e w1 ⟨rfl, hx⟩
  have HW := Lib.hid (H.out.ext hx)
  go_wp2_with fail
  go_ret2
  exact ⟨_, rfl, ⟨_, _, rfl, by rw [Nat.div_eq_of_lt hab, limbs_zero]; exact Words.nil _, by rw [Nat.mod_eq_of_lt hab]; exact HW.out⟩, (by repeat (first | exact Ext.refl _ | assumption | refine Ext.pdrewN ?_ _ | refine Ext.pdrew ?_ | refine Ext.palloc ?_ _ | refine Ext.pset ?_ (by simp <;> omega) _ | refine Ext.trans ?_ (by assumption)))⟩

set_option maxRecDepth 100000 in
set_option maxHeartbeats 1600000 in
theorem ref01_divide_small {A A' : Option Addr} {n m c c' a b : Nat} {w : World} (h : Words w (.slice A n c) (limbs a)) (h' : Words w (.slice A' m c') (limbs b)) (hab : b ≤ a) (hb : 0 < b) (hn : n ≤ 2) :
    Calls Tryz.prog 147 #[.slice A n c, .slice A' m c'] w (Ret w (DivRes a b)) := by
  have hC := ref01_compare h h'
  rw [cmpW_limbs, if_neg (by omega)] at hC
  obtain ⟨r, hr, hr0⟩ : ∃ r : Int, (if b < a then (1 : Int) else 0) = r ∧ 0 ≤ r := ⟨_, rfl, by split <;> omega⟩
  rw [hr] at hC
  have HC := Lib.hid hC
  have hl := h.len
  have hl' := h'.len
  have hm : m ≤ 2 := by have := limbs_length_mono hab; omega
  have hs := fun w' (hx : Ext w w') => ref01_short (h.ext hx) hn
  have hs' := fun w' (hx : Ext w w') => ref01_short (h'.ext hx) hm
  rw [val_limbs] at hs hs'
  have HS := Lib.hid hs
  have HS' := Lib.hid hs'
  have ha2 : a < 18446744073709551616 := by
    have h1 := val_lt (limb_limbs a)
    rw [val_limbs] at h1
    have h2 : 4294967296 ^ (limbs a).length ≤ 4294967296 ^ 2 := Nat.pow_le_pow_right (by omega) (by omega)
    omega
  clear hC hr h h' hs hs' hl hl' hm
  go_enter Tryz.func147, Tryz.ntmps147
  go_wp2_with fail
  refine HC.out.mono ?_
  rintro e w1 ⟨rfl, hx⟩
  go_wp2_with fail
  refine (HS.out _ hx).mono ?_
  rintro e w2 ⟨rfl, rfl⟩
  go_wp2_with fail
  refine (HS'.out _ hx).mono ?_
  rintro e w2 ⟨rfl, rfl⟩
  go_wp2_with fail
  have hb0 : ¬ ((b : Int) = 0) := by omega
  have hb1 : ((b : Int) == 0) = false := by simp; omega
  have hq : ∀ W, Calls Tryz.prog 153 #[.int .u64 (IntKind.u64.wrap ((a : Int) / (b : Int)))] W (Ret W fun v w' => Words w' v (limbs (a / b))) := fun W => by
    have h1 : a / b ≤ a := Nat.div_le_self _ _
    have e : IntKind.u64.wrap ((a : Int) / (b : Int)) = ((a / b : Nat) : Int) := by
      rw [← Int.natCast_ediv, IntKind.wrap_u64]
      generalize a / b = q at *
      omega
    rw [e]
    exact ref01_words (a / b) (by omega) W
  have hr : ∀ (x : Int) W, x = ((a % b : Nat) : Int) → Calls Tryz.prog 153 #[.int .u64 x] W (Ret W fun v w' => Words w' v (limbs (a % b))) := fun x W hx => by
    have h1 : a % b ≤ a := Nat.mod_le _ _
    rw [hx]
    exact ref01_words (a % b) (by omega) W
  have HQ := Lib.hid hq
  have HR := Lib.hid hr
  clear ha2 hq hr HC HS HS'
  go_region_with (first
    | (go_at_call_of 153 (IntKind.u64.wrap ((a : Int) / (b : Int))); refine (HQ.out _).mono ?_; rintro e w2 ⟨v, rfl, hv, hx2⟩)
    | (go_at_call_of 153 ((a : Int) % (b : Int)); refine (HR.out _ _ (Int.natCast_emod a b).symm).mono ?_; rintro e w3 ⟨v', rfl, hv', hx3⟩)
    | (go_at_call_of 153 ((a : Int).tmod (b : Int)); refine (HR.out _ _ (Int.ofNat_tmod a b).symm).mono ?_; rintro e w3 ⟨v', rfl, hv', hx3⟩))
  all_goals
    go_wp2_with fail
    go_ret2
    exact ⟨_, rfl, ⟨_, _, rfl, hv.ext hx3, hv'⟩, (by repeat (first | exact Ext.refl _ | assumption | refine Ext.pdrewN ?_ _ | refine Ext.pdrew ?_ | refine Ext.palloc ?_ _ | refine Ext.pset ?_ (by simp <;> omega) _ | refine Ext.trans ?_ (by assumption)))⟩

set_option maxRecDepth 100000 in
set_option maxHeartbeats 1600000 in
theorem ref01_divide_word {A A' : Option Addr} {n c c' a b : Nat} {w : World} (h : Words w (.slice A n c) (limbs a)) (h' : Words w (.slice A' 1 c') (limbs b)) (hn : 2 < n) :
    Calls Tryz.prog 147 #[.slice A n c, .slice A' 1 c'] w (Ret w (DivRes a b)) := by
  have hl := h.len
  have hl' := h'.len
  have hba : b < a := lt_of_limbs_length_lt (by omega)
  have hC := ref01_compare h h'
  rw [cmpW_limbs, if_neg (by omega), if_pos hba] at hC
  have HC := Lib.hid hC
  have hb2 : b < 4294967296 := by
    have h1 := val_lt (limb_limbs b)
    rw [val_limbs, ← hl'.1] at h1
    simpa using h1
  have hb0 : 0 < b := by
    rcases Nat.eq_zero_or_pos b with h0 | h0
    · have := hl'.1; rw [h0, limbs_zero] at this; simp at this
    · exact h0
  have hbl : (limbs b).getD 0 0 = b := by
    have := val_limbs b
    match hm : limbs b, hl'.1 with
    | [x], _ => rw [hm] at this; simpa [val] using this
  obtain ⟨bb, off, rfl, hbb, -, hcell⟩ := h'.at_ (k := 0) (by omega)
  have g1 := hcell 0 (by omega)
  rw [hbl, Nat.add_zero] at g1
  have hby := fun w' (hx : Ext w w') => ref01_by (h.ext hx) hb0 hb2
  rw [val_limbs] at hby
  have HB := Lib.hid hby
  have hwd := fun W => ref01_words (a % b) (Nat.lt_trans (Nat.mod_lt a hb0) (by omega)) W
  have HWD := Lib.hid hwd
  have hlc : n ≤ 35184372088832 := by omega
  have hmod := Nat.mod_lt a hb0
  have hl1 := hl'.2.1
  clear hC h h' hl hl' hby hwd hba hcell hbl
  go_enter Tryz.func147, Tryz.ntmps147
  go_wp2_with fail
  refine HC.out.mono ?_
  rintro e w1 ⟨rfl, hx⟩
  have g2 : w1.cell? ⟨bb, off, none⟩ = some (.int .u32 (b : Int)) := (hx.cell (p := ⟨bb, off, none⟩) hbb).trans g1
  clear g1
  go_wp2_with fail
  refine (HB.out _ hx).mono ?_
  rintro e w2 ⟨v, rfl, ⟨v1, rfl, hv1⟩, hx2⟩
  have HV1 := Lib.hid hv1
  clear hv1 HC HB g2
  generalize hr : a % b = r at *
  have HR := Lib.hid hr
  clear hr
  go_wp2_with fail
  refine (HWD.out _).mono ?_
  rintro e w3 ⟨v2, rfl, hv2, hx3⟩
  have HV2 := Lib.hid hv2
  clear hv2
  go_wp2_with fail
  go_ret2
  exact ⟨_, rfl, ⟨_, _, rfl, HV1.out.ext hx3, by rw [HR.out]; exact HV2.out⟩, (by repeat (first | exact Ext.refl _ | assumption | refine Ext.pdrewN ?_ _ | refine Ext.pdrew ?_ | refine Ext.palloc ?_ _ | refine Ext.pset ?_ (by simp <;> omega) _ | refine Ext.trans ?_ (by assumption)))⟩

end Go.Proofs.YtonleohlplkglaaGreatDoor
