/- Contracts: plus, Neg of the reference's layer 1. -/
import Derived.Test.YtonleohlplkglaaGreatDoorTl
namespace Go.Proofs.YtonleohlplkglaaGreatDoor
open Go Go.RowKit

theorem plus_step {Z X Y B c x y o : Nat} (ho : o = (c + x + y) % 4294967296) (h : Z + B * c = X + Y) :
    Z + B * o + B * 4294967296 * ((c + x + y) / 4294967296) = X + B * x + (Y + B * y) := by
  have e : o + 4294967296 * ((c + x + y) / 4294967296) = c + x + y := by omega
  have e2 := congrArg (B * ·) e
  simp only [Nat.mul_add] at e2
  rw [Nat.mul_assoc]
  omega
theorem plus_round {xs ys zs : List Nat} {k c : Nat} (hk : k < zs.length) (h : val (zs.take k) + 4294967296 ^ k * c = val (xs.take k) + val (ys.take k)) :
    val ((zs.set k ((c + xs.getD k 0 + ys.getD k 0) % 4294967296)).take (k + 1)) + 4294967296 ^ (k + 1) * ((c + xs.getD k 0 + ys.getD k 0) / 4294967296) = val (xs.take (k + 1)) + val (ys.take (k + 1)) := by
  rw [limb_take_set hk, val_take_next, val_take_next, Nat.pow_succ]
  exact plus_step rfl h

set_option maxHeartbeats 1600000 in
theorem ref01_plus_ge {A A' : Option Addr} {n m c c' : Nat} {xs ys : List Nat} {w : World} (h : Words w (.slice A n c) xs) (h' : Words w (.slice A' m c') ys) (hmn : m ≤ n) (hn : n < 35184372088832) :
    Calls Tryz.prog 244 #[.slice A n c, .slice A' m c'] w (Ret w fun v w' => FreshV w.heap.size v ∧ Words w' v (limbs (val xs + val ys))) := by
  obtain ⟨rfl, hl, hm⟩ := h.len
  obtain ⟨rfl, hl', hm'⟩ := h'.len
  have hL := h.limb
  have hL' := h'.limb
  have H := Lib.hid h
  have H' := Lib.hid h'
  clear h h'
  have hmk := mk_words (xs.length + 1) (by omega)
  simp only [Int.natCast_add, Int.cast_ofNat_Int] at hmk
  have hnlt : ¬ (xs.length < ys.length) := by omega
  go_enter Tryz.func244, Tryz.ntmps244
  go_wp2_with fail
  go_loopw [6, 7] (fun r i wr => ∃ (k b : Nat) (zs : List Nat), k ≤ xs.length ∧ i = .int .i64 (k : Int) ∧ r = .int .u64 (b : Int) ∧ b ≤ 1 ∧ Hid (zs.length = xs.length + 1 ∧ Limb zs ∧ Row wr w.heap.size zs ∧ zs.getD xs.length 0 = 0 ∧ val (zs.take k) + 4294967296 ^ k * b = val (xs.take k) + val (ys.take k)) ∧ Ext w wr) (fun _ i _ => xs.length - (intOf i).toNat)
  case atStart =>
    exact ⟨0, 0, List.replicate (xs.length + 1) 0, by omega, rfl, rfl, by omega, ⟨by simp, limb_replicate _, Row.made _ _, getD_replicate _ _, by simp [val]⟩, (by repeat (first | exact Ext.refl _ | assumption | refine Ext.pdrewN ?_ _ | refine Ext.pdrew ?_ | refine Ext.palloc ?_ _ | refine Ext.pset ?_ (by simp <;> omega) _ | refine Ext.trans ?_ (by assumption)))⟩
  case round =>
    obtain ⟨k, b, zs, hk, rfl, rfl, hb1, HZ, hE⟩ := hrel
    by_cases hk0 : k < xs.length
    · obtain ⟨bb, off, rfl, hb, -, hcell⟩ := (H.out.ext hE).at_ (k := k) (by omega)
      have g1 := hcell k (by omega)
      have g2 := HZ.out.2.2.1.cell (k := k) (by have := HZ.out.1; omega)
      have g3 := HZ.out.2.2.1.frozen k
      have hx := hL.getD k
      have hy := hL'.getD k
      clear hcell
      obtain ⟨z1, z2, z3, z4, z5⟩ := HZ.out
      have HR := Lib.hid (plus_round (by omega) z5)
      have HS := Lib.hid (z3.set_ k ((b + xs.getD k 0 + ys.getD k 0) % 4294967296))
      have HQ : Hid (Limb (zs.set k ((b + xs.getD k 0 + ys.getD k 0) % 4294967296))) := limb_set z2 (Nat.mod_lt _ (by omega))
      have HN := Lib.hid z1
      have HT : Hid ((zs.set k ((b + xs.getD k 0 + ys.getD k 0) % 4294967296)).getD xs.length 0 = 0) := by show _ = _; rw [getD_set_ne (by omega)]; exact z4
      clear z1 z2 z3 z4 z5
      by_cases hk1 : k < ys.length
      · obtain ⟨bb', off', rfl, hb', -, hcell'⟩ := (H'.out.ext hE).at_ (k := k) (by omega)
        have g4 := hcell' k (by omega)
        clear hcell'
        generalize xs.getD k 0 = x at *
        generalize ys.getD k 0 = y at *
        go_wp2_with fail
        rw [show ((b : Int) + x + y) % 4294967296 = (((b + x + y) % 4294967296 : Nat) : Int) by omega,
          show ((b : Int) + x + y) / 4294967296 = (((b + x + y) / 4294967296 : Nat) : Int) by omega]
        exact ⟨⟨k + 1, _, _, by omega, by go_num, rfl, by omega, ⟨by simp [HN.out], HQ.out, HS.out, HT.out, HR.out⟩, (by repeat (first | exact Ext.refl _ | assumption | refine Ext.pdrewN ?_ _ | refine Ext.pdrew ?_ | refine Ext.palloc ?_ _ | refine Ext.pset ?_ (by simp <;> omega) _ | refine Ext.trans ?_ (by assumption)))⟩, by simp [intOf]; omega⟩
      · have hy0 : ys.getD k 0 = 0 := getD_of_le (by omega)
        rw [hy0, Nat.add_zero] at HR HS HQ HT
        clear hy hy0
        generalize xs.getD k 0 = x at *
        go_wp2_with fail
        rw [show ((b : Int) + x) % 4294967296 = (((b + x) % 4294967296 : Nat) : Int) by omega,
          show ((b : Int) + x) / 4294967296 = (((b + x) / 4294967296 : Nat) : Int) by omega]
        exact ⟨⟨k + 1, _, _, by omega, by go_num, rfl, by omega, ⟨by simp [HN.out], HQ.out, HS.out, HT.out, HR.out⟩, (by repeat (first | exact Ext.refl _ | assumption | refine Ext.pdrewN ?_ _ | refine Ext.pdrew ?_ | refine Ext.palloc ?_ _ | refine Ext.pset ?_ (by simp <;> omega) _ | refine Ext.trans ?_ (by assumption)))⟩, by simp [intOf]; omega⟩
    · obtain rfl : k = xs.length := by omega
      obtain ⟨z1, z2, z3, z4, z5⟩ := HZ.out
      have g2 := z3.cell (k := xs.length) (by omega)
      have g3 := z3.frozen xs.length
      rw [z4] at g2
      have hv : val (zs.set xs.length b) = val xs + val ys := by
        have h1 := val_set (xs := zs) (j := xs.length) (by omega) b
        have h2 := val_split zs xs.length (by omega)
        rw [val_drop zs (by omega), List.drop_of_length_le (by omega), z4] at h2
        rw [List.take_length, List.take_of_length_le hmn] at z5
        rw [z4] at h1
        simp [val] at h2
        omega
      have z2' : Limb (zs.set xs.length b) := limb_set z2 (by omega)
      have hW := (z3.set_ xs.length b).words z2' (c := xs.length + 1) (by simp; omega) (by omega)
      have hl' : (zs.set xs.length b).length = xs.length + 1 := by simp [z1]
      rw [hl'] at hW
      have hT := ref01_trim hW
      have TW := hW.trim
      rw [trimL_eq_limbs z2', hv] at TW hT
      have HT := Lib.hid hT
      have TW' := Lib.hid TW
      clear hW z1 z2 z3 z4 z5 TW hv z2' hT
      go_wp2_with fail
      refine HT.out.mono ?_
      rintro e w' ⟨rfl, rfl⟩
      go_wp2_with fail
      go_ret
      exact ⟨_, rfl, ⟨FreshV.mk _ (Nat.le_refl _), TW'.out⟩, (by repeat (first | exact Ext.refl _ | assumption | refine Ext.pdrewN ?_ _ | refine Ext.pdrew ?_ | refine Ext.palloc ?_ _ | refine Ext.pset ?_ (by simp <;> omega) _ | refine Ext.trans ?_ (by assumption)))⟩

set_option maxHeartbeats 1600000 in
theorem ref01_plus_lt {A A' : Option Addr} {n m c c' : Nat} {xs ys : List Nat} {w : World} (h : Words w (.slice A n c) xs) (h' : Words w (.slice A' m c') ys) (hmn : m < n) (hn : n < 35184372088832) :
    Calls Tryz.prog 244 #[.slice A' m c', .slice A n c] w (Ret w fun v w' => FreshV w.heap.size v ∧ Words w' v (limbs (val xs + val ys))) := by
  obtain ⟨rfl, hl, hm⟩ := h.len
  obtain ⟨rfl, hl', hm'⟩ := h'.len
  have hL := h.limb
  have hL' := h'.limb
  have H := Lib.hid h
  have H' := Lib.hid h'
  clear h h'
  have hmk := mk_words (xs.length + 1) (by omega)
  simp only [Int.natCast_add, Int.cast_ofNat_Int] at hmk
  have hmn : ys.length ≤ xs.length := by omega
  go_enter Tryz.func244, Tryz.ntmps244
  go_wp2_with fail
  go_loopw [6, 7] (fun r i wr => ∃ (k b : Nat) (zs : List Nat), k ≤ xs.length ∧ i = .int .i64 (k : Int) ∧ r = .int .u64 (b : Int) ∧ b ≤ 1 ∧ Hid (zs.length = xs.length + 1 ∧ Limb zs ∧ Row wr w.heap.size zs ∧ zs.getD xs.length 0 = 0 ∧ val (zs.take k) + 4294967296 ^ k * b = val (xs.take k) + val (ys.take k)) ∧ Ext w wr) (fun _ i _ => xs.length - (intOf i).toNat)
  case atStart =>
    exact ⟨0, 0, List.replicate (xs.length + 1) 0, by omega, rfl, rfl, by omega, ⟨by simp, limb_replicate _, Row.made _ _, getD_replicate _ _, by simp [val]⟩, (by repeat (first | exact Ext.refl _ | assumption | refine Ext.pdrewN ?_ _ | refine Ext.pdrew ?_ | refine Ext.palloc ?_ _ | refine Ext.pset ?_ (by simp <;> omega) _ | refine Ext.trans ?_ (by assumption)))⟩
  case round =>
    obtain ⟨k, b, zs, hk, rfl, rfl, hb1, HZ, hE⟩ := hrel
    by_cases hk0 : k < xs.length
    · obtain ⟨bb, off, rfl, hb, -, hcell⟩ := (H.out.ext hE).at_ (k := k) (by omega)
      have g1 := hcell k (by omega)
      have g2 := HZ.out.2.2.1.cell (k := k) (by have := HZ.out.1; omega)
      have g3 := HZ.out.2.2.1.frozen k
      have hx := hL.getD k
      have hy := hL'.getD k
      clear hcell
      obtain ⟨z1, z2, z3, z4, z5⟩ := HZ.out
      have HR := Lib.hid (plus_round (by omega) z5)
      have HS := Lib.hid (z3.set_ k ((b + xs.getD k 0 + ys.getD k 0) % 4294967296))
      have HQ : Hid (Limb (zs.set k ((b + xs.getD k 0 + ys.getD k 0) % 4294967296))) := limb_set z2 (Nat.mod_lt _ (by omega))
      have HN := Lib.hid z1
      have HT : Hid ((zs.set k ((b + xs.getD k 0 + ys.getD k 0) % 4294967296)).getD xs.length 0 = 0) := by show _ = _; rw [getD_set_ne (by omega)]; exact z4
      clear z1 z2 z3 z4 z5
      by_cases hk1 : k < ys.length
      · obtain ⟨bb', off', rfl, hb', -, hcell'⟩ := (H'.out.ext hE).at_ (k := k) (by omega)
        have g4 := hcell' k (by omega)
        clear hcell'
        generalize xs.getD k 0 = x at *
        generalize ys.getD k 0 = y at *
        go_wp2_with fail
        rw [show ((b : Int) + x + y) % 4294967296 = (((b + x + y) % 4294967296 : Nat) : Int) by omega,
          show ((b : Int) + x + y) / 4294967296 = (((b + x + y) / 4294967296 : Nat) : Int) by omega]
        exact ⟨⟨k + 1, _, _, by omega, by go_num, rfl, by omega, ⟨by simp [HN.out], HQ.out, HS.out, HT.out, HR.out⟩, (by repeat (first | exact Ext.refl _ | assumption | refine Ext.pdrewN ?_ _ | refine Ext.pdrew ?_ | refine Ext.palloc ?_ _ | refine Ext.pset ?_ (by simp <;> omega) _ | refine Ext.trans ?_ (by assumption)))⟩, by simp [intOf]; omega⟩
      · have hy0 : ys.getD k 0 = 0 := getD_of_le (by omega)
        rw [hy0, Nat.add_zero] at HR HS HQ HT
        clear hy hy0
        generalize xs.getD k 0 = x at *
        go_wp2_with fail
        rw [show ((b : Int) + x) % 4294967296 = (((b + x) % 4294967296 : Nat) : Int) by omega,
          show ((b : Int) + x) / 4294967296 = (((b + x) / 4294967296 : Nat) : Int) by omega]
        exact ⟨⟨k + 1, _, _, by omega, by go_num, rfl, by omega, ⟨by simp [HN.out], HQ.out, HS.out, HT.out, HR.out⟩, (by repeat (first | exact Ext.refl _ | assumption | refine Ext.pdrewN ?_ _ | refine Ext.pdrew ?_ | refine Ext.palloc ?_ _ | refine Ext.pset ?_ (by simp <;> omega) _ | refine Ext.trans ?_ (by assumption)))⟩, by simp [intOf]; omega⟩
    · obtain rfl : k = xs.length := by omega
      obtain ⟨z1, z2, z3, z4, z5⟩ := HZ.out
      have g2 := z3.cell (k := xs.length) (by omega)
      have g3 := z3.frozen xs.length
      rw [z4] at g2
      have hv : val (zs.set xs.length b) = val xs + val ys := by
        have h1 := val_set (xs := zs) (j := xs.length) (by omega) b
        have h2 := val_split zs xs.length (by omega)
        rw [val_drop zs (by omega), List.drop_of_length_le (by omega), z4] at h2
        rw [List.take_length, List.take_of_length_le hmn] at z5
        rw [z4] at h1
        simp [val] at h2
        omega
      have z2' : Limb (zs.set xs.length b) := limb_set z2 (by omega)
      have hW := (z3.set_ xs.length b).words z2' (c := xs.length + 1) (by simp; omega) (by omega)
      have hl' : (zs.set xs.length b).length = xs.length + 1 := by simp [z1]
      rw [hl'] at hW
      have hT := ref01_trim hW
      have TW := hW.trim
      rw [trimL_eq_limbs z2', hv] at TW hT
      have HT := Lib.hid hT
      have TW' := Lib.hid TW
      clear hW z1 z2 z3 z4 z5 TW hv z2' hT
      go_wp2_with fail
      refine HT.out.mono ?_
      rintro e w' ⟨rfl, rfl⟩
      go_wp2_with fail
      go_ret
      exact ⟨_, rfl, ⟨FreshV.mk _ (Nat.le_refl _), TW'.out⟩, (by repeat (first | exact Ext.refl _ | assumption | refine Ext.pdrewN ?_ _ | refine Ext.pdrew ?_ | refine Ext.palloc ?_ _ | refine Ext.pset ?_ (by simp <;> omega) _ | refine Ext.trans ?_ (by assumption)))⟩

theorem ref01_plus {A A' : Option Addr} {n m c c' : Nat} {xs ys : List Nat} {w : World} (h : Words w (.slice A n c) xs) (h' : Words w (.slice A' m c') ys) (hn : n < 35184372088832) (hm : m < 35184372088832) :
    Calls Tryz.prog 244 #[.slice A n c, .slice A' m c'] w (Ret w fun v w' => FreshV w.heap.size v ∧ Words w' v (limbs (val xs + val ys))) := by
  rcases Nat.lt_or_ge n m with h1 | h1
  · rw [Nat.add_comm]; exact ref01_plus_lt h' h h1 hm
  · exact ref01_plus_ge h h' h1 hn

end Go.Proofs.YtonleohlplkglaaGreatDoor
