/- Contracts: times. -/
import Derived.Test.YtonleohlplkglaaGreatDoorTe
namespace Go.Proofs.YtonleohlplkglaaGreatDoor
open Go Go.RowKit

theorem times_bound {c o x y : Nat} (hc : c < 4294967296) (ho : o < 4294967296) (hx : x < 4294967296) (hy : y < 4294967296) : x * y ≤ 18446744065119617025 ∧ c + o + x * y < 18446744073709551616 := by
  have h : x * y ≤ 4294967295 * 4294967295 := Nat.mul_le_mul (by omega) (by omega)
  omega

theorem times_inner {zs ys : List Nat} {i k c x T : Nat} (hk : i + k < zs.length) (h : val zs + 4294967296 ^ (i + k) * c = T + 4294967296 ^ i * x * val (ys.take k)) :
    val (zs.set (i + k) ((c + zs.getD (i + k) 0 + x * ys.getD k 0) % 4294967296)) + 4294967296 ^ (i + (k + 1)) * ((c + zs.getD (i + k) 0 + x * ys.getD k 0) / 4294967296) = T + 4294967296 ^ i * x * val (ys.take (k + 1)) := by
  have h1 := val_set hk ((c + zs.getD (i + k) 0 + x * ys.getD k 0) % 4294967296)
  rw [val_take_next, Nat.mul_add, ← Nat.add_assoc T, ← h]
  have e : 4294967296 ^ i * x * (4294967296 ^ k * ys.getD k 0) = 4294967296 ^ (i + k) * (x * ys.getD k 0) := by
    rw [Nat.pow_add]
    rw [Nat.mul_assoc, Nat.mul_assoc, Nat.mul_left_comm x]
  rw [e, show i + (k + 1) = i + k + 1 by omega, Nat.pow_succ]
  generalize 4294967296 ^ (i + k) = B at *
  generalize x * ys.getD k 0 = p at *
  generalize zs.getD (i + k) 0 = o at *
  have e2 : B * ((c + o + p) % 4294967296) + B * 4294967296 * ((c + o + p) / 4294967296) = B * c + B * o + B * p := by
    rw [Nat.mul_assoc, ← Nat.mul_add, ← Nat.mul_add, ← Nat.mul_add]
    congr 1
    omega
  omega

theorem times_outer {zs xs ys : List Nat} {i c : Nat} (hi : i < xs.length) (hl : zs.length = xs.length + ys.length) (h0 : zs.getD (i + ys.length) 0 = 0)
    (h : val zs + 4294967296 ^ (i + ys.length) * c = val (xs.take i) * val ys + 4294967296 ^ i * xs.getD i 0 * val (ys.take ys.length)) :
    val (zs.set (i + ys.length) c) = val (xs.take (i + 1)) * val ys := by
  have h1 := val_set (xs := zs) (j := i + ys.length) (by omega) c
  rw [h0, Nat.mul_zero, Nat.add_zero, h, List.take_length] at h1
  rw [h1, val_take_succ xs hi, Nat.add_mul]

set_option maxHeartbeats 1600000 in
theorem ref01_times {A A' : Option Addr} {n m c c' : Nat} {xs ys : List Nat} {w : World} (h : Words w (.slice A n c) xs) (h' : Words w (.slice A' m c') ys) (hsz : n + m ≤ 35184372088832) :
    Calls Tryz.prog 190 #[.slice A n c, .slice A' m c'] w (Ret w fun v w' => FreshV w.heap.size v ∧ Words w' v (limbs (val xs * val ys))) := by
  obtain ⟨rfl, hl, hm⟩ := h.len
  obtain ⟨rfl, hl', hm'⟩ := h'.len
  have hL := h.limb
  have hL' := h'.limb
  have H := Lib.hid h
  have H' := Lib.hid h'
  clear h h'
  have hmk := mk_words (xs.length + ys.length) (by omega)
  simp only [Int.natCast_add] at hmk
  go_enter Tryz.func190, Tryz.ntmps190
  go_wp2_with fail
  go_loopw [6] (fun i wr => ∃ (k : Nat) (zs : List Nat), k ≤ xs.length ∧ i = .int .i64 (k : Int) ∧ Hid (zs.length = xs.length + ys.length ∧ Limb zs ∧ Row wr w.heap.size zs ∧ (∀ j, k + ys.length ≤ j → zs.getD j 0 = 0) ∧ val zs = val (xs.take k) * val ys) ∧ Ext w wr) (fun i _ => xs.length - (intOf i).toNat)
  case atStart =>
    exact ⟨0, List.replicate (xs.length + ys.length) 0, by omega, rfl, ⟨by simp, limb_replicate _, Row.made _ _, fun j _ => getD_replicate _ _, by rw [val_replicate]; simp [val]⟩, (by repeat (first | exact Ext.refl _ | assumption | refine Ext.pdrewN ?_ _ | refine Ext.pdrew ?_ | refine Ext.palloc ?_ _ | refine Ext.pset ?_ (by simp <;> omega) _ | refine Ext.trans ?_ (by assumption)))⟩
  case round =>
    obtain ⟨i, zs, hi, rfl, HZ, hE⟩ := hrel
    obtain ⟨wo, rfl⟩ : ∃ wo : World, wo = wr := ⟨_, rfl⟩
    by_cases hi0 : i < xs.length
    · obtain ⟨b, off, rfl, hb, -, hcell⟩ := (H.out.ext hE).at_ (k := i) (by omega)
      have hx := hL.getD i
      have HC := Lib.hid (hcell i (by omega))
      clear hcell
      go_wp2_with fail
      go_loopw [7, 8] (fun r i' wr => ∃ (k cc : Nat) (zs : List Nat), k ≤ ys.length ∧ i' = .int .i64 (k : Int) ∧ r = .int .u64 (cc : Int) ∧ cc < 4294967296 ∧ Hid (zs.length = xs.length + ys.length ∧ Limb zs ∧ Row wr w.heap.size zs ∧ (∀ j, i + ys.length ≤ j → zs.getD j 0 = 0) ∧ val zs + 4294967296 ^ (i + k) * cc = val (xs.take i) * val ys + 4294967296 ^ i * xs.getD i 0 * val (ys.take k)) ∧ Ext w wr) (fun _ i' _ => ys.length - (intOf i').toNat)
      case atStart =>
        obtain ⟨z1, z2, z3, z4, z5⟩ := HZ.out
        exact ⟨0, 0, zs, by omega, rfl, rfl, by omega, ⟨z1, z2, z3, z4, by rw [z5]; simp [val]⟩, hE⟩
      case round =>
        obtain ⟨k, cc, zs', hk, rfl, rfl, hcc, HZ', hE'⟩ := hrel
        by_cases hk0 : k < ys.length
        · obtain ⟨b', off', rfl, hb', -, hcell'⟩ := (H'.out.ext hE').at_ (k := k) (by omega)
          have g1 : wr.cell? ⟨b, off + i, none⟩ = some (.int .u32 ((xs.getD i 0 : Nat) : Int)) := by
            obtain ⟨b2, off2, e, _, _, hc2⟩ := (H.out.ext hE').at_ (k := i) (by omega)
            obtain ⟨rfl, rfl⟩ : b = b2 ∧ off = off2 := by injection e with e; injection e with e1 e2; exact ⟨e1, e2⟩
            exact hc2 i (by omega)
          have g2 := hcell' k (by omega)
          have g3 := HZ'.out.2.2.1.cell (k := i + k) (by have := HZ'.out.1; omega)
          have g4 := HZ'.out.2.2.1.frozen (i + k)
          have hy := hL'.getD k
          have hz := HZ'.out.2.1.getD (i + k)
          clear hcell'
          obtain ⟨z1, z2, z3, z4, z5⟩ := HZ'.out
          have HR := Lib.hid (times_inner (by omega) z5)
          have HS := Lib.hid (z3.set_ (i + k) ((cc + zs'.getD (i + k) 0 + xs.getD i 0 * ys.getD k 0) % 4294967296))
          have HQ : Hid (Limb (zs'.set (i + k) ((cc + zs'.getD (i + k) 0 + xs.getD i 0 * ys.getD k 0) % 4294967296))) := limb_set z2 (Nat.mod_lt _ (by omega))
          have HN := Lib.hid z1
          have HF : Hid (∀ j, i + ys.length ≤ j → (zs'.set (i + k) ((cc + zs'.getD (i + k) 0 + xs.getD i 0 * ys.getD k 0) % 4294967296)).getD j 0 = 0) := fun j hj => by rw [getD_set_ne (by omega)]; exact z4 j hj
          obtain ⟨b1, b2⟩ := times_bound hcc hz hx hy
          have hp0 : (0 : Int) ≤ (xs.getD i 0 : Int) * (ys.getD k 0 : Int) := Int.mul_nonneg (Int.natCast_nonneg _) (Int.natCast_nonneg _)
          clear z1 z2 z3 z4 z5
          generalize xs.getD i 0 = x at *
          generalize ys.getD k 0 = y at *
          generalize zs'.getD (i + k) 0 = z at *
          go_wp2
          go_quiet (fail)
          go_wp2
          rw [show ((cc : Int) + z + x * y) % 4294967296 = (((cc + z + x * y) % 4294967296 : Nat) : Int) by rw [Int.natCast_emod, Int.natCast_add, Int.natCast_add, Int.natCast_mul]; rfl,
            show ((cc : Int) + z + x * y) / 4294967296 = (((cc + z + x * y) / 4294967296 : Nat) : Int) by rw [Int.natCast_ediv, Int.natCast_add, Int.natCast_add, Int.natCast_mul]; rfl]
          exact ⟨⟨k + 1, _, _, by omega, by go_num, rfl, by omega, ⟨by simp [HN.out], HQ.out, HS.out, HF.out, HR.out⟩, (by repeat (first | exact Ext.refl _ | assumption | refine Ext.pdrewN ?_ _ | refine Ext.pdrew ?_ | refine Ext.palloc ?_ _ | refine Ext.pset ?_ (by simp <;> omega) _ | refine Ext.trans ?_ (by assumption)))⟩, by simp [intOf]; omega⟩
        · obtain rfl : k = ys.length := by omega
          obtain ⟨z1, z2, z3, z4, z5⟩ := HZ'.out
          have g3 := z3.cell (k := i + ys.length) (by omega)
          have g4 := z3.frozen (i + ys.length)
          have HR := Lib.hid (times_outer hi0 z1 (z4 _ (Nat.le_refl _)) z5)
          have HS := Lib.hid (z3.set_ (i + ys.length) cc)
          have HQ : Hid (Limb (zs'.set (i + ys.length) cc)) := limb_set z2 hcc
          have HN := Lib.hid z1
          have HF : Hid (∀ j, i + 1 + ys.length ≤ j → (zs'.set (i + ys.length) cc).getD j 0 = 0) := fun j hj => by rw [getD_set_ne (by omega)]; exact z4 j (by omega)
          clear z1 z2 z3 z4 z5
          generalize zs'.getD (i + ys.length) 0 = z at *
          go_wp2
          exact ⟨⟨i + 1, _, by omega, by go_num, ⟨by simp [HN.out], HQ.out, HS.out, HF.out, HR.out⟩, (by repeat (first | exact Ext.refl _ | assumption | refine Ext.pdrewN ?_ _ | refine Ext.pdrew ?_ | refine Ext.palloc ?_ _ | refine Ext.pset ?_ (by simp <;> omega) _ | refine Ext.trans ?_ (by assumption)))⟩, by simp [intOf]; omega⟩
    · obtain rfl : i = xs.length := by omega
      obtain ⟨z1, z2, z3, z4, z5⟩ := HZ.out
      rw [List.take_length] at z5
      have hW := z3.words z2 (c := xs.length + ys.length) (by omega) (by omega)
      rw [z1] at hW
      have HT := Lib.hid (ref01_trim hW)
      have TW := hW.trim
      rw [trimL_eq_limbs z2, z5] at TW
      have TW' := Lib.hid TW
      rw [trimL_eq_limbs z2, z5] at HT
      clear hW z1 z2 z3 z4 z5 TW
      go_wp2_with fail
      refine HT.out.mono ?_
      rintro e w' ⟨rfl, rfl⟩
      go_wp2_with fail
      go_ret
      exact ⟨_, rfl, ⟨FreshV.mk _ (Nat.le_refl _), TW'.out⟩, (by repeat (first | exact Ext.refl _ | assumption | refine Ext.pdrewN ?_ _ | refine Ext.pdrew ?_ | refine Ext.palloc ?_ _ | refine Ext.pset ?_ (by simp <;> omega) _ | refine Ext.trans ?_ (by assumption)))⟩

end Go.Proofs.YtonleohlplkglaaGreatDoor
