/- Contracts: back, minus, plus. -/
import Derived.Test.YtonleohlplkglaaGreatDoorTd
namespace Go.Proofs.YtonleohlplkglaaGreatDoor
open Go Go.RowKit

theorem back_next {xs zs : List Nat} {s k v : Nat} (hk : k < zs.length) (h : ∀ j, j < k → zs.getD j 0 = backAt xs s j) (hv : backAt xs s k = v) : ∀ j, j < k + 1 → (zs.set k v).getD j 0 = backAt xs s j := by
  intro j hj
  by_cases e : j = k
  · subst e; rw [getD_set_self hk, hv]
  · rw [getD_set_ne (by omega)]; exact h j (by omega)

set_option maxHeartbeats 800000 in
theorem ref01_back {A : Option Addr} {n c s : Nat} {xs : List Nat} {w : World} (h : Words w (.slice A n c) xs) (hs : s < 32) :
    Calls Tryz.prog 174 #[.slice A n c, .int .i64 (s : Int)] w (Ret w fun v w' => Words w' v (limbs (val xs / 2 ^ s))) := by
  obtain ⟨rfl, hl, hm⟩ := h.len
  have hL := h.limb
  have H := Lib.hid h
  clear h
  have hmk := mk_words xs.length (by omega)
  go_enter Tryz.func174, Tryz.ntmps174
  go_wp2_with fail
  go_loopw [6] (fun i wr => ∃ (k : Nat) (zs : List Nat), k ≤ xs.length ∧ i = .int .i64 (k : Int) ∧ Hid (zs.length = xs.length ∧ Row wr w.heap.size zs ∧ ∀ j, j < k → zs.getD j 0 = backAt xs s j) ∧ Ext w wr) (fun i _ => xs.length - (intOf i).toNat)
  case atStart =>
    exact ⟨0, List.replicate xs.length 0, by omega, rfl, ⟨by simp, Row.made _ _, fun j hj => absurd hj (by omega)⟩, (by repeat (first | exact Ext.refl _ | assumption | refine Ext.pdrewN ?_ _ | refine Ext.pdrew ?_ | refine Ext.palloc ?_ _ | refine Ext.pset ?_ (by simp <;> omega) _ | refine Ext.trans ?_ (by assumption)))⟩
  case round =>
    obtain ⟨k, zs, hk, rfl, HZ, hE⟩ := hrel
    by_cases hk0 : k < xs.length
    · obtain ⟨b, off, rfl, hb, -, hcell⟩ := (H.out.ext hE).at_ (k := k) (by omega)
      have g1 := hcell k (by omega)
      have g2 := HZ.out.2.1.cell (k := k) (by have := HZ.out.1; omega)
      have g3 := HZ.out.2.1.frozen k
      have hx := hL.getD k
      have hx2 := hL.getD (k + 1)
      have HB : Hid (backAt xs s k = ((xs.getD k 0 + 4294967296 * xs.getD (k + 1) 0) / 2 ^ s) % 4294967296) := rfl
      have HN : Hid (xs.length ≤ k + 1 → xs.getD (k + 1) 0 = 0) := fun h => getD_of_le h
      by_cases hk1 : k + 1 < xs.length
      · have g4 := hcell (k + 1) (by omega)
        clear hcell
        generalize xs.getD k 0 = x at *
        generalize xs.getD (k + 1) 0 = y at *
        go_wp2
        rw [u64_or_lo _ _ hx2 hx, div_pow_cast]
        obtain ⟨z1, z2, z3⟩ := HZ.out
        exact ⟨⟨k + 1, _, by omega, by go_num, ⟨by simp [z1], z2.set_ _ _, back_next (by omega) z3 HB.out⟩, (by repeat (first | exact Ext.refl _ | assumption | refine Ext.pdrewN ?_ _ | refine Ext.pdrew ?_ | refine Ext.palloc ?_ _ | refine Ext.pset ?_ (by simp <;> omega) _ | refine Ext.trans ?_ (by assumption)))⟩, by simp [intOf]; omega⟩
      · clear hcell
        have h0 := HN.out (by omega)
        rw [h0, Nat.mul_zero, Nat.add_zero] at HB
        clear hx2 h0 HN
        generalize xs.getD k 0 = x at *
        go_wp2
        rw [div_pow_cast]
        obtain ⟨z1, z2, z3⟩ := HZ.out
        exact ⟨⟨k + 1, _, by omega, by go_num, ⟨by simp [z1], z2.set_ _ _, back_next (by omega) z3 HB.out⟩, (by repeat (first | exact Ext.refl _ | assumption | refine Ext.pdrewN ?_ _ | refine Ext.pdrew ?_ | refine Ext.palloc ?_ _ | refine Ext.pset ?_ (by simp <;> omega) _ | refine Ext.trans ?_ (by assumption)))⟩, by simp [intOf]; omega⟩
    · obtain rfl : k = xs.length := by omega
      obtain ⟨z1, z2, z3⟩ := HZ.out
      have e : zs = backL s xs := ext_getD (by rw [z1, backL_length]) fun j hj => by rw [z3 j (by omega), backL_getD s xs j (by omega)]
      have zL : Limb zs := by rw [e]; exact limb_backL _ _
      have hW := z2.words zL (c := xs.length) (by omega) (by omega)
      rw [z1] at hW
      have HT := Lib.hid (ref01_trim hW)
      have TW := hW.trim
      rw [trimL_eq_limbs zL, e, val_backL hs hL] at TW
      have TW' := Lib.hid TW
      rw [trimL_eq_limbs zL, e, val_backL hs hL] at HT
      clear hW e zL z1 z2 z3 TW
      go_wp2_with fail
      refine HT.out.mono ?_
      rintro e w' ⟨rfl, rfl⟩
      go_wp2_with fail
      go_ret
      exact ⟨_, rfl, TW'.out, (by repeat (first | exact Ext.refl _ | assumption | refine Ext.pdrewN ?_ _ | refine Ext.pdrew ?_ | refine Ext.palloc ?_ _ | refine Ext.pset ?_ (by simp <;> omega) _ | refine Ext.trans ?_ (by assumption)))⟩

/-- What the difference's loop keeps: the words so far, the borrow. -/
theorem minus_step {X Y B x y b d : Nat} {o : Nat} (hx : x < 4294967296) (hy : y < 4294967296) (hb : b ≤ 1) (hd : d = x + 4294967296 - y - b) (ho : o = d % 4294967296) {Z : Nat} (h : Z + Y = X + B * b) :
    Z + B * o + (Y + B * y) = X + B * x + B * 4294967296 * (1 - d / 4294967296) ∧ 1 - d / 4294967296 ≤ 1 := by
  have e : o + y + b = x + 4294967296 * (1 - d / 4294967296) := by omega
  have e2 := congrArg (B * ·) e
  simp only [Nat.mul_add] at e2
  refine ⟨?_, by omega⟩
  rw [Nat.mul_assoc]
  omega

theorem minus_round {xs ys zs : List Nat} {k b : Nat} (hk : k < zs.length) (hx : xs.getD k 0 < 4294967296) (hy : ys.getD k 0 < 4294967296) (hb : b ≤ 1) (h : val (zs.take k) + val (ys.take k) = val (xs.take k) + 4294967296 ^ k * b) :
    val ((zs.set k ((xs.getD k 0 + 4294967296 - ys.getD k 0 - b) % 4294967296)).take (k + 1)) + val (ys.take (k + 1)) = val (xs.take (k + 1)) + 4294967296 ^ (k + 1) * (1 - (xs.getD k 0 + 4294967296 - ys.getD k 0 - b) / 4294967296) := by
  rw [limb_take_set hk, val_take_next, val_take_next, Nat.pow_succ]
  exact (minus_step hx hy hb rfl rfl h).1

set_option maxHeartbeats 800000 in
theorem ref01_minus {A A' : Option Addr} {n m c c' : Nat} {xs ys : List Nat} {w : World} (h : Words w (.slice A n c) xs) (h' : Words w (.slice A' m c') ys) (hle : val ys ≤ val xs) (hmn : m ≤ n) :
    Calls Tryz.prog 173 #[.slice A n c, .slice A' m c'] w (Ret w fun v w' => FreshV w.heap.size v ∧ Words w' v (limbs (val xs - val ys))) := by
  obtain ⟨rfl, hl, hm⟩ := h.len
  obtain ⟨rfl, hl', hm'⟩ := h'.len
  have hL := h.limb
  have hL' := h'.limb
  have H := Lib.hid h
  have H' := Lib.hid h'
  have HLE := Lib.hid hle
  clear h h' hle
  have hmk := mk_words xs.length (by omega)
  go_enter Tryz.func173, Tryz.ntmps173
  go_wp2_with fail
  go_loopw [6, 7] (fun r i wr => ∃ (k b : Nat) (zs : List Nat), k ≤ xs.length ∧ i = .int .i64 (k : Int) ∧ r = .int .u64 (b : Int) ∧ b ≤ 1 ∧ Hid (zs.length = xs.length ∧ Limb zs ∧ Row wr w.heap.size zs ∧ val (zs.take k) + val (ys.take k) = val (xs.take k) + 4294967296 ^ k * b) ∧ Ext w wr) (fun _ i _ => xs.length - (intOf i).toNat)
  case atStart =>
    exact ⟨0, 0, List.replicate xs.length 0, by omega, rfl, rfl, by omega, ⟨by simp, limb_replicate _, Row.made _ _, by simp [val]⟩, (by repeat (first | exact Ext.refl _ | assumption | refine Ext.pdrewN ?_ _ | refine Ext.pdrew ?_ | refine Ext.palloc ?_ _ | refine Ext.pset ?_ (by simp <;> omega) _ | refine Ext.trans ?_ (by assumption)))⟩
  case round =>
    obtain ⟨k, b, zs, hk, rfl, rfl, hb1, HZ, hE⟩ := hrel
    by_cases hk0 : k < xs.length
    · obtain ⟨bb, off, rfl, hb, -, hcell⟩ := (H.out.ext hE).at_ (k := k) (by omega)
      have g1 := hcell k (by omega)
      have g2 := HZ.out.2.2.1.cell (k := k) (by have := HZ.out.1; omega)
      have g3 := HZ.out.2.2.1.frozen k
      have hx := hL.getD k
      have hy := hL'.getD k
      clear hcell
      by_cases hk1 : k < ys.length
      · obtain ⟨bb', off', rfl, hb', -, hcell'⟩ := (H'.out.ext hE).at_ (k := k) (by omega)
        have g4 := hcell' k (by omega)
        clear hcell'
        obtain ⟨z1, z2, z3, z4⟩ := HZ.out
        have HR := Lib.hid (minus_round (by omega) hx hy hb1 z4)
        have HS := Lib.hid (z3.set_ k ((xs.getD k 0 + 4294967296 - ys.getD k 0 - b) % 4294967296))
        have HQ : Hid (Limb (zs.set k ((xs.getD k 0 + 4294967296 - ys.getD k 0 - b) % 4294967296))) := limb_set z2 (Nat.mod_lt _ (by omega))
        have HN := Lib.hid z1
        clear z1 z2 z3 z4
        generalize xs.getD k 0 = x at *
        generalize ys.getD k 0 = y at *
        go_wp2
        rw [show ((x : Int) + 4294967296 - y - b) % 4294967296 = (((x + 4294967296 - y - b) % 4294967296 : Nat) : Int) by omega,
          show (1 : Int) - ((x : Int) + 4294967296 - y - b) / 4294967296 = ((1 - (x + 4294967296 - y - b) / 4294967296 : Nat) : Int) by omega]
        exact ⟨⟨k + 1, _, _, by omega, by go_num, rfl, by omega, ⟨by simp [HN.out], HQ.out, HS.out, HR.out⟩, (by repeat (first | exact Ext.refl _ | assumption | refine Ext.pdrewN ?_ _ | refine Ext.pdrew ?_ | refine Ext.palloc ?_ _ | refine Ext.pset ?_ (by simp <;> omega) _ | refine Ext.trans ?_ (by assumption)))⟩, by simp [intOf]; omega⟩
      · obtain ⟨z1, z2, z3, z4⟩ := HZ.out
        have hy0 : ys.getD k 0 = 0 := getD_of_le (by omega)
        have HR' := minus_round (zs := zs) (by omega) hx hy hb1 z4
        rw [hy0, Nat.sub_zero] at HR'
        have HR := Lib.hid HR'
        have HS := Lib.hid (z3.set_ k ((xs.getD k 0 + 4294967296 - b) % 4294967296))
        have HQ : Hid (Limb (zs.set k ((xs.getD k 0 + 4294967296 - b) % 4294967296))) := limb_set z2 (Nat.mod_lt _ (by omega))
        have HN := Lib.hid z1
        clear z1 z2 z3 z4 HR' hy0 hy
        generalize xs.getD k 0 = x at *
        go_wp2
        rw [show ((x : Int) + 4294967296 - b) % 4294967296 = (((x + 4294967296 - b) % 4294967296 : Nat) : Int) by omega,
          show (1 : Int) - ((x : Int) + 4294967296 - b) / 4294967296 = ((1 - (x + 4294967296 - b) / 4294967296 : Nat) : Int) by omega]
        exact ⟨⟨k + 1, _, _, by omega, by go_num, rfl, by omega, ⟨by simp [HN.out], HQ.out, HS.out, HR.out⟩, (by repeat (first | exact Ext.refl _ | assumption | refine Ext.pdrewN ?_ _ | refine Ext.pdrew ?_ | refine Ext.palloc ?_ _ | refine Ext.pset ?_ (by simp <;> omega) _ | refine Ext.trans ?_ (by assumption)))⟩, by simp [intOf]; omega⟩
    · obtain rfl : k = xs.length := by omega
      obtain ⟨z1, z2, z3, z4⟩ := HZ.out
      rw [List.take_of_length_le (by omega), List.take_of_length_le hmn, List.take_length] at z4
      have hlt := val_lt z2
      rw [z1] at hlt
      have hle := HLE.out
      have hb0 : b = 0 := by
        rcases Nat.lt_or_ge 0 b with h1 | h1
        · obtain rfl : b = 1 := by omega
          omega
        · omega
      rw [hb0, Nat.mul_zero] at z4
      have hv : val zs = val xs - val ys := by omega
      have hW := z3.words z2 (c := xs.length) (by omega) (by omega)
      rw [z1] at hW
      have HT := Lib.hid (ref01_trim hW)
      have TW := hW.trim
      rw [trimL_eq_limbs z2, hv] at TW
      have TW' := Lib.hid TW
      rw [trimL_eq_limbs z2, hv] at HT
      clear hW z1 z2 z3 z4 TW hlt hle hb0 hv
      go_wp2_with fail
      refine HT.out.mono ?_
      rintro e w' ⟨rfl, rfl⟩
      go_wp2_with fail
      go_ret
      exact ⟨_, rfl, ⟨FreshV.mk _ (Nat.le_refl _), TW'.out⟩, (by repeat (first | exact Ext.refl _ | assumption | refine Ext.pdrewN ?_ _ | refine Ext.pdrew ?_ | refine Ext.palloc ?_ _ | refine Ext.pset ?_ (by simp <;> omega) _ | refine Ext.trans ?_ (by assumption)))⟩

end Go.Proofs.YtonleohlplkglaaGreatDoor
