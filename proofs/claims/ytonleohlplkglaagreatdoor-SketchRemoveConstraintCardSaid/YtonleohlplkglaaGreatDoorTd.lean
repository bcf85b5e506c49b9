/- Contracts: length, shifted, back, minus. -/
import Derived.Test.YtonleohlplkglaaGreatDoorTc
import Derived.Test.YtonleohlplkglaaGreatDoorNumB
namespace Go.Proofs.YtonleohlplkglaaGreatDoor
open Go Go.RowKit

def lenBits (xs : List Nat) : Nat := if xs.length = 0 then 0 else 32 * (xs.length - 1) + blen (xs.getD (xs.length - 1) 0)

set_option maxHeartbeats 400000 in
theorem ref01_length {A : Option Addr} {n c : Nat} {xs : List Nat} {w : World} (h : Words w (.slice A n c) xs) :
    Calls Tryz.prog 170 #[.slice A n c] w fun e w' => e = .returned (.int .i64 ((lenBits xs : Nat) : Int)) ∧ w = w' := by
  obtain ⟨rfl, hl, hm⟩ := h.len
  have hL := h.limb
  by_cases h0 : xs.length = 0
  · have h1 : ((xs.length : Int) == 0) = true := by simp [h0]
    have HB : Hid (lenBits xs = 0) := by show _ = _; simp [lenBits, h0]
    clear h0
    go_enter Tryz.func170, Tryz.ntmps170
    go_wp2
    go_ret
    exact ⟨by rw [HB.out]; rfl, rfl⟩
  · have h1 : ((xs.length : Int) == 0) = false := beq_eq_false_iff_ne.2 (by omega)
    obtain ⟨b, off, rfl, hb, -, hcell⟩ := h.at_ (k := xs.length - 1) (by omega)
    have g1 := hcell (xs.length - 1) (by omega)
    have hx := hL.getD (xs.length - 1)
    have HB : Hid (lenBits xs = 32 * (xs.length - 1) + blen (xs.getD (xs.length - 1) 0)) := by show _ = _; simp [lenBits, h0]
    clear hcell h
    generalize xs.getD (xs.length - 1) 0 = x at *
    obtain ⟨k, hk⟩ : ∃ k, xs.length = k + 1 := ⟨xs.length - 1, by omega⟩
    generalize xs.length = n at *
    subst hk
    simp only [Nat.add_sub_cancel] at *
    have hbl := blen_le (k := 32) (x := x) (by omega)
    go_enter Tryz.func170, Tryz.ntmps170
    go_wp2
    go_loop [3, 4] (fun n y => ∃ (i z : Nat), n = .int .i64 (i : Int) ∧ y = .int .u32 (z : Int) ∧ z < 4294967296 ∧ i ≤ 32 ∧ Hid (i + blen z = blen x)) (fun _ y => (intOf y).toNat)
    case atStart => exact ⟨0, x, rfl, rfl, hx, by omega, by show _ = _; omega⟩
    case round =>
      obtain ⟨i, z, rfl, rfl, hz, hi, HI⟩ := hrel
      by_cases hz0 : z = 0
      · subst hz0
        have hi2 : Hid (i = blen x) := by have := HI.out; rw [blen_zero] at this; exact this
        go_wp2
        go_ret
        exact ⟨by rw [HB.out, ← hi2.out]; go_num, rfl⟩
      · have h5 : 0 < z := by omega
        have h6 : Hid (i + 1 + blen (z / 2) = blen x) := by have := HI.out; rw [blen_pos hz0] at this; show _ = _; omega
        have h7 : i + 1 ≤ 32 := by have := h6.out; omega
        go_wp2
        exact ⟨⟨i + 1, z / 2, by go_num, by go_num, by omega, h7, h6.out⟩, by simp [intOf]; omega⟩

theorem shl_fits {x s : Nat} (hs : s < 32) (hx : x < 4294967296) : x * 2 ^ s < 18446744073709551616 := by
  have h1 : 2 ^ s ≤ 2 ^ 31 := Nat.pow_le_pow_right (by omega) (by omega)
  have h2 : x * 2 ^ s ≤ 4294967296 * 2 ^ 31 := Nat.mul_le_mul (by omega) h1
  omega
theorem shl_wrap {x s : Nat} (hs : s < 32) (hx : x < 4294967296) : IntKind.u64.wrap ((x : Int) * 2 ^ s) = ((x * 2 ^ s : Nat) : Int) := by
  have h := shl_fits hs hx
  have e : (x : Int) * 2 ^ s = ((x * 2 ^ s : Nat) : Int) := by rw [Int.natCast_mul, Int.natCast_pow]; rfl
  rw [e, IntKind.wrap_u64]
  generalize x * 2 ^ s = y at *
  omega
theorem shl_lo {x s : Nat} (hs : s < 32) (hx : x < 4294967296) : IntKind.u64.wrap ((x : Int) * 2 ^ s) % 4294967296 = ((x * 2 ^ s % 4294967296 : Nat) : Int) := by
  rw [shl_wrap hs hx]; rfl
theorem shl_hi {x s : Nat} (hs : s < 32) (hx : x < 4294967296) : IntKind.u64.wrap ((x : Int) * 2 ^ s) / 4294967296 % 4294967296 = ((x * 2 ^ s / 4294967296 : Nat) : Int) := by
  rw [shl_wrap hs hx]
  have h := shl_fits hs hx
  generalize x * 2 ^ s = y at *
  omega
theorem shl_bits {x s z : Nat} (hs : s < 32) (hx : x < 4294967296) (hz : z < 2 ^ s) :
    bits .or .u32 (z : Int) (IntKind.u64.wrap ((x : Int) * 2 ^ s) % 4294967296) = ((z + x * 2 ^ s % 4294967296 : Nat) : Int) := by
  have h1 : 2 ^ s ≤ 2 ^ 31 := Nat.pow_le_pow_right (by omega) (by omega)
  rw [shl_lo hs hx, u32_or_nat _ _ (by omega) (Nat.mod_lt _ (by omega)), shl_or hs hz]

theorem shl_round {xs zs : List Nat} {k s : Nat} (hs : s < 32) (hk : k < xs.length) (hx : xs.getD k 0 < 4294967296) (h1 : zs.length = xs.length + 1) (h2 : Limb zs) (h4 : zs.getD k 0 < 2 ^ s) (h5 : ∀ j, k < j → zs.getD j 0 = 0) (h6 : val (zs.take (k + 1)) = val (xs.take k) * 2 ^ s) :
    ((zs.set k (zs.getD k 0 + xs.getD k 0 * 2 ^ s % 4294967296)).set (k + 1) (xs.getD k 0 * 2 ^ s / 4294967296)).length = xs.length + 1 ∧
    Limb ((zs.set k (zs.getD k 0 + xs.getD k 0 * 2 ^ s % 4294967296)).set (k + 1) (xs.getD k 0 * 2 ^ s / 4294967296)) ∧
    ((zs.set k (zs.getD k 0 + xs.getD k 0 * 2 ^ s % 4294967296)).set (k + 1) (xs.getD k 0 * 2 ^ s / 4294967296)).getD (k + 1) 0 < 2 ^ s ∧
    (∀ j, k + 1 < j → ((zs.set k (zs.getD k 0 + xs.getD k 0 * 2 ^ s % 4294967296)).set (k + 1) (xs.getD k 0 * 2 ^ s / 4294967296)).getD j 0 = 0) ∧
    val (((zs.set k (zs.getD k 0 + xs.getD k 0 * 2 ^ s % 4294967296)).set (k + 1) (xs.getD k 0 * 2 ^ s / 4294967296)).take (k + 1 + 1)) = val (xs.take (k + 1)) * 2 ^ s := by
  obtain ⟨s1, s2, s3⟩ := shl_step hs hx h4
  have hq : 2 ^ s ≤ 2 ^ 31 := Nat.pow_le_pow_right (by omega) (by omega)
  refine ⟨by simp [h1], limb_set (limb_set h2 s1) (by omega), ?_, fun j hj => ?_, ?_⟩
  · rw [getD_set_self (by simp [h1]; omega)]; exact s2
  · rw [getD_set_ne (by omega), getD_set_ne (by omega)]; exact h5 j (by omega)
  · rw [limb_take_set (by simp [h1]; omega), limb_take_set (by omega), val_take_succ xs hk]
    rw [val_take_succ zs (by omega)] at h6
    rw [Nat.add_mul, ← h6, Nat.pow_succ]
    generalize 4294967296 ^ k = B at *
    generalize xs.getD k 0 = x at *
    generalize zs.getD k 0 = z at *
    have e : B * (z + x * 2 ^ s % 4294967296) + B * 4294967296 * (x * 2 ^ s / 4294967296) = B * (z + x * 2 ^ s) := by
      rw [Nat.mul_assoc, ← Nat.mul_add, s3]
    rw [Nat.add_assoc, e, Nat.mul_add, Nat.mul_assoc]
    omega

set_option maxHeartbeats 800000 in
theorem ref01_shifted {A : Option Addr} {n c s : Nat} {xs : List Nat} {w : World} (h : Words w (.slice A n c) xs) (hs : s < 32) (hn : n < 35184372088832) :
    Calls Tryz.prog 171 #[.slice A n c, .int .i64 (s : Int)] w (Ret w fun v w' => ∃ zs, v = .slice (some ⟨w.heap.size, 0, none⟩) (n + 1) (n + 1) ∧ Row w' w.heap.size zs ∧ Limb zs ∧ zs.length = n + 1 ∧ val zs = val xs * 2 ^ s) := by
  obtain ⟨rfl, hl, hm⟩ := h.len
  have hL := h.limb
  have H := Lib.hid h
  clear h
  have hmk := mk_words (xs.length + 1) (by omega)
  simp only [Int.natCast_add, Int.cast_ofNat_Int] at hmk
  have hp0 : 0 < 2 ^ s := Nat.pow_pos (by omega)
  have HP := Lib.hid hp0
  clear hp0
  go_enter Tryz.func171, Tryz.ntmps171
  go_wp2_with fail
  go_loopw [6] (fun i wr => ∃ (k : Nat) (zs : List Nat), k ≤ xs.length ∧ i = .int .i64 (k : Int) ∧ Hid (zs.length = xs.length + 1 ∧ Limb zs ∧ Row wr w.heap.size zs ∧ zs.getD k 0 < 2 ^ s ∧ (∀ j, k < j → zs.getD j 0 = 0) ∧ val (zs.take (k + 1)) = val (xs.take k) * 2 ^ s) ∧ Ext w wr) (fun i _ => xs.length - (intOf i).toNat)
  case atStart =>
    exact ⟨0, List.replicate (xs.length + 1) 0, by omega, rfl, ⟨by simp, limb_replicate _, Row.made _ _, by rw [getD_replicate]; exact HP.out, fun j _ => getD_replicate _ _, by simp [val, List.replicate_succ]⟩, (by repeat (first | exact Ext.refl _ | assumption | refine Ext.pdrewN ?_ _ | refine Ext.pdrew ?_ | refine Ext.palloc ?_ _ | refine Ext.pset ?_ (by simp <;> omega) _ | refine Ext.trans ?_ (by assumption)))⟩
  case round =>
    obtain ⟨k, zs, hk, rfl, HZ, hE⟩ := hrel
    by_cases hk0 : k < xs.length
    · obtain ⟨b, off, rfl, hb, -, hcell⟩ := (H.out.ext hE).at_ (k := k) (by omega)
      have g1 := hcell k (by omega)
      clear hcell
      have g2 := HZ.out.2.2.1.cell (k := k) (by have := HZ.out.1; omega)
      have g3 := HZ.out.2.2.1.frozen k
      have g4 := HZ.out.2.2.1.cell (k := k + 1) (by have := HZ.out.1; omega)
      have g5 := HZ.out.2.2.1.frozen (k + 1)
      have hx := hL.getD k
      have hz : zs.getD k 0 < 2 ^ s := HZ.out.2.2.2.1
      have HX := Lib.hid hx
      have HZ' := Lib.hid hz
      obtain ⟨z1, z2, z3, z4, z5, z6⟩ := HZ.out
      have HR := Lib.hid (shl_round hs hk0 hx z1 z2 z4 z5 z6)
      have HR2 := Lib.hid ((z3.set_ k (zs.getD k 0 + xs.getD k 0 * 2 ^ s % 4294967296)).set_ (k + 1) (xs.getD k 0 * 2 ^ s / 4294967296))
      clear hz z1 z2 z3 z4 z5 z6
      generalize xs.getD k 0 = x at *
      generalize zs.getD k 0 = z at *
      go_wp2
      rw [shl_bits hs HX.out HZ'.out, shl_hi hs HX.out]
      obtain ⟨r1, r2, r3, r4, r5⟩ := HR.out
      exact ⟨⟨k + 1, _, by omega, by go_num, ⟨r1, r2, HR2.out, r3, r4, r5⟩, (by repeat (first | exact Ext.refl _ | assumption | refine Ext.pdrewN ?_ _ | refine Ext.pdrew ?_ | refine Ext.palloc ?_ _ | refine Ext.pset ?_ (by simp <;> omega) _ | refine Ext.trans ?_ (by assumption)))⟩, by simp [intOf]; omega⟩
    · obtain rfl : k = xs.length := by omega
      obtain ⟨z1, z2, z3, z4, z5, z6⟩ := HZ.out
      rw [List.take_of_length_le (by omega), List.take_length] at z6
      have HF := Lib.hid (And.intro z3 (And.intro z2 (And.intro z1 z6)))
      clear z1 z2 z3 z4 z5 z6
      go_wp2
      go_ret
      exact ⟨_, rfl, ⟨zs, rfl, HF.out⟩, (by repeat (first | exact Ext.refl _ | assumption | refine Ext.pdrewN ?_ _ | refine Ext.pdrew ?_ | refine Ext.palloc ?_ _ | refine Ext.pset ?_ (by simp <;> omega) _ | refine Ext.trans ?_ (by assumption)))⟩

end Go.Proofs.YtonleohlplkglaaGreatDoor
