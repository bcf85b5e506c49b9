/- Contracts of the program's layer 1: compare, divideWord, shiftLeft. -/
import Derived.Test.YtceobmnljdhkmaaGreatDoorYT
import Derived.BigRegion
import Derived.Lib.SliceRun
import Derived.Deep.AppendLies
import Derived.Deep.CutBlock
import Derived.Test.YtceobmnljdhkmaaGreatDoorYU
import Derived.Test.YtceobmnljdhkmaaGreatDoorYA
import Derived.Test.YtceobmnljdhkmaaGreatDoorYB
import Derived.Test.YtceobmnljdhkmaaGreatDoorYS
namespace Go.Proofs.YtceobmnljdhkmaaGreatDoor
open Go Go.RowKit
theorem cmp_int (x y : Int) (w : World) : Calls Tryz.prog 142 #[.int .i64 x, .int .i64 y] w fun e w' => e = .returned (.int .i64 (if x < y then -1 else if y < x then 1 else 0)) ∧ w = w' := by
 rcases Int.lt_trichotomy x y with h | h | h
 ·have h1 : decide (x < y) = true := by simpa using h
  rw [if_pos h]
  go_enter Tryz.func142, Tryz.ntmps142
  go_wp2
  go_ret
  exact ⟨rfl, rfl⟩
 ·subst h
  rw [if_neg (Int.lt_irrefl _), if_neg (Int.lt_irrefl _)]
  go_enter Tryz.func142, Tryz.ntmps142
  go_wp2
  go_ret
  exact ⟨rfl, rfl⟩
 ·have h1 : decide (x < y) = false := by simp; omega
  have h2 : decide (y < x) = true := by simpa using h
  rw [if_neg (by omega), if_pos h]
  go_enter Tryz.func142, Tryz.ntmps142
  go_wp2
  go_ret
  exact ⟨rfl, rfl⟩
theorem cmp_u32 (x y : Nat) (w : World) : Calls Tryz.prog 305 #[.int .u32 (x : Int), .int .u32 (y : Int)] w fun e w' => e = .returned (.int .i64 (if x < y then -1 else if y < x then 1 else 0)) ∧ w = w' := by
 rcases Nat.lt_trichotomy x y with h | h | h
 ·have h1 : decide (x < y) = true := by simpa using h
  rw [if_pos h]
  go_enter Tryz.func305, Tryz.ntmps305
  go_wp2
  go_ret
  exact ⟨rfl, rfl⟩
 ·subst h
  rw [if_neg (Nat.lt_irrefl _), if_neg (Nat.lt_irrefl _)]
  go_enter Tryz.func305, Tryz.ntmps305
  go_wp2
  go_ret
  exact ⟨rfl, rfl⟩
 ·have h1 : decide (x < y) = false := by simp; omega
  have h2 : decide (y < x) = true := by simpa using h
  rw [if_neg (by omega), if_pos h]
  go_enter Tryz.func305, Tryz.ntmps305
  go_wp2
  go_ret
  exact ⟨rfl, rfl⟩
set_option maxHeartbeats 800000 in
theorem int_compare {A B : Option Addr} {n m c d : Nat} {xs ys : List Nat} {w : World} (h : Words w (.slice A n c) xs) (k : Words w (.slice B m d) ys) :
  Calls Tryz.prog 254 #[.slice A n c, .slice B m d] w fun e w' => e = .returned (.int .i64 (cmpW xs ys)) ∧ Ext w w' := by
 obtain ⟨rfl, hl, hm⟩ := h.len
 obtain ⟨rfl, kl, km⟩ := k.len
 by_cases h0 : xs.length = ys.length
 ·have hL := h.limb
  have kL := k.limb
  have H := Lib.hid h
  have K := Lib.hid k
  clear h k
  have h1 : ((xs.length : Int) != (xs.length : Int)) = false := by simp
  have H0 := Lib.hid h0
  rw [← h0] at K ⊢
  clear h0
  go_enter Tryz.func254, Tryz.ntmps254
  go_wp2
  go_loopw [5] (fun i wr => ∃ k : Nat, k ≤ xs.length ∧ i = .int .i64 ((k : Int) - 1) ∧ Hid (xs.drop k = ys.drop k) ∧ Ext w wr) (fun i _ => (intOf i + 1).toNat)
  case atStart => exact ⟨xs.length, Nat.le_refl _, rfl, by show _ = _; rw [List.drop_length, H0.out, List.drop_length], Ext.refl _⟩
  case round =>
   obtain ⟨k, hk, rfl, HD, hE⟩ := hrel
   by_cases hk0 : 0 < k
   ·obtain ⟨j, rfl⟩ : ∃ j, k = j + 1 := ⟨k - 1, by omega⟩
    obtain ⟨b, off, rfl, hb, -, hcell⟩ := (H.out.ext hE).at_ (k := j) (by omega)
    obtain ⟨b', off', rfl, hb', -, hcell'⟩ := (K.out.ext hE).at_ (k := j) (by omega)
    have g1 := hcell j (by omega)
    have g2 := hcell' j (by omega)
    clear hcell hcell'
    have HL : Hid (xs.getD j 0 < ys.getD j 0 → cmpW xs ys = -1) := fun hlt => cmpW_less hL H0.out (by omega) HD.out hlt
    have HM : Hid (ys.getD j 0 < xs.getD j 0 → cmpW xs ys = 1) := fun hlt => cmpW_more kL H0.out (by omega) HD.out hlt
    have HD' : Hid (xs.getD j 0 = ys.getD j 0 → xs.drop j = ys.drop j) := fun he => by rw [drop_getD xs (by omega), drop_getD ys (by have := H0.out; omega), he, HD.out]
    generalize xs.getD j 0 = x at *
    generalize ys.getD j 0 = y at *
    by_cases hxy : x = y
    ·subst hxy
     go_wp2_with fail
     go_quiet (fail)
     go_wp2_with fail
     exact ⟨⟨j, by omega, rfl, HD'.out trivial, (by repeat first|exact xA _|assumption|refine xB ?_ _|refine xC ?_|refine xD ?_ _|refine xE ?_ (by simp <;> omega) _|refine xF ?_ (by assumption))⟩, by simp [intOf]⟩
    ·have hne : ((x : Int) != (y : Int)) = true := by simp; omega
     have HR : Hid ((if x < y then (-1 : Int) else if y < x then 1 else 0) = cmpW xs ys) := by
      show _ = _
      rcases Nat.lt_trichotomy x y with h | h | h
      ·rw [if_pos h, HL.out h]
      ·exact absurd h hxy
      ·rw [if_neg (by omega), if_pos h, HM.out h]
     have HCM := Lib.hid (fun w1 => cmp_u32 x y w1)
     generalize (if x < y then (-1 : Int) else if y < x then 1 else 0) = r at *
     clear hxy
     go_wp2_with fail
     go_quiet (fail)
     have q1 : (wr.drewN nq).cell? ⟨b, off + j, none⟩ = some (.int .u32 (x : Int)) := g1
     have q2 : (wr.drewN nq).cell? ⟨b', off' + j, none⟩ = some (.int .u32 (y : Int)) := g2
     have hEq : Ext w (wr.drewN nq) := hE.pdrewN nq
     clear g1 g2 hb hb'
     generalize wr.drewN nq = wq at *
     go_wp2_with fail
     go_quiet ((go_at_call 305; exact quiet_left (HCM.out _)))
     go_wp2_with fail
     go_ret
     exact ⟨by rw [← HR.out]; rfl, (by repeat first|exact xA _|assumption|refine xB ?_ _|refine xC ?_|refine xD ?_ _|refine xE ?_ (by simp <;> omega) _|refine xF ?_ (by assumption))⟩
   ·obtain rfl : k = 0 := by omega
    have HC : Hid (cmpW xs ys = 0) := by
     have := HD.out; simp only [List.drop_zero] at this; rw [this]; exact cmpW_same _
    go_wp2_with fail
    go_ret
    exact ⟨by rw [HC.out]; rfl, hE⟩
 ·have h1 : ((xs.length : Int) != (ys.length : Int)) = true := by simp; omega
  have HR : Hid ((if (xs.length : Int) < (ys.length : Int) then (-1 : Int) else if (ys.length : Int) < (xs.length : Int) then 1 else 0) = cmpW xs ys) := by
   show _ = _
   rcases Nat.lt_trichotomy xs.length ys.length with h | h | h
   ·rw [if_pos (by omega), cmpW_short h]
   ·exact absurd h h0
   ·rw [if_neg (by omega), if_pos (by omega), cmpW_long h]
  have HCM := Lib.hid (fun w1 => cmp_int (xs.length : Int) (ys.length : Int) w1)
  generalize (if (xs.length : Int) < (ys.length : Int) then (-1 : Int) else if (ys.length : Int) < (xs.length : Int) then 1 else 0) = r at *
  clear h k h0
  generalize xs.length = n at *
  generalize ys.length = m at *
  go_enter Tryz.func254, Tryz.ntmps254
  go_wp2_with fail
  refine (HCM.out _).mono ?_
  rintro e w1 ⟨rfl, rfl⟩
  go_wp2_with fail
  go_ret
  exact ⟨by rw [← HR.out]; rfl, Ext.refl _⟩
set_option maxHeartbeats 800000 in
theorem int_divideWord {A : Option Addr} {m c : Nat} {xs : List Nat} {n : Nat} {w : World} (h : Words w (.slice A m c) xs) (hn : 0 < n) (hn2 : n < 4294967296) :
  Calls Tryz.prog 284 #[.slice A m c, .int .u32 (n : Int)] w (Ret w (DivRes (val xs) n)) := by
 obtain ⟨rfl, hl, hm⟩ := h.len
 have hL := h.limb
 have H := Lib.hid h
 clear h
 have hmk := mk_words xs.length (by omega)
 go_enter Tryz.func284, Tryz.ntmps284
 go_wp2_with fail
 go_loopw [7, 8] (fun r i wr => ∃ (k ρ : Nat) (zs : List Nat), k ≤ xs.length ∧ i = .int .i64 ((k : Int) - 1) ∧ r = .int .u64 (ρ : Int) ∧ ρ < n ∧ Hid (zs.length = xs.length ∧ Limb zs ∧ Row wr w.heap.size zs ∧ val (xs.drop k) = n * val (zs.drop k) + ρ) ∧ Ext w wr) (fun _ i _ => (intOf i + 1).toNat)
 case atStart =>
  exact ⟨xs.length, 0, List.replicate xs.length 0, Nat.le_refl _, rfl, rfl, hn, ⟨by simp, limb_replicate _, Row.made _ _, by simp [val]⟩, (by repeat first|exact xA _|assumption|refine xB ?_ _|refine xC ?_|refine xD ?_ _|refine xE ?_ (by simp <;> omega) _|refine xF ?_ (by assumption))⟩
 case round =>
  obtain ⟨k, ρ, zs, hk, rfl, rfl, hρ, HZ, hE⟩ := hrel
  by_cases hk0 : 0 < k
  ·obtain ⟨j, rfl⟩ : ∃ j, k = j + 1 := ⟨k - 1, by omega⟩
   obtain ⟨b, off, rfl, hb, -, hcell⟩ := (H.out.ext hE).at_ (k := j) (by omega)
   have g1 := hcell j (by omega)
   clear hcell
   have g2 := HZ.out.2.2.1.cell (k := j) (by have := HZ.out.1; omega)
   have g3 := HZ.out.2.2.1.frozen j
   have hx := hL.getD j
   have HS : Hid (val (xs.drop j) = n * val ((zs.set j ((xs.getD j 0 + 4294967296 * ρ) / n)).drop j) + (xs.getD j 0 + 4294967296 * ρ) % n) := by_step (by omega) HZ.out.1 HZ.out.2.2.2
   generalize xs.getD j 0 = x at *
   go_wp2_with fail
   rw [by_r hρ hn2 hx, by_q hρ hn2 hx]
   obtain ⟨z1, z2, z3, z4⟩ := HZ.out
   exact ⟨⟨j, _, zs.set j ((x + 4294967296 * ρ) / n), by omega, rfl, rfl, Nat.mod_lt _ hn, ⟨by simp [z1], limb_set z2 (by_lt hρ hx), z3.set_ _ _, HS.out⟩, (by repeat first|exact xA _|assumption|refine xB ?_ _|refine xC ?_|refine xD ?_ _|refine xE ?_ (by simp <;> omega) _|refine xF ?_ (by assumption))⟩, by simp [intOf]⟩
  ·obtain rfl : k = 0 := by omega
   obtain ⟨z1, z2, z3, z4⟩ := HZ.out
   simp only [List.drop_zero] at z4
   have hW := z3.words z2 (c := xs.length) (by omega) (by omega)
   rw [z1] at hW
   have HT := Lib.hid (int_trim hW)
   have TW := Lib.hid hW.trim
   have hq : limbs (val xs / n) = trimL zs := by
    rw [trimL_eq_limbs z2, z4, Nat.mul_add_div hn, Nat.div_eq_of_lt hρ, Nat.add_zero]
   have hr : ρ = val xs % n := by rw [z4, Nat.mul_add_mod, Nat.mod_eq_of_lt hρ]
   have HQ := Lib.hid hq
   have HR := Lib.hid hr
   have HF := Lib.hid (fun W => int_fromUint ρ (by omega) W)
   clear hW hq hr z1 z2 z3 z4
   go_wp2_with fail
   refine HT.out.mono ?_
   rintro e w' ⟨rfl, rfl⟩
   go_wp2_with fail
   refine (HF.out _).mono ?_
   rintro e w2 ⟨v2, rfl, hv2, hx2⟩
   have HV2 := Lib.hid hv2
   clear hv2
   go_wp2_with fail
   go_ret2
   exact ⟨_, rfl, ⟨_, _, rfl, by rw [HQ.out]; exact TW.out.ext hx2, by rw [← HR.out]; exact HV2.out⟩, (by repeat first|exact xA _|assumption|refine xB ?_ _|refine xC ?_|refine xD ?_ _|refine xE ?_ (by simp <;> omega) _|refine xF ?_ (by assumption))⟩
set_option maxHeartbeats 800000 in
theorem int_shiftLeft {A : Option Addr} {n c s : Nat} {xs : List Nat} {w : World} (h : Words w (.slice A n c) xs) (hs : s < 32) (hn : n < 35184372088832) :
  Calls Tryz.prog 286 #[.slice A n c, .int .i64 (s : Int)] w (Ret w fun v w' => ∃ zs, v = .slice (some ⟨w.heap.size, 0, none⟩) (n + 1) (n + 1) ∧ Row w' w.heap.size zs ∧ Limb zs ∧ zs.length = n + 1 ∧ val zs = val xs * 2 ^ s) := by
 obtain ⟨rfl, hl, hm⟩ := h.len
 have hL := h.limb
 have H := Lib.hid h
 clear h
 have hmk := mk_words (xs.length + 1) (by omega)
 simp only [Int.natCast_add, Int.cast_ofNat_Int] at hmk
 have hp0 : 0 < 2 ^ s := Nat.pow_pos (by omega)
 have HP := Lib.hid hp0
 clear hp0
 go_enter Tryz.func286, Tryz.ntmps286
 go_wp2_with fail
 go_loopw [15] (fun i wr => ∃ (k : Nat) (zs : List Nat), k ≤ xs.length ∧ i = .int .i64 (k : Int) ∧ Hid (zs.length = xs.length + 1 ∧ Limb zs ∧ Row wr w.heap.size zs ∧ zs.getD k 0 < 2 ^ s ∧ (∀ j, k < j → zs.getD j 0 = 0) ∧ val (zs.take (k + 1)) = val (xs.take k) * 2 ^ s) ∧ Ext w wr) (fun i _ => xs.length - (intOf i).toNat)
 case atStart =>
  exact ⟨0, List.replicate (xs.length + 1) 0, by omega, rfl, ⟨by simp, limb_replicate _, Row.made _ _, by rw [getD_replicate]; exact HP.out, fun j _ => getD_replicate _ _, by simp [val, List.replicate_succ]⟩, (by repeat first|exact xA _|assumption|refine xB ?_ _|refine xC ?_|refine xD ?_ _|refine xE ?_ (by simp <;> omega) _|refine xF ?_ (by assumption))⟩
 case round =>
  obtain ⟨k, zs, hk, rfl, HZ, hE⟩ := hrel
  by_cases hk0 : k < xs.length
  ·obtain ⟨b, off, rfl, hb, -, hcell⟩ := (H.out.ext hE).at_ (k := k) (by omega)
   have g1 := hcell k (by omega)
   clear hcell
   have g2 := HZ.out.2.2.1.cell (k := k) (by have := HZ.out.1; omega)
   have g3 := HZ.out.2.2.1.frozen k
   have g4 := HZ.out.2.2.1.cell (k := k + 1) (by have := HZ.out.1; omega)
   have g5 := HZ.out.2.2.1.frozen (k + 1)
   have hx := hL.getD k
   have hz : zs.getD k 0 < 2 ^ s := HZ.out.2.2.2.1
   have HX := Lib.hid hx
   have HZ' := Lib.hid hz
   obtain ⟨z1, z2, z3, z4, z5, z6⟩ := HZ.out
   have HR := Lib.hid (shl_round hs hk0 hx z1 z2 z4 z5 z6)
   have HR2 := Lib.hid ((z3.set_ k (zs.getD k 0 + xs.getD k 0 * 2 ^ s % 4294967296)).set_ (k + 1) (xs.getD k 0 * 2 ^ s / 4294967296))
   clear hz z1 z2 z3 z4 z5 z6
   generalize xs.getD k 0 = x at *
   generalize zs.getD k 0 = z at *
   go_wp2_with fail
   rw [shl_bits hs HX.out HZ'.out, shl_hi hs HX.out]
   obtain ⟨r1, r2, r3, r4, r5⟩ := HR.out
   exact ⟨⟨k + 1, _, by omega, by go_num, ⟨r1, r2, HR2.out, r3, r4, r5⟩, (by repeat first|exact xA _|assumption|refine xB ?_ _|refine xC ?_|refine xD ?_ _|refine xE ?_ (by simp <;> omega) _|refine xF ?_ (by assumption))⟩, by simp [intOf]; omega⟩
  ·obtain rfl : k = xs.length := by omega
   obtain ⟨z1, z2, z3, z4, z5, z6⟩ := HZ.out
   rw [List.take_of_length_le (by omega), List.take_length] at z6
   have HF := Lib.hid (And.intro z3 (And.intro z2 (And.intro z1 z6)))
   clear z1 z2 z3 z4 z5 z6
   go_wp2_with fail
   go_ret
   exact ⟨_, rfl, ⟨zs, rfl, HF.out⟩, (by repeat first|exact xA _|assumption|refine xB ?_ _|refine xC ?_|refine xD ?_ _|refine xE ?_ (by simp <;> omega) _|refine xF ?_ (by assumption))⟩
end Go.Proofs.YtceobmnljdhkmaaGreatDoor
namespace Go.Proofs.YtceobmnljdhkmaaGreatDoor
open Go Go.RowKit
theorem u32_or_nat' (a b : Nat) (ha : a < 4294967296) (hb : b < 4294967296) : bits .or .u32 (a : Int) (b : Int) = ((a ||| b : Nat) : Int) := u32_or_nat a b ha hb
/-- A part of the higher word comes in above what is left of the lower one. -/
theorem shr_bits {x y s r : Nat} (hsr : s + r = 32) (hx : x < 4294967296) (hy : y < 4294967296) :
  bits .or .u32 ((x : Int) / 2 ^ s) (IntKind.u64.wrap ((y : Int) * 2 ^ r) % 4294967296) = (((x + 4294967296 * y) / 2 ^ s % 4294967296 : Nat) : Int) := by
 have hp : 2 ^ s * 2 ^ r = 4294967296 := by rw [← Nat.pow_add, hsr]
 have h0 : 0 < 2 ^ s := Nat.pow_pos (by omega)
 have hr0 : 0 < 2 ^ r := Nat.pow_pos (by omega)
 have hyr : y * 2 ^ r < 18446744073709551616 := by
  have h1 : 2 ^ r ≤ 4294967296 := by rw [← hp]; exact Nat.le_mul_of_pos_left _ h0
  have h2 : y * 2 ^ r ≤ 4294967295 * 4294967296 := Nat.mul_le_mul (by omega) h1
  omega
 have e1 : (x : Int) / 2 ^ s = ((x / 2 ^ s : Nat) : Int) := by rw [Int.natCast_ediv, Int.natCast_pow]; rfl
 have e2 : IntKind.u64.wrap ((y : Int) * 2 ^ r) % 4294967296 = ((y * 2 ^ r % 4294967296 : Nat) : Int) := by
  have e : (y : Int) * 2 ^ r = ((y * 2 ^ r : Nat) : Int) := by rw [Int.natCast_mul, Int.natCast_pow]; rfl
  rw [e, IntKind.wrap_u64]
  generalize y * 2 ^ r = z at *
  omega
 have hxs : x / 2 ^ s < 2 ^ r := Nat.div_lt_of_lt_mul (by rw [hp]; exact hx)
 rw [e1, e2, u32_or_nat' _ _ (Nat.lt_of_le_of_lt (Nat.div_le_self _ _) hx) (Nat.mod_lt _ (by omega))]
 have e3 : (x + 4294967296 * y) / 2 ^ s = x / 2 ^ s + 2 ^ r * y := by
  rw [← hp, Nat.mul_assoc, Nat.add_mul_div_left _ _ h0]
 have e4 : y * 2 ^ r % 4294967296 = 2 ^ r * (y % 2 ^ s) := by
  rw [← hp, Nat.mul_comm (2 ^ s) (2 ^ r), Nat.mul_comm y, Nat.mul_mod_mul_left]
 have e5 : (x / 2 ^ s + 2 ^ r * y) % 4294967296 = x / 2 ^ s + 2 ^ r * (y % 2 ^ s) := by
  have h1 := Nat.div_add_mod y (2 ^ s)
  have h2 : 2 ^ r * (y % 2 ^ s) + 2 ^ r ≤ 4294967296 := by
   have h3 : y % 2 ^ s + 1 ≤ 2 ^ s := Nat.mod_lt _ h0
   have h4 := Nat.mul_le_mul_left (2 ^ r) h3
   rw [Nat.mul_add, Nat.mul_one, Nat.mul_comm (2 ^ r) (2 ^ s), hp] at h4
   exact h4
  have h5 : 2 ^ r * y = 4294967296 * (y / 2 ^ s) + 2 ^ r * (y % 2 ^ s) := by
   conv => lhs; rw [← h1]
   rw [Nat.mul_add, ← Nat.mul_assoc, Nat.mul_comm (2 ^ r) (2 ^ s), hp]
  rw [h5]
  generalize 2 ^ r * (y % 2 ^ s) = u at *
  generalize x / 2 ^ s = v at *
  generalize 2 ^ r = P at *
  omega
 rw [e3, e4, e5, Nat.or_comm, ← Nat.two_pow_add_eq_or_of_lt hxs, Nat.add_comm]
set_option maxRecDepth 100000 in
set_option maxHeartbeats 1600000 in
theorem int_shiftRight {A : Option Addr} {n c s : Nat} {xs : List Nat} {w : World} (h : Words w (.slice A n c) xs) (hs : s < 32) :
  Calls Tryz.prog 289 #[.slice A n c, .int .i64 (s : Int)] w (Ret w fun v w' => ∃ zs, v = .slice (some ⟨w.heap.size, 0, none⟩) n n ∧ Row w' w.heap.size zs ∧ Limb zs ∧ zs.length = n ∧ val zs = val xs / 2 ^ s) := by
 obtain ⟨rfl, hl, hm⟩ := h.len
 have hL := h.limb
 have H := Lib.hid h
 clear h
 have hmk := mk_words xs.length (by omega)
 obtain ⟨r, hr⟩ : ∃ r, s + r = 32 := ⟨32 - s, by omega⟩
 have hr2 : (32 : Int) - (s : Int) = (r : Int) := by omega
 go_enter Tryz.func289, Tryz.ntmps289
 go_wp2_with fail
 go_loopw [13] (fun i wr => ∃ (k : Nat) (zs : List Nat), k ≤ xs.length ∧ i = .int .i64 (k : Int) ∧ Hid (zs.length = xs.length ∧ Row wr w.heap.size zs ∧ ∀ j, j < k → zs.getD j 0 = backAt xs s j) ∧ Ext w wr) (fun i _ => xs.length - (intOf i).toNat)
 case atStart =>
  exact ⟨0, List.replicate xs.length 0, by omega, rfl, ⟨by simp, Row.made _ _, fun j hj => absurd hj (by omega)⟩, (by repeat first|exact xA _|assumption|refine xB ?_ _|refine xC ?_|refine xD ?_ _|refine xE ?_ (by simp <;> omega) _|refine xF ?_ (by assumption))⟩
 case round =>
  obtain ⟨k, zs, hk, rfl, HZ, hE⟩ := hrel
  by_cases hk0 : k < xs.length
  ·obtain ⟨b, off, rfl, hb, -, hcell⟩ := (H.out.ext hE).at_ (k := k) (by omega)
   have g1 := hcell k (by omega)
   have g2 := HZ.out.2.1.cell (k := k) (by have := HZ.out.1; omega)
   have g3 := HZ.out.2.1.frozen k
   have hx := hL.getD k
   have hx2 := hL.getD (k + 1)
   have HB : Hid (backAt xs s k = ((xs.getD k 0 + 4294967296 * xs.getD (k + 1) 0) / 2 ^ s) % 4294967296) := rfl
   have HN : Hid (xs.length ≤ k + 1 → xs.getD (k + 1) 0 = 0) := fun h => getD_of_le h
   by_cases hk1 : k + 1 < xs.length
   ·have g4 := hcell (k + 1) (by omega)
    clear hcell
    generalize xs.getD k 0 = x at *
    generalize xs.getD (k + 1) 0 = y at *
    go_wp2_with fail
    go_region
    go_wp2_with fail
    rw [setCell_same, shr_bits hr hx hx2]
    obtain ⟨z1, z2, z3⟩ := HZ.out
    exact ⟨⟨k + 1, _, by omega, by go_num, ⟨by simp [z1], z2.set_ _ _, back_next (by omega) z3 HB.out⟩, (by repeat first|exact xA _|assumption|refine xB ?_ _|refine xC ?_|refine xD ?_ _|refine xE ?_ (by simp <;> omega) _|refine xF ?_ (by assumption))⟩, by simp [intOf]; omega⟩
   ·clear hcell
    have h0 := HN.out (by omega)
    rw [h0, Nat.mul_zero, Nat.add_zero] at HB
    clear hx2 h0 HN
    generalize xs.getD k 0 = x at *
    go_wp2_with fail
    obtain ⟨z1, z2, z3⟩ := HZ.out
    have e1 : (x : Int) / 2 ^ s = ((x / 2 ^ s % 4294967296 : Nat) : Int) := by
     rw [Nat.mod_eq_of_lt (Nat.lt_of_le_of_lt (Nat.div_le_self _ _) hx), Int.natCast_ediv, Int.natCast_pow]; rfl
    rw [e1]
    exact ⟨⟨k + 1, _, by omega, by go_num, ⟨by simp [z1], z2.set_ _ _, back_next (by omega) z3 HB.out⟩, (by repeat first|exact xA _|assumption|refine xB ?_ _|refine xC ?_|refine xD ?_ _|refine xE ?_ (by simp <;> omega) _|refine xF ?_ (by assumption))⟩, by simp [intOf]; omega⟩
  ·obtain rfl : k = xs.length := by omega
   obtain ⟨z1, z2, z3⟩ := HZ.out
   have e : zs = backL s xs := ext_getD (by rw [z1, backL_length]) fun j hj => by rw [z3 j (by omega), backL_getD s xs j (by omega)]
   have zL : Limb zs := by rw [e]; exact limb_backL _ _
   have zv : val zs = val xs / 2 ^ s := by rw [e, val_backL hs hL]
   have HF := Lib.hid (And.intro z2 (And.intro zL (And.intro z1 zv)))
   clear z1 z2 z3 e zL zv
   go_wp2_with fail
   go_ret
   exact ⟨_, rfl, ⟨zs, rfl, HF.out⟩, (by repeat first|exact xA _|assumption|refine xB ?_ _|refine xC ?_|refine xD ?_ _|refine xE ?_ (by simp <;> omega) _|refine xF ?_ (by assumption))⟩
/-- Only the block g may have changed. -/
structure Only (g : Nat) (w w' : World) : Prop where
 os : w'.os = w.os
 tape : w'.tape = w.tape
 output : w'.output = w.output
 size : w.heap.size ≤ w'.heap.size
 block : ∀ k, k < w.heap.size → k ≠ g → w'.heap[k]? = w.heap[k]?
theorem Only.refl (g : Nat) (w : World) : Only g w w := ⟨rfl, rfl, rfl, Nat.le_refl _, fun _ _ _ => rfl⟩
theorem Only.pset {g : Nat} {a w : World} (h : Only g a w) (j : Nat) (u : Value) : Only g a (w.setCell ⟨g, j, none⟩ u) :=
 ⟨h.os, h.tape, h.output, by simpa [World.setCell] using h.size, fun k hk hne => (Below.heap_setCell _ _ _ _ hne).trans (h.block k hk hne)⟩
theorem Only.pdrew {g : Nat} {a w : World} (h : Only g a w) : Only g a w.drew := ⟨h.os, h.tape, h.output, h.size, h.block⟩
theorem Only.pdrewN {g : Nat} {a w : World} (h : Only g a w) (n : Nat) : Only g a (w.drewN n) := ⟨h.os, h.tape, h.output, h.size, h.block⟩
theorem Only.ext {g : Nat} {a w w' : World} (h : Only g w w') (hx : Ext a w) (hg : a.heap.size ≤ g) : Ext a w' :=
 ⟨h.os.trans hx.os, h.tape.trans hx.tape, h.output.trans hx.output, Nat.le_trans hx.size h.size, fun k hk => (h.block k (Nat.lt_of_lt_of_le hk hx.size) (by omega)).trans (hx.block k hk)⟩
theorem Only.row {g g' : Nat} {w w' : World} {xs : List Nat} (h : Only g w w') (hr : Row w g' xs) (hne : g' ≠ g) : Row w' g' xs := (h.block g' hr.lt hne).trans hr
theorem Only.cell {g : Nat} {w w' : World} (h : Only g w w') {p : Addr} (hp : p.block < w.heap.size) (hne : p.block ≠ g) : w'.cell? p = w.cell? p := by
 have := h.block p.block hp hne
 unfold World.cell?
 rw [this]
theorem Only.words {g : Nat} {w w' : World} {A : Option Addr} {n c : Nat} {xs : List Nat} (h : Only g w w') (hw : Words w (.slice A n c) xs) (hne : ∀ a, A = some a → a.block ≠ g) : Words w' (.slice A n c) xs := by
 obtain ⟨A', c', hv, hl, hm, hL, hc⟩ := hw
 obtain ⟨rfl, rfl, rfl⟩ : A = A' ∧ n = xs.length ∧ c = c' := by injection hv with h1 h2 h3; exact ⟨h1, h2, h3⟩
 refine ⟨A, c, rfl, hl, hm, hL, fun h0 => ?_⟩
 obtain ⟨b, off, rfl, hb, hcell⟩ := hc h0
 exact ⟨b, off, rfl, Nat.lt_of_lt_of_le hb h.size, fun k hk => (h.cell (p := ⟨b, off + k, none⟩) hb (by have := hne _ rfl; exact this)).trans (hcell k hk)⟩
/-- The part of a list from i on, k words long. -/
def part (xs : List Nat) (i k : Nat) : List Nat := (xs.drop i).take k
theorem part_next (xs : List Nat) (i k : Nat) : val (part xs i (k + 1)) = val (part xs i k) + 4294967296 ^ k * xs.getD (i + k) 0 := by
 unfold part; rw [val_take_next, getD_drop]
theorem part_set {zs : List Nat} {i k y : Nat} (h : i + k < zs.length) : val (part (zs.set (i + k) y) i (k + 1)) = val (part zs i k) + 4294967296 ^ k * y := by
 rw [part_next, getD_set_self h]
 congr 2
 unfold part
 rw [List.drop_set, if_neg (by omega), show i + k - i = k by omega, List.take_set_of_le (by omega)]
theorem part_zero (xs : List Nat) (i : Nat) : val (part xs i 0) = 0 := rfl
/-- One round of a difference with a multiple. -/
theorem sub_step {x y d b p q : Nat} (hx : x < 4294967296) (hy : y < 4294967296) (hd : d < 4294967296) (hb : b < 4294967296) (hp : p = y * d + b) (hq : q = if x < p % 4294967296 then 1 else 0) :
  p < 18446744073709551616 ∧ p / 4294967296 + q < 4294967296 ∧ (x + 4294967296 * q - p % 4294967296) + p = x + 4294967296 * (p / 4294967296 + q) ∧ x + 4294967296 * q - p % 4294967296 < 4294967296 := by
 have h1 : y * d ≤ 4294967295 * 4294967295 := Nat.mul_le_mul (by omega) (by omega)
 have h2 : p ≤ 4294967295 * 4294967296 := by omega
 split at hq
 ·subst hq; refine ⟨by omega, ?_, by omega, by omega⟩
  omega
 ·subst hq; refine ⟨by omega, by omega, by omega, by omega⟩
theorem sub_round {P Y X d b o x y p b' BK : Nat} (h5 : P + d * Y = X + BK * b) (hp : p = y * d + b) (hs : o + p = x + 4294967296 * b') : P + BK * o + d * (Y + BK * y) = X + BK * x + BK * 4294967296 * b' := by
 have e1 : d * (Y + BK * y) = d * Y + BK * (y * d) := by rw [Nat.mul_add, Nat.mul_left_comm, Nat.mul_comm d y]
 have e2 := congrArg (BK * ·) hs
 simp only [Nat.mul_add, hp] at e2
 rw [e1, Nat.mul_assoc]
 omega
theorem sub_cast {x p q : Nat} (hx : x < 4294967296) (hp : p < 4294967296) (hq : q = if x < p then 1 else 0) :
  IntKind.u64.wrap ((x : Int) - (p : Int)) % 4294967296 = ((x + 4294967296 * q - p : Nat) : Int) ∧ IntKind.u64.wrap ((x : Int) - (p : Int)) / 9223372036854775808 = (q : Int) := by
 rw [IntKind.wrap_u64]
 split at hq
 all_goals
  subst hq
  omega
set_option maxRecDepth 100000 in
set_option maxHeartbeats 1600000 in
theorem int_subtract {g i m c c' d : Nat} {A : Option Addr} {xs ys : List Nat} {w : World} (h : Row w g xs) (hL : Limb xs) (hi : i + (m + 1) ≤ xs.length) (hsz : xs.length ≤ 35184372088832) (h' : Words w (.slice A m c') ys) (hne : ∀ a, A = some a → a.block ≠ g) (hd : d < 4294967296) :
  Calls Tryz.prog 287 #[.slice (some ⟨g, i, none⟩) (m + 1) c, .slice A m c', .int .u64 (d : Int)] w fun e w' => ∃ zs q, e = .returned (.bool (decide (q = 1))) ∧ q ≤ 1 ∧ Row w' g zs ∧ Limb zs ∧ zs.length = xs.length ∧ (∀ t, (t < i ∨ i + (m + 1) ≤ t) → zs.getD t 0 = xs.getD t 0) ∧ val (part zs i (m + 1)) + d * val ys = val (part xs i (m + 1)) + 4294967296 ^ (m + 1) * q ∧ Only g w w' := by
 obtain ⟨rfl, hl, hm⟩ := h'.len
 have hL' := h'.limb
 have H := Lib.hid h
 have H' := Lib.hid h'
 have HNE := Lib.hid hne
 clear h h' hne
 go_enter Tryz.func287, Tryz.ntmps287
 go_wp2_with fail
 go_loopw [7, 15] (fun r x wr => ∃ (k b : Nat) (zs : List Nat), k ≤ ys.length ∧ x = .int .i64 (k : Int) ∧ r = .int .u64 (b : Int) ∧ b < 4294967296 ∧ Hid (Row wr g zs ∧ Limb zs ∧ zs.length = xs.length ∧ (∀ t, (t < i ∨ i + k ≤ t) → zs.getD t 0 = xs.getD t 0) ∧ val (part zs i k) + d * val (ys.take k) = val (part xs i k) + 4294967296 ^ k * b) ∧ Hid (Only g w wr)) (fun _ x _ => ys.length - (intOf x).toNat)
 case atStart => exact ⟨0, 0, xs, by omega, rfl, rfl, by omega, ⟨H.out, hL, rfl, fun _ _ => rfl, by simp [part_zero, val]⟩, Only.refl _ _⟩
 case round =>
  obtain ⟨k, b, zs, hk, rfl, rfl, hb, HZ, HO⟩ := hrel
  obtain ⟨z1, z2, z3, z4, z5⟩ := HZ.out
  by_cases hk0 : k < ys.length
  ·obtain ⟨bb, off, rfl, hb', -, hcell⟩ := (HO.out.words H'.out HNE.out).at_ (k := k) hk0
   have g1 := hcell k hk0
   have g2 := z1.cell (k := i + k) (by omega)
   have g3 := z1.frozen (i + k)
   have hx := z2.getD (i + k)
   have hy := hL'.getD k
   obtain ⟨p, hp⟩ : ∃ p, p = ys.getD k 0 * d + b := ⟨_, rfl⟩
   obtain ⟨q, hq⟩ : ∃ q, q = if zs.getD (i + k) 0 < p % 4294967296 then 1 else 0 := ⟨_, rfl⟩
   obtain ⟨s1, s2, s3, s4⟩ := sub_step hx hy hd hb hp hq
   have hp0 : (0 : Int) ≤ (ys.getD k 0 : Int) * (d : Int) := Int.mul_nonneg (Int.natCast_nonneg _) (Int.natCast_nonneg _)
   have hp1 : ys.getD k 0 * d + b < 18446744073709551616 := by omega
   have hp2 : ys.getD k 0 * d < 18446744073709551616 := by omega
   have HP := Lib.hid hp
   have HQ := Lib.hid hq
   clear hcell hp hq s1 s2 s3 s4
   obtain ⟨x, hxe⟩ : ∃ x, zs.getD (i + k) 0 = x := ⟨_, rfl⟩
   obtain ⟨y, hye⟩ : ∃ y, ys.getD k 0 = y := ⟨_, rfl⟩
   rw [hxe] at g2 hx HQ
   rw [hye] at g1 hy HP hp0 hp1 hp2
   have HX := Lib.hid hxe
   have HY := Lib.hid hye
   have HZ2 := Lib.hid (And.intro z1 (And.intro z2 (And.intro z3 (And.intro z4 z5))))
   clear hxe hye z1 z2 z3 z4 z5 HZ
   go_wp2_with fail
   obtain ⟨z1, z2, z3, z4, z5⟩ := HZ2.out
   obtain ⟨s1, s2, s3, s4⟩ := sub_step hx hy hd hb HP.out HQ.out
   have e0 : (y : Int) * (d : Int) + (b : Int) = (p : Int) := by rw [HP.out, Int.natCast_add, Int.natCast_mul]
   have ep : (p : Int) % 4294967296 = ((p % 4294967296 : Nat) : Int) := by omega
   obtain ⟨c1, c2⟩ := sub_cast hx (Nat.mod_lt p (by omega)) HQ.out
   have e3 : IntKind.u64.wrap ((p : Int) / 4294967296 + (q : Int)) = ((p / 4294967296 + q : Nat) : Int) := by rw [IntKind.wrap_u64]; omega
   rw [e0, ep, c1, c2, e3]
   have hxx : xs.getD (i + k) 0 = x := by rw [← HX.out]; exact (z4 (i + k) (by omega)).symm
   refine ⟨⟨k + 1, _, _, by omega, by go_num, rfl, s2, ⟨z1.set_ _ _, limb_set z2 s4, by simp [z3], fun t ht => ?_, ?_⟩, HO.out.pset _ _⟩, by simp [intOf]; omega⟩
   ·rw [getD_set_ne (by omega)]; exact z4 t (by omega)
   ·rw [part_set (by omega), val_take_next, part_next, hxx, HY.out, Nat.pow_succ]
    exact sub_round z5 HP.out s3
  ·obtain rfl : k = ys.length := by omega
   have g2 := z1.cell (k := i + ys.length) (by omega)
   have g3 := z1.frozen (i + ys.length)
   have hx := z2.getD (i + ys.length)
   have HX : Hid (zs.getD (i + ys.length) 0 = xs.getD (i + ys.length) 0) := z4 _ (by omega)
   obtain ⟨q, hq⟩ : ∃ q, q = if zs.getD (i + ys.length) 0 < b then 1 else 0 := ⟨_, rfl⟩
   have HQ := Lib.hid hq
   clear hq
   have HZ2 := Lib.hid (And.intro z1 (And.intro z2 (And.intro z3 (And.intro z4 z5))))
   clear z1 z2 z3 z4 z5 HZ
   generalize zs.getD (i + ys.length) 0 = x at *
   go_wp2_with fail
   go_ret
   obtain ⟨c1, c2⟩ := sub_cast hx hb HQ.out
   obtain ⟨z1, z2, z3, z4, z5⟩ := HZ2.out
   rw [c1, c2]
   have hq1 : q ≤ 1 := by rw [HQ.out]; split <;> omega
   have ho : x + 4294967296 * q - b < 4294967296 ∧ x + 4294967296 * q - b + b = x + 4294967296 * q := by
    have := HQ.out; split at this <;> subst this <;> omega
   refine ⟨_, q, ?_, hq1, z1.set_ _ _, limb_set z2 ho.1, by simp [z3], fun t ht => ?_, ?_, HO.out.pset _ _⟩
   ·rcases Nat.lt_or_ge q 1 with h | h
    ·obtain rfl : q = 0 := by omega
     rfl
    ·obtain rfl : q = 1 := by omega
     rfl
   ·rw [getD_set_ne (by omega)]; exact z4 t (by omega)
   ·rw [part_set (by omega), part_next, ← HX.out, Nat.pow_succ]
    rw [List.take_length] at z5
    have e2 := congrArg (4294967296 ^ ys.length * ·) ho.2
    simp only [Nat.mul_add] at e2
    rw [Nat.mul_assoc]
    omega
set_option maxRecDepth 100000 in
set_option maxHeartbeats 1600000 in
theorem int_restore {g i m c c' : Nat} {A : Option Addr} {xs ys : List Nat} {w : World} (h : Row w g xs) (hL : Limb xs) (hi : i + (m + 1) ≤ xs.length) (hsz : xs.length ≤ 35184372088832) (h' : Words w (.slice A m c') ys) (hne : ∀ a, A = some a → a.block ≠ g) :
  Calls Tryz.prog 288 #[.slice (some ⟨g, i, none⟩) (m + 1) c, .slice A m c'] w fun e w' => ∃ zs q, e = .returned (.tuple #[]) ∧ Row w' g zs ∧ Limb zs ∧ zs.length = xs.length ∧ (∀ t, (t < i ∨ i + (m + 1) ≤ t) → zs.getD t 0 = xs.getD t 0) ∧ val (part zs i (m + 1)) + 4294967296 ^ (m + 1) * q = val (part xs i (m + 1)) + val ys ∧ Only g w w' := by
 obtain ⟨rfl, hl, hm⟩ := h'.len
 have hL' := h'.limb
 have H := Lib.hid h
 have H' := Lib.hid h'
 have HNE := Lib.hid hne
 clear h h' hne
 go_enter Tryz.func288, Tryz.ntmps288
 go_wp2_with fail
 go_loopw [4, 9] (fun r x wr => ∃ (k b : Nat) (zs : List Nat), k ≤ ys.length ∧ x = .int .i64 (k : Int) ∧ r = .int .u64 (b : Int) ∧ b ≤ 1 ∧ Hid (Row wr g zs ∧ Limb zs ∧ zs.length = xs.length ∧ (∀ t, (t < i ∨ i + k ≤ t) → zs.getD t 0 = xs.getD t 0) ∧ val (part zs i k) + 4294967296 ^ k * b = val (part xs i k) + val (ys.take k)) ∧ Hid (Only g w wr)) (fun _ x _ => ys.length - (intOf x).toNat)
 case atStart => exact ⟨0, 0, xs, by omega, rfl, rfl, by omega, ⟨H.out, hL, rfl, fun _ _ => rfl, by simp [part_zero, val]⟩, Only.refl _ _⟩
 case round =>
  obtain ⟨k, b, zs, hk, rfl, rfl, hb, HZ, HO⟩ := hrel
  obtain ⟨z1, z2, z3, z4, z5⟩ := HZ.out
  by_cases hk0 : k < ys.length
  ·obtain ⟨bb, off, rfl, hb', -, hcell⟩ := (HO.out.words H'.out HNE.out).at_ (k := k) hk0
   have g1 := hcell k hk0
   have g2 := z1.cell (k := i + k) (by omega)
   have g3 := z1.frozen (i + k)
   have hx := z2.getD (i + k)
   have hy := hL'.getD k
   have HX : Hid (zs.getD (i + k) 0 = xs.getD (i + k) 0) := z4 _ (by omega)
   have HY : Hid (ys.getD k 0 = ys.getD k 0) := rfl
   have HZ2 := Lib.hid (And.intro z1 (And.intro z2 (And.intro z3 (And.intro z4 z5))))
   clear hcell z1 z2 z3 z4 z5 HZ
   generalize zs.getD (i + k) 0 = x at *
   obtain ⟨y, hye⟩ : ∃ y, ys.getD k 0 = y := ⟨_, rfl⟩
   rw [hye] at g1 hy
   have HY2 := Lib.hid hye
   clear hye HY
   go_wp2_with fail
   obtain ⟨z1, z2, z3, z4, z5⟩ := HZ2.out
   rw [show ((b : Int) + (x + y)) / 4294967296 = (((b + (x + y)) / 4294967296 : Nat) : Int) by omega, show ((b : Int) + (x + y)) % 4294967296 = (((b + (x + y)) % 4294967296 : Nat) : Int) by omega]
   refine ⟨⟨k + 1, _, _, by omega, by go_num, rfl, by omega, ⟨z1.set_ _ _, limb_set z2 (Nat.mod_lt _ (by omega)), by simp [z3], fun t ht => ?_, ?_⟩, HO.out.pset _ _⟩, by simp [intOf]; omega⟩
   ·rw [getD_set_ne (by omega)]; exact z4 t (by omega)
   ·rw [part_set (by omega), val_take_next, part_next, ← HX.out, HY2.out, Nat.pow_succ]
    have e2 := congrArg (4294967296 ^ k * ·) (Nat.mod_add_div (b + (x + y)) 4294967296)
    simp only [Nat.mul_add] at e2
    rw [Nat.mul_assoc]
    omega
  ·obtain rfl : k = ys.length := by omega
   have g2 := z1.cell (k := i + ys.length) (by omega)
   have g3 := z1.frozen (i + ys.length)
   have hx := z2.getD (i + ys.length)
   have HX : Hid (zs.getD (i + ys.length) 0 = xs.getD (i + ys.length) 0) := z4 _ (by omega)
   have HZ2 := Lib.hid (And.intro z1 (And.intro z2 (And.intro z3 (And.intro z4 z5))))
   clear z1 z2 z3 z4 z5 HZ
   generalize zs.getD (i + ys.length) 0 = x at *
   go_wp2_with fail
   go_end0
   obtain ⟨z1, z2, z3, z4, z5⟩ := HZ2.out
   rw [show ((x : Int) + b) % 4294967296 = (((x + b) % 4294967296 : Nat) : Int) by omega]
   refine ⟨_, (x + b) / 4294967296, rfl, z1.set_ _ _, limb_set z2 (Nat.mod_lt _ (by omega)), by simp [z3], fun t ht => ?_, ?_, HO.out.pset _ _⟩
   ·rw [getD_set_ne (by omega)]; exact z4 t (by omega)
   ·rw [part_set (by omega), part_next, ← HX.out, Nat.pow_succ]
    rw [List.take_length] at z5
    have e2 := congrArg (4294967296 ^ ys.length * ·) (Nat.mod_add_div (x + b) 4294967296)
    simp only [Nat.mul_add] at e2
    rw [Nat.mul_assoc]
    omega
end Go.Proofs.YtceobmnljdhkmaaGreatDoor
namespace Go.Proofs.YtceobmnljdhkmaaGreatDoor
open Go Go.RowKit
theorem words_of_own {w : World} {base : Nat} {v : Value} {l : List Nat} (h : w.ownsRow base 164 1 v l.length (wordVs l)) (hL : Limb l) (hl : l.length ≤ 35184372088832) : Words w v l := by
 rcases h.2 with ⟨rfl, hn⟩ | ⟨g, cap, cur, rfl, hb, hg, hcap, hcm, hcs, htk⟩
 ·obtain rfl := List.eq_nil_of_length_eq_zero hn
  exact Words.nil _
 ·refine ⟨some ⟨g, 0, none⟩, cap, rfl, hcap, hl, hL, fun _ => ⟨g, 0, rfl, (Array.getElem?_eq_some_iff.1 hg).1, fun k hk => ?_⟩⟩
  have h6 : (wordVs l)[k]? = some (.int .u32 ((l.getD k 0 : Nat) : Int)) := by unfold wordVs; rw [List.getElem?_map, List.getElem?_eq_getElem hk, List.getD_eq_getElem?_getD, List.getElem?_eq_getElem hk]; rfl
  rw [← htk, List.getElem?_take] at h6
  split at h6
  ·rw [cell_of_row w g _ cur _ _ hg, Nat.zero_add]
   simpa using h6
  ·cases h6
set_option maxRecDepth 100000 in
set_option maxHeartbeats 800000 in
theorem int_clone {A : Option Addr} {n c : Nat} {xs : List Nat} {w : World} (h : Words w (.slice A n c) xs) :
  Calls Tryz.prog 106 #[.slice A n c] w (Ret w fun v w' => Words w' v xs) := by
 obtain ⟨rfl, hl, hm⟩ := h.len
 have hL := h.limb
 have qn : ∀ (w : World) (a : Option Addr) (n c n' c' : Nat), (binOp .eql 53 (.slice a n c) (.slice none n' c')).run Tryz.prog w = .ok (.bool a.isNone) w := fun w a n c n' c' => Lib.run_eql_slice_nil w _ _ a n c n' c' Tryz.underlying53
 cases A with
 | none =>
  have hn : xs = [] := by
   by_cases h0 : 0 < xs.length
   ·obtain ⟨b, off, e, _⟩ := h.at_ h0; cases e
   ·exact List.eq_nil_of_length_eq_zero (by omega)
  subst hn
  go_enter Tryz.func106, Tryz.ntmps106
  go_wp2_with fail
  go_ret
  exact ⟨_, rfl, Words.nil _, (by repeat first|exact xA _|assumption|refine xB ?_ _|refine xC ?_|refine xD ?_ _|refine xE ?_ (by simp <;> omega) _|refine xF ?_ (by assumption))⟩
 | some a =>
  have hnews : ∀ j u, (wordVs xs)[j]? = some u → w.cell? (a.add j) = some u := by
   intro j u hj
   obtain ⟨hjl, hju⟩ := List.getElem?_eq_some_iff.1 hj
   simp [wordVs] at hjl
   obtain ⟨b, off, e1, hb, -, hcell⟩ := h.at_ hjl
   injection e1 with e1
   subst e1
   have := hcell j hjl
   rw [Addr.add_lit, this, ← hju]
   simp [wordVs, List.getElem?_eq_getElem hjl]
  have HN := Lib.hid hnews
  have hown : (w.alloc (.cells #[] 164)).ownsRow w.heap.size 164 1 (.slice (some ⟨w.heap.size, 0, none⟩) 0 0) 0 [] :=
   ⟨rfl, .inr ⟨w.heap.size, 0, #[], rfl, Nat.le_refl _, by rw [heap_alloc_new], Nat.le_refl _, Nat.zero_le _, rfl, rfl⟩⟩
  have HO := Lib.hid hown
  have HL := Lib.hid (And.intro hm hL)
  have HW : Hid ((wordVs xs).length = xs.length * 1) := by show _ = _; simp [wordVs]
  have HU : Hid (∀ u ∈ wordVs xs, u.oneCell' = true) := (by intro u hu; simp [wordVs] at hu; obtain ⟨x, _, rfl⟩ := hu; rfl)
  have HEN : Hid (∀ w' v', w'.ownsRow w.heap.size 164 1 v' xs.length (wordVs xs) → Words w' v' xs) := fun w' v' h => words_of_own h hL hm
  have HR : Hid (∀ v' w', Words w' v' xs → Words w' v' xs) := fun _ _ h => h
  clear h hnews hown hm hL
  generalize Words = WW at *
  generalize wordVs xs = ws at *
  generalize xs.length = n at *
  obtain ⟨i0, hi, hz0, hz1, hz2⟩ := info_parts infoU32
  go_enter Tryz.func106, Tryz.ntmps106
  go_wp2_with (at_builtin; refine wpList_append_own _ rfl _ _ 53 rfl w.heap.size 164 i0 (.int .u32 0) 1 4 Tryz.underlying53 hi hz0 hz1 hz2 rfl (by decide) _ 0 [] rfl HO.out a n c ws rfl HW.out ?c1 ?c2 (by have := HL.out.1; unfold maxLen; omega) (by have := HL.out.1; omega) (by simp) ?_)
  case c1 =>
   intro j u hj
   exact Lib.cell?_alloc_some _ (HN.out j u hj)
  case c2 => exact HU.out
  intro v' w' h1 h2 _
  have HF := Lib.hid (HEN.out _ _ h1)
  obtain ⟨A', c', rfl⟩ : ∃ A c, v' = .slice A n c := by
   rcases h1.2 with ⟨h1, h2⟩ | ⟨g, cap, cur, h1, -⟩
   ·exact ⟨none, 0, by rw [h1, h2]⟩
   ·exact ⟨_, _, h1⟩
  go_wp2_with fail
  go_ret
  exact ⟨_, rfl, HF.out, (Below.refl _ _).alloc (Nat.le_refl _) _ |>.grown h2 (by simp) (fun k e => by cases e; simp)⟩
set_option maxRecDepth 100000 in
set_option maxHeartbeats 800000 in
theorem int_divide_less {A A' : Option Addr} {n m c c' a b : Nat} {w : World} (h : Words w (.slice A n c) (limbs a)) (h' : Words w (.slice A' m c') (limbs b)) (hab : a < b) :
  Calls Tryz.prog 231 #[.slice A n c, .slice A' m c'] w (Ret w (DivRes a b)) := by
 have hC := int_compare h h'
 rw [cmpW_limbs, if_pos hab] at hC
 have HC := Lib.hid hC
 have H := Lib.hid (fun w1 (hx : Ext w w1) => int_clone (h.ext hx))
 clear hC h h'
 go_enter Tryz.func231, Tryz.ntmps231
 go_wp2_with fail
 refine HC.out.mono ?_
 rintro e w1 ⟨rfl, hx⟩
 go_wp2_with fail
 refine (H.out _ hx).mono ?_
 rintro e w2 ⟨v2, rfl, hv2, hx2⟩
 have HW := Lib.hid hv2
 clear hv2
 go_wp2_with fail
 go_ret2
 exact ⟨_, rfl, ⟨_, _, rfl, by rw [Nat.div_eq_of_lt hab, limbs_zero]; exact Words.nil _, by rw [Nat.mod_eq_of_lt hab]; exact HW.out⟩, (by repeat first|exact xA _|assumption|refine xB ?_ _|refine xC ?_|refine xD ?_ _|refine xE ?_ (by simp <;> omega) _|refine xF ?_ (by assumption))⟩
set_option maxRecDepth 100000 in
set_option maxHeartbeats 1600000 in
theorem int_divide_small {A A' : Option Addr} {n m c c' a b : Nat} {w : World} (h : Words w (.slice A n c) (limbs a)) (h' : Words w (.slice A' m c') (limbs b)) (hab : b ≤ a) (hb : 0 < b) (hn : n ≤ 2) :
  Calls Tryz.prog 231 #[.slice A n c, .slice A' m c'] w (Ret w (DivRes a b)) := by
 have hC := int_compare h h'
 rw [cmpW_limbs, if_neg (by omega)] at hC
 obtain ⟨r, hr, hr0⟩ : ∃ r : Int, (if b < a then (1 : Int) else 0) = r ∧ 0 ≤ r := ⟨_, rfl, by split <;> omega⟩
 rw [hr] at hC
 have HC := Lib.hid hC
 have hl := h.len
 have hl' := h'.len
 have hm : m ≤ 2 := by have := limbs_length_mono hab; omega
 have hs := fun w' (hx : Ext w w') => int_toUint (h.ext hx) hn
 have hs' := fun w' (hx : Ext w w') => int_toUint (h'.ext hx) hm
 rw [val_limbs] at hs hs'
 have HS := Lib.hid hs
 have HS' := Lib.hid hs'
 have ha2 : a < 18446744073709551616 := words_two (by omega)
 clear hC hr h h' hs hs' hl hl' hm
 go_enter Tryz.func231, Tryz.ntmps231
 go_wp2_with fail
 refine HC.out.mono ?_
 rintro e w1 ⟨rfl, hx⟩
 go_wp2_with fail
 refine (HS.out _ hx).mono ?_
 rintro e w2 ⟨rfl, hx2⟩
 have hE2 : Ext w w2 := Ext.trans hx hx2
 clear hx hx2
 go_wp2_with fail
 refine (HS'.out _ hE2).mono ?_
 rintro e w3 ⟨rfl, hx3⟩
 have hE3 : Ext w w3 := Ext.trans hE2 hx3
 clear hE2 hx3
 go_wp2_with fail
 have hb0 : ¬ ((b : Int) = 0) := by omega
 have hb1 : ((b : Int) == 0) = false := by simp; omega
 have hq : ∀ W, Calls Tryz.prog 136 #[.int .u64 (IntKind.u64.wrap ((a : Int) / (b : Int)))] W (Ret W fun v w' => Words w' v (limbs (a / b))) := fun W => by
  have h1 : a / b ≤ a := Nat.div_le_self _ _
  have e : IntKind.u64.wrap ((a : Int) / (b : Int)) = ((a / b : Nat) : Int) := by
   rw [← Int.natCast_ediv, IntKind.wrap_u64]
   generalize a / b = q at *
   omega
  rw [e]
  exact int_fromUint (a / b) (by omega) W
 have hr : ∀ (x : Int) W, x = ((a % b : Nat) : Int) → Calls Tryz.prog 136 #[.int .u64 x] W (Ret W fun v w' => Words w' v (limbs (a % b))) := fun x W hx => by
  have h1 : a % b ≤ a := Nat.mod_le _ _
  rw [hx]
  exact int_fromUint (a % b) (by omega) W
 have HQ := Lib.hid hq
 have HR := Lib.hid hr
 clear ha2 hq hr HC HS HS'
 go_region_with (first
  | (go_at_call_of 136 (IntKind.u64.wrap ((a : Int) / (b : Int))); refine (HQ.out _).mono ?_; rintro e w2 ⟨v, rfl, hv, hx2⟩)
  | (go_at_call_of 136 ((a : Int) % (b : Int)); refine (HR.out _ _ (Int.natCast_emod a b).symm).mono ?_; rintro e w3 ⟨v', rfl, hv', hx3⟩)
  | (go_at_call_of 136 ((a : Int).tmod (b : Int)); refine (HR.out _ _ (Int.ofNat_tmod a b).symm).mono ?_; rintro e w3 ⟨v', rfl, hv', hx3⟩))
 all_goals
  go_wp2_with fail
  go_ret2
  exact ⟨_, rfl, ⟨_, _, rfl, by first | exact hv | exact hv.ext hx3, by first | exact hv' | exact hv'.ext hx2⟩, (by repeat first|exact xA _|assumption|refine xB ?_ _|refine xC ?_|refine xD ?_ _|refine xE ?_ (by simp <;> omega) _|refine xF ?_ (by assumption))⟩
set_option maxRecDepth 100000 in
set_option maxHeartbeats 1600000 in
theorem int_divide_word {A A' : Option Addr} {n c c' a b : Nat} {w : World} (h : Words w (.slice A n c) (limbs a)) (h' : Words w (.slice A' 1 c') (limbs b)) (hn : 2 < n) :
  Calls Tryz.prog 231 #[.slice A n c, .slice A' 1 c'] w (Ret w (DivRes a b)) := by
 have hl := h.len
 have hl' := h'.len
 have hba : b < a := lt_of_limbs_length_lt (by omega)
 have hC := int_compare h h'
 rw [cmpW_limbs, if_neg (by omega), if_pos hba] at hC
 have HC := Lib.hid hC
 have hb2 : b < 4294967296 := by
  have h1 := val_lt (limb_limbs b)
  rw [val_limbs, ← hl'.1] at h1
  simpa using h1
 have hb0 : 0 < b := by
  rcases Nat.eq_zero_or_pos b with h0 | h0
  ·have := hl'.1; rw [h0, limbs_zero] at this; simp at this
  ·exact h0
 have hbl : (limbs b).getD 0 0 = b := by
  have := val_limbs b
  match hm : limbs b, hl'.1 with
  | [x], _ => rw [hm] at this; simpa [val] using this
 obtain ⟨bb, off, rfl, hbb, -, hcell⟩ := h'.at_ (k := 0) (by omega)
 have g1 := hcell 0 (by omega)
 rw [hbl, Nat.add_zero] at g1
 have hby := fun w' (hx : Ext w w') => int_divideWord (h.ext hx) hb0 hb2
 rw [val_limbs] at hby
 have HB := Lib.hid hby
 have hlc : n ≤ 35184372088832 := by omega
 have hl1 := hl'.2.1
 clear hC h h' hl hl' hby hba hcell hbl
 go_enter Tryz.func231, Tryz.ntmps231
 go_wp2_with fail
 refine HC.out.mono ?_
 rintro e w1 ⟨rfl, hx⟩
 have g2 : w1.cell? ⟨bb, off, none⟩ = some (.int .u32 (b : Int)) := (hx.cell (p := ⟨bb, off, none⟩) hbb).trans g1
 clear g1
 go_wp2_with fail
 refine (HB.out _ hx).mono ?_
 rintro e w2 ⟨v, rfl, ⟨v1, v2, rfl, hv1, hv2⟩, hx2⟩
 have HV1 := Lib.hid hv1
 have HV2 := Lib.hid hv2
 clear hv1 hv2 HC HB g2
 go_wp2_with fail
 go_ret2
 exact ⟨_, rfl, ⟨_, _, rfl, HV1.out, HV2.out⟩, (by repeat first|exact xA _|assumption|refine xB ?_ _|refine xC ?_|refine xD ?_ _|refine xE ?_ (by simp <;> omega) _|refine xF ?_ (by assumption))⟩
end Go.Proofs.YtceobmnljdhkmaaGreatDoor
namespace Go.Proofs.YtceobmnljdhkmaaGreatDoor
open Go Go.RowKit
/-- What is asked of the count of leading zeros. -/
def LZ32 : Prop := ∀ (x : Nat) (w : World), 0 < x → x < 4294967296 → Calls Tryz.prog 285 #[.int .u32 (x : Int)] w fun e w' => e = .returned (.int .i64 ((32 - blen x : Nat) : Int)) ∧ w = w'
theorem drop_of_part {us xs : List Nat} {j k : Nat} (hv : val (xs.drop j) < 4294967296 ^ k) (hs : ∀ t, j + k ≤ t → us.getD t 0 = xs.getD t 0) : val (us.drop j) = val (part us j k) := by
 apply val_congr
 intro t
 unfold part
 by_cases ht : t < k
 ·rw [getD_take ht]
 ·rw [getD_drop, hs _ (by omega), ← getD_drop, zero_of_val_lt hv (by omega), getD_of_le (by rw [List.length_take]; omega)]
theorem take_of_same {us xs : List Nat} {j : Nat} (hl : us.length = xs.length) (hs : ∀ t, t < j → us.getD t 0 = xs.getD t 0) : us.take j = xs.take j := by
 apply ext_getD (by rw [List.length_take, List.length_take, hl])
 intro t htl
 rw [List.length_take] at htl
 rw [getD_take (by omega), getD_take (by omega)]
 exact hs t (by omega)
/-- What a guess of a quotient's digit rests on: the dividend's part U, the divisor V, their highest words. -/
structure Guess (U V B q t h n x : Nat) : Prop where
 hB : 0 < B
 hq : q * V ≤ U
 hq' : U < (q + 1) * V
 hqs : q < 4294967296
 hh : 2147483648 ≤ h
 hh' : h < 4294967296
 hn : n < 4294967296
 hx : x < 4294967296
 hU : U / B = x + 4294967296 * t
 hV : (n + 4294967296 * h) * B ≤ V
 hV' : V < (n + 4294967296 * h + 1) * B
 hUV : t < (h + 1) * 4294967296
theorem Guess.first {U V B q t h n x : Nat} (g : Guess U V B q t h n x) : q ≤ t / h ∧ t / h ≤ 4294967297 ∧ h * (t / h) + t % h = t ∧ t % h < 4294967296 := by
 have hh := g.hh
 have h1 : U / (4294967296 * B) = t := by
  rw [Nat.mul_comm, ← Nat.div_div_eq_div_mul, g.hU]
  have := g.hx
  omega
 have h2 : h * (4294967296 * B) ≤ V := by
  refine Nat.le_trans ?_ g.hV
  rw [← Nat.mul_assoc]
  exact Nat.mul_le_mul_right _ (by omega)
 refine ⟨digit_upper h1 h2 (Nat.mul_pos (by omega) g.hB) (by omega) g.hq, ?_, Nat.div_add_mod t h, Nat.lt_trans (Nat.mod_lt t (by omega)) g.hh'⟩
 have h3 := g.hUV
 have h4 := g.hh'
 rw [Nat.add_mul, Nat.one_mul] at h3
 have h5 : t < 4294967298 * h := by omega
 have := Nat.div_lt_of_lt_mul (by rw [Nat.mul_comm] at h5; exact h5)
 omega
theorem Guess.great {U V B q t h n x d r : Nat} (g : Guess U V B q t h n x) (hdr : h * d + r = t) (hc : x + 4294967296 * r < d * n) : q < d := by
 refine digit_too_great g.hU g.hV g.hB g.hq ?_
 rw [← hdr, Nat.mul_add d, Nat.mul_add 4294967296, Nat.mul_left_comm d, Nat.mul_comm d h]
 omega
theorem Guess.near {U V B q t h n x d r : Nat} (g : Guess U V B q t h n x) (hdr : h * d + r = t) (hd : d < 4294967296) (hqd : q ≤ d) (hc : d * n ≤ x + 4294967296 * r) : d = q ∨ d = q + 1 := by
 have h1 : d * (n + 4294967296 * h) ≤ x + 4294967296 * t := by
  rw [← hdr, Nat.mul_add d, Nat.mul_add 4294967296, Nat.mul_left_comm d, Nat.mul_comm d h]
  omega
 have h2 : (x + 4294967296 * t) * B ≤ U := by rw [← g.hU]; exact Nat.div_mul_le_self _ _
 have h3 : d * B ≤ 4294967296 * B := Nat.mul_le_mul_right _ (by omega)
 have h4 : 4294967296 * B ≤ V := Nat.le_trans (Nat.mul_le_mul_right _ (by have := g.hh; omega)) g.hV
 have := digit_near h2 g.hV' h3 h4 g.hq' h1
 omega
theorem Guess.low {U V B q t h n x d r : Nat} (g : Guess U V B q t h n x) (hdr : h * d + r = t) (hd : d ≤ 4294967296) (hqd : q ≤ d) (hr : 4294967296 ≤ r) : d = q := by
 have h2 : t * (4294967296 * B) ≤ U := by
  refine Nat.le_trans ?_ (Nat.div_mul_le_self U B)
  rw [g.hU, ← Nat.mul_assoc]
  exact Nat.mul_le_mul_right _ (by omega)
 have h3 : V ≤ (h + 1) * (4294967296 * B) := by
  refine Nat.le_trans (Nat.le_of_lt g.hV') ?_
  rw [← Nat.mul_assoc]
  exact Nat.mul_le_mul_right _ (by have := g.hn; omega)
 have := digit_low h2 h3 hd (by rw [Nat.mul_comm d h]; omega) g.hq'
 omega
/-- The guess at a place of the division's loop. -/
theorem guess_at {xs ys : List Nat} {j p V : Nat} (hL : Limb xs) (hY : Limb ys) (hyl : p + 2 ≤ ys.length) (hV : val ys = V) (hV1 : 4294967296 ^ (p + 1) * 2147483648 ≤ V) (hV2 : V < 4294967296 ^ (p + 2)) (hU : val (xs.drop j) < V * 4294967296) :
  Guess (val (xs.drop j)) V (4294967296 ^ p) (val (xs.drop j) / V) (xs.getD (j + p + 1) 0 + 4294967296 * xs.getD (j + p + 2) 0) (ys.getD (p + 1) 0) (ys.getD p 0) (xs.getD (j + p) 0) := by
 have hB : 0 < 4294967296 ^ p := pow_pos' p
 have hV0 : 0 < V := Nat.lt_of_lt_of_le (Nat.mul_pos (pow_pos' (p + 1)) (by omega)) hV1
 have eY : V = val (ys.take p) + 4294967296 ^ p * (ys.getD p 0 + 4294967296 * ys.getD (p + 1) 0) := by
  have h1 : val (ys.take (p + 2)) = val ys := val_take_of_lt (by rw [hV]; exact hV2)
  rw [← hV, ← h1, val_take_next, val_take_next, Nat.pow_succ, Nat.mul_add, Nat.mul_assoc, Nat.add_assoc]
 have hyt : val (ys.take p) < 4294967296 ^ p := by
  have := val_lt (hY.take p)
  rwa [List.length_take, Nat.min_eq_left (by omega)] at this
 have eU : val (xs.drop j) = val (part xs j p) + 4294967296 ^ p * (xs.getD (j + p) 0 + 4294967296 * (xs.getD (j + p + 1) 0 + 4294967296 * xs.getD (j + p + 2) 0)) := by
  have h1 : val (part xs j (p + 3)) = val (xs.drop j) := val_take_of_lt (Nat.lt_of_lt_of_le hU (by rw [Nat.pow_succ]; exact Nat.mul_le_mul_right _ (Nat.le_of_lt hV2)))
  rw [← h1, part_next, part_next, part_next, Nat.pow_succ, Nat.pow_succ]
  rw [show j + (p + 2) = j + p + 2 by omega, show j + (p + 1) = j + p + 1 by omega]
  simp only [Nat.mul_add, Nat.mul_assoc, Nat.add_assoc]
  rw [Nat.pow_succ]
  simp only [Nat.mul_assoc]
 have hut : val (part xs j p) < 4294967296 ^ p := by
  have h1 := val_lt (((hL.drop j).take p))
  refine Nat.lt_of_lt_of_le h1 (Nat.pow_le_pow_right (by omega) ?_)
  rw [List.length_take]; omega
 have hy1 := hY.getD (p + 1)
 have hy0 := hY.getD p
 have hx0 := hL.getD (j + p)
 generalize val (part xs j p) = a at *
 generalize val (ys.take p) = b at *
 generalize val (xs.drop j) = U at *
 generalize xs.getD (j + p) 0 = x0 at *
 generalize xs.getD (j + p + 1) 0 = x1 at *
 generalize xs.getD (j + p + 2) 0 = x2 at *
 generalize ys.getD (p + 1) 0 = h at *
 generalize ys.getD p 0 = n at *
 have hUd : U / 4294967296 ^ p = x0 + 4294967296 * (x1 + 4294967296 * x2) := by
  rw [eU, Nat.add_mul_div_left _ _ hB, Nat.div_eq_of_lt hut, Nat.zero_add]
 have hVd : V / 4294967296 ^ p = n + 4294967296 * h := by
  rw [eY, Nat.add_mul_div_left _ _ hB, Nat.div_eq_of_lt hyt, Nat.zero_add]
 refine ⟨hB, Nat.div_mul_le_self _ _, ?_, ?_, ?_, hy1, hy0, hx0, hUd, ?_, ?_, ?_⟩
 ·have := Nat.lt_mul_div_succ U hV0
  rwa [Nat.mul_comm] at this
 ·exact Nat.div_lt_of_lt_mul hU
 ·have h1 : 4294967296 * 2147483648 ≤ V / 4294967296 ^ p := by
   rw [Nat.le_div_iff_mul_le hB]
   rw [Nat.pow_succ] at hV1
   refine Nat.le_trans (Nat.le_of_eq ?_) hV1
   rw [Nat.mul_comm, Nat.mul_assoc]
  rw [hVd] at h1
  omega
 ·rw [← hVd]; exact Nat.div_mul_le_self _ _
 ·rw [← hVd, Nat.mul_comm]; exact Nat.lt_mul_div_succ V hB
 ·have h1 : U / 4294967296 ^ p < (n + 4294967296 * h + 1) * 4294967296 := by
   apply Nat.div_lt_of_lt_mul
   refine Nat.lt_of_lt_of_le hU ?_
   have h2 : V < (n + 4294967296 * h + 1) * 4294967296 ^ p := by rw [← hVd, Nat.mul_comm]; exact Nat.lt_mul_div_succ V hB
   refine Nat.le_trans (Nat.mul_le_mul_right 4294967296 (Nat.le_of_lt h2)) (Nat.le_of_eq ?_)
   rw [Nat.mul_comm _ (4294967296 ^ p), Nat.mul_assoc]
  rw [hUd] at h1
  have h3 : (n + 4294967296 * h + 1) * 4294967296 ≤ 4294967296 * (4294967296 * (h + 1)) := by
   rw [Nat.mul_comm]; exact Nat.mul_le_mul_left _ (by omega)
  omega
end Go.Proofs.YtceobmnljdhkmaaGreatDoor
namespace Go.Proofs.YtceobmnljdhkmaaGreatDoor
open Go Go.RowKit Go.Proofs.YtceobmnljdhkmaaGreatDoor.Ev
noncomputable def ltB (a b : Nat) : Bool := Nat.ble (Nat.succ a) b
theorem ltB_yes {a b : Nat} (h : ltB a b = true) : a < b := Nat.le_of_ble_eq_true h
theorem ltB_no {a b : Nat} (h : ltB a b = false) : ¬ a < b := fun e => by
 have : ltB a b = true := Nat.ble_eq_true_of_le e
 rw [h] at this
 cases this
theorem lenN_length : ∀ xs : List Nat, lenN xs = xs.length
 | [] => rfl
 | _ :: xs => by
  show Nat.succ (lenN xs) = _
  rw [lenN_length xs]
  rfl
noncomputable def cmpA (xs ys : List Nat) : AV := Bool.rec (Bool.rec (Bool.rec (Bool.rec (.i .i64 0) (.i .i64 1) (ltB (valN ys) (valN xs))) (.m .i64 0) (ltB (valN xs) (valN ys))) (.i .i64 1) (ltB (lenN ys) (lenN xs))) (.m .i64 0) (ltB (lenN xs) (lenN ys))
theorem cmpA_ok (xs ys : List Nat) (Γ : Map) : CR Γ (cmpA xs ys) (.int .i64 (cmpW xs ys)) := by
 unfold cmpA cmpW
 rw [← lenN_length xs, ← lenN_length ys, ← valN_val xs, ← valN_val ys]
 cases h1 : ltB (lenN xs) (lenN ys) with
 | true => rw [if_pos (ltB_yes h1)]; exact .m _ _
 | false =>
  rw [if_neg (ltB_no h1)]
  cases h2 : ltB (lenN ys) (lenN xs) with
  | true => rw [if_pos (ltB_yes h2)]; exact .i _ _
  | false =>
   rw [if_neg (ltB_no h2)]
   cases h3 : ltB (valN xs) (valN ys) with
   | true => rw [if_pos (ltB_yes h3)]; exact .m _ _
   | false =>
    rw [if_neg (ltB_no h3)]
    cases h4 : ltB (valN ys) (valN xs) with
    | true => rw [if_pos (ltB_yes h4)]; exact .i _ _
    | false => rw [if_neg (ltB_no h4)]; exact .i _ _
noncomputable def cmpK (m : Nat) : List AV → St → KS → OR := fun args st k => two2 args fun a b => wordsK m a st fun xs => wordsK m b st fun ys => k (cmpA xs ys) st
theorem cmpK_ok {f : FuncId} {m : Nat} (hU : ∀ (w : World) (v v' : Value) (xs ys : List Nat), SlW w v xs → SlW w v' ys → xs.length ≤ m → ys.length ≤ m → Calls Tryz.prog f #[v, v'] w fun e w' => e = .returned (.int .i64 (cmpW xs ys)) ∧ Below w.heap.size w w') : CallOK Tryz.prog f (cmpK m) := fun {args st k r Γ w vs} h hs hc => by
 obtain ⟨a, b, rfl, h0⟩ := two2_spec h
 obtain ⟨va, vb, rfl, hva, hvb⟩ := hc.inv2
 obtain ⟨xs, h1, h2, h3⟩ := wordsK_spec h0 hs hva
 obtain ⟨ys, h4, h5, h6⟩ := wordsK_spec h1 hs hvb
 intro R hR
 refine Calls.mono (hU w va vb xs ys h2 h5 h3 h6) ?_
 rintro e w' ⟨rfl, hx⟩
 exact hR _ _ _ w' Γ h4 (Grow.ext hs hx) (cmpA_ok xs ys Γ)
theorem ev_compare {w : World} {v v' : Value} {xs ys : List Nat} (h : SlW w v xs) (h' : SlW w v' ys) (hm : xs.length ≤ 1100000) (hm' : ys.length ≤ 1100000) : Calls Tryz.prog 254 #[v, v'] w fun e w' => e = .returned (.int .i64 (cmpW xs ys)) ∧ Below w.heap.size w w' := by
 have hw := slWords h hm
 have hw' := slWords h' hm'
 obtain ⟨A, c, rfl, _⟩ := h
 obtain ⟨A', c', rfl, _⟩ := h'
 exact int_compare hw hw'
theorem ev_compareR {w : World} {v v' : Value} {xs ys : List Nat} (h : SlW w v xs) (h' : SlW w v' ys) (hm : xs.length ≤ 1100000) (hm' : ys.length ≤ 1100000) : Calls Tryz.prog 146 #[v, v'] w fun e w' => e = .returned (.int .i64 (cmpW xs ys)) ∧ Below w.heap.size w w' := by
 have hw := slWords h hm
 have hw' := slWords h' hm'
 obtain ⟨A, c, rfl, _⟩ := h
 obtain ⟨A', c', rfl, _⟩ := h'
 exact ref01_compare hw hw'
theorem ev_SignR {w : World} {s : Bool} {v : Value} {xs : List Nat} (h : SlW w v xs) (hm : xs.length ≤ 1100000) : Calls Tryz.prog 47 #[.agg #[.bool s, v]] w fun e w' => e = .returned (.int .i64 (signZ s (tlenK xs))) ∧ Below w.heap.size w w' := by
 have hw := slWords h hm
 obtain ⟨A, c, rfl, _⟩ := h
 refine (ref01_Sign s hw).mono fun e w' h => ?_
 obtain ⟨rfl, hx⟩ := h
 refine ⟨?_, hx⟩
 rw [tlen_trim]
 rfl
/-- A value that is read off a rational's numerator. -/
noncomputable def ofNumK (m : Nat) (g : Bool → List Nat → AV) : List AV → St → KS → OR := fun args st k => one1 args fun a => Option.rec none (fun q => wordsK m q.2.1 st fun xs => k (g q.1 xs) st) (agg4 a)
theorem ofNumK_ok {f : FuncId} {m : Nat} {g : Bool → List Nat → AV} (gv : Bool → List Nat → Value) (hg : ∀ s xs Γ, CR Γ (g s xs) (gv s xs))
  (hU : ∀ (w : World) (n d : Bool) (v v' : Value) (xs : List Nat), SlW w v xs → xs.length ≤ m → Calls Tryz.prog f #[.agg #[.bool n, v, .bool d, v']] w fun e w' => e = .returned (gv n xs) ∧ Below w.heap.size w w') : CallOK Tryz.prog f (ofNumK m g) := fun {args st k r Γ w vs} h hs hc => by
 obtain ⟨a, rfl, h0⟩ := one1_spec h
 obtain ⟨v, rfl, hv⟩ := hc.inv1
 cases ha : agg4 a with
 | none => rw [ha] at h0; cases h0
 | some q =>
  rw [ha] at h0
  have e := agg4_spec ha
  subst e
  obtain ⟨vs, rfl, hcs⟩ := hv.inv_agg
  cases hcs with
  | cons c1 hcs => cases hcs with
   | cons c2 hcs => cases hcs with
    | cons c3 hcs => cases hcs with
     | cons c4 hcs =>
      cases hcs
      obtain ⟨xs, h1, h2, h3⟩ := wordsK_spec (h0 : wordsK m q.2.1 st _ = some r) hs c2
      rw [c1.inv_b, c3.inv_b]
      intro R hR
      refine Calls.mono (hU w q.1 q.2.2.1 _ _ xs h2 h3) ?_
      rintro e w' ⟨rfl, hx⟩
      exact hR _ _ _ w' Γ h1 (Grow.ext hs hx) (hg _ _ Γ)
theorem ev_ratSign {w : World} {n d : Bool} {v v' : Value} {xs : List Nat} (h : SlW w v xs) (hm : xs.length ≤ 1100000) : Calls Tryz.prog 33 #[.agg #[.bool n, v, .bool d, v']] w fun e w' => e = .returned (.int .i64 (signZ n (tlenK xs))) ∧ Below w.heap.size w w' := by
 have hw := slWords h hm
 refine (rat_Sign (q := ⟨⟨n, xs⟩, ⟨d, []⟩⟩) hw).mono fun e w' h => ?_
 obtain ⟨rfl, hx⟩ := h
 refine ⟨?_, hx⟩
 rw [tlen_trim]
 rfl
set_option maxHeartbeats 800000 in
theorem rat_one_own (w : World) :
  Calls Tryz.prog 139 #[] w (Ret w fun r w' => OwnI w w' false 1 r) := by
 have HF := Lib.hid (fun w1 => int_FromInt_own 1 (by omega) w1)
 go_enter Tryz.func139, Tryz.ntmps139
 go_wp2_with fail
 refine (HF.out _).mono ?_
 rintro e w1 ⟨v1, rfl, ho1, hx1⟩
 have HB := BoxI.new w false (.slice none 0 0) 55 (by simp)
 have HB1 := Lib.hid (HB.ext hx1)
 have hz : (w.alloc (.cells #[.bool false, .slice none 0 0] 55)).heap.size = w.heap.size + 1 := by simp
 have HX := Lib.hid (Ext.trans (Ext.alloc w (.cells #[.bool false, .slice none 0 0] 55)) hx1)
 unfold OwnI at ho1
 rw [if_neg (by omega)] at ho1
 obtain ⟨v, rfl, hu⟩ := ho1
 obtain ⟨g4, hg4, hg4', rfl⟩ := ownU_lt hu
 have HU := Lib.hid hu
 obtain ⟨y0, y1, y2, y3, -, -⟩ := HB1.out
 have hb1 : w.heap.size < w1.heap.size := by omega
 clear hu hx1 HB
 generalize uLen 1 = k at *
 go_wp2_with fail
 refine bodyPost_ret (v := .agg #[.bool false, .slice (some ⟨g4, 0, none⟩) k 2]) ?_ rfl ⟨_, rfl, ?_, ?_⟩
 ·simp [results, Tryz.results139, go_sem, y0, y1]
 ·show OwnI _ _ _ _ _
  unfold OwnI
  rw [if_neg (by omega)]
  exact ⟨_, rfl, ownU_base (ownU_set (ownU_set HU.out (by show w.heap.size < _; omega) _) (by show w.heap.size < _; omega) _) (by omega)⟩
 ·exact (HX.out.pset (by simp <;> omega) _).pset (by simp <;> omega) _
noncomputable def oneK : List AV → St → KS → OR := fun args st k => List.rec (sgW false 1 st k) (fun _ _ _ => none) args
theorem oneK_ok : CallOK Tryz.prog 139 oneK := fun {args st k r Γ w vs} h hs hc => by
 cases args with
 | cons a l => cases h
 | nil =>
 cases hc
 have h : sgW false 1 st k = some r := h
 intro R hR
 refine Calls.mono (rat_one_own w) ?_
 rintro e w' ⟨v, rfl, ho, hx⟩
 obtain ⟨av, st', Γ', h1, h2, h3⟩ := sgW_spec h hs hx ho
 exact hR _ _ _ w' Γ' h1 h2 h3
end Go.Proofs.YtceobmnljdhkmaaGreatDoor
