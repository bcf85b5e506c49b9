/- Contracts of the program's layer 1: compare, divideWord, shiftLeft. -/
import Derived.Test.YtonleohlplkglaaGreatDoorYB
import Derived.BigRegion
import Derived.Lib.SliceRun
import Derived.Deep.AppendLies
import Derived.Deep.CutBlock
import Derived.Shelf.Small.Bits
import Derived.Shelf.Strings.BuilderK
import Derived.Shelf.Strings.Repeat
import Derived.Shelf.Strconv.Itoa1
import Derived.Shelf.LaysM
import Derived.Shelf.Strconv.Itoa2
import Derived.Lib.AppendIntMem
namespace Go.Proofs.YtonleohlplkglaaGreatDoor
open Go Go.RowKit
theorem cmp_int (x y : Int) (w : World) : Calls Tryz.prog 177 #[.int .i64 x, .int .i64 y] w fun e w' => e = .returned (.int .i64 (if x < y then -1 else if y < x then 1 else 0)) ∧ w = w' := by
 rcases Int.lt_trichotomy x y with h | h | h
 ·have h1 : decide (x < y) = true := by simpa using h
  rw [if_pos h]
  go_enter Tryz.func177, Tryz.ntmps177
  go_wp2
  go_ret
  exact ⟨rfl, rfl⟩
 ·subst h
  rw [if_neg (Int.lt_irrefl _), if_neg (Int.lt_irrefl _)]
  go_enter Tryz.func177, Tryz.ntmps177
  go_wp2
  go_ret
  exact ⟨rfl, rfl⟩
 ·have h1 : decide (x < y) = false := by simp; omega
  have h2 : decide (y < x) = true := by simpa using h
  rw [if_neg (by omega), if_pos h]
  go_enter Tryz.func177, Tryz.ntmps177
  go_wp2
  go_ret
  exact ⟨rfl, rfl⟩
theorem cmp_u32 (x y : Nat) (w : World) : Calls Tryz.prog 178 #[.int .u32 (x : Int), .int .u32 (y : Int)] w fun e w' => e = .returned (.int .i64 (if x < y then -1 else if y < x then 1 else 0)) ∧ w = w' := by
 rcases Nat.lt_trichotomy x y with h | h | h
 ·have h1 : decide (x < y) = true := by simpa using h
  rw [if_pos h]
  go_enter Tryz.func178, Tryz.ntmps178
  go_wp2
  go_ret
  exact ⟨rfl, rfl⟩
 ·subst h
  rw [if_neg (Nat.lt_irrefl _), if_neg (Nat.lt_irrefl _)]
  go_enter Tryz.func178, Tryz.ntmps178
  go_wp2
  go_ret
  exact ⟨rfl, rfl⟩
 ·have h1 : decide (x < y) = false := by simp; omega
  have h2 : decide (y < x) = true := by simpa using h
  rw [if_neg (by omega), if_pos h]
  go_enter Tryz.func178, Tryz.ntmps178
  go_wp2
  go_ret
  exact ⟨rfl, rfl⟩
set_option maxHeartbeats 800000 in
theorem int_compare {A B : Option Addr} {n m c d : Nat} {xs ys : List Nat} {w : World} (h : Words w (.slice A n c) xs) (k : Words w (.slice B m d) ys) :
  Calls Tryz.prog 154 #[.slice A n c, .slice B m d] w fun e w' => e = .returned (.int .i64 (cmpW xs ys)) ∧ Ext w w' := by
 obtain ⟨rfl, hl, hm⟩ := h.len
 obtain ⟨rfl, kl, km⟩ := k.len
 by_cases h0 : xs.length = ys.length
 ·have hL := h.limb
  have kL := k.limb
  have H := Lib.hid h
  have K := Lib.hid k
  clear h k
  have h1 : ((xs.length : Int) != (xs.length : Int)) = false := by simp
  have H0 := Lib.hid h0
  rw [← h0] at K ⊢
  clear h0
  go_enter Tryz.func154, Tryz.ntmps154
  go_wp2
  go_loopw [5] (fun i wr => ∃ k : Nat, k ≤ xs.length ∧ i = .int .i64 ((k : Int) - 1) ∧ Hid (xs.drop k = ys.drop k) ∧ Ext w wr) (fun i _ => (intOf i + 1).toNat)
  case atStart => exact ⟨xs.length, Nat.le_refl _, rfl, by show _ = _; rw [List.drop_length, H0.out, List.drop_length], Ext.refl _⟩
  case round =>
   obtain ⟨k, hk, rfl, HD, hE⟩ := hrel
   by_cases hk0 : 0 < k
   ·obtain ⟨j, rfl⟩ : ∃ j, k = j + 1 := ⟨k - 1, by omega⟩
    obtain ⟨b, off, rfl, hb, -, hcell⟩ := (H.out.ext hE).at_ (k := j) (by omega)
    obtain ⟨b', off', rfl, hb', -, hcell'⟩ := (K.out.ext hE).at_ (k := j) (by omega)
    have g1 := hcell j (by omega)
    have g2 := hcell' j (by omega)
    clear hcell hcell'
    have HL : Hid (xs.getD j 0 < ys.getD j 0 → cmpW xs ys = -1) := fun hlt => cmpW_less hL H0.out (by omega) HD.out hlt
    have HM : Hid (ys.getD j 0 < xs.getD j 0 → cmpW xs ys = 1) := fun hlt => cmpW_more kL H0.out (by omega) HD.out hlt
    have HD' : Hid (xs.getD j 0 = ys.getD j 0 → xs.drop j = ys.drop j) := fun he => by rw [drop_getD xs (by omega), drop_getD ys (by have := H0.out; omega), he, HD.out]
    generalize xs.getD j 0 = x at *
    generalize ys.getD j 0 = y at *
    by_cases hxy : x = y
    ·subst hxy
     go_wp2_with fail
     go_quiet (fail)
     go_wp2_with fail
     exact ⟨⟨j, by omega, rfl, HD'.out trivial, (by repeat first|exact xA _|assumption|refine xB ?_ _|refine xC ?_|refine xD ?_ _|refine xE ?_ (by simp <;> omega) _|refine xF ?_ (by assumption))⟩, by simp [intOf]⟩
    ·have hne : ((x : Int) != (y : Int)) = true := by simp; omega
     have HR : Hid ((if x < y then (-1 : Int) else if y < x then 1 else 0) = cmpW xs ys) := by
      show _ = _
      rcases Nat.lt_trichotomy x y with h | h | h
      ·rw [if_pos h, HL.out h]
      ·exact absurd h hxy
      ·rw [if_neg (by omega), if_pos h, HM.out h]
     have HCM := Lib.hid (fun w1 => cmp_u32 x y w1)
     generalize (if x < y then (-1 : Int) else if y < x then 1 else 0) = r at *
     clear hxy
     go_wp2_with fail
     go_quiet (fail)
     have q1 : (wr.drewN nq).cell? ⟨b, off + j, none⟩ = some (.int .u32 (x : Int)) := g1
     have q2 : (wr.drewN nq).cell? ⟨b', off' + j, none⟩ = some (.int .u32 (y : Int)) := g2
     have hEq : Ext w (wr.drewN nq) := hE.pdrewN nq
     clear g1 g2 hb hb'
     generalize wr.drewN nq = wq at *
     go_wp2_with fail
     go_quiet ((go_at_call 178; exact quiet_left (HCM.out _)))
     go_wp2_with fail
     go_ret
     exact ⟨by rw [← HR.out]; rfl, (by repeat first|exact xA _|assumption|refine xB ?_ _|refine xC ?_|refine xD ?_ _|refine xE ?_ (by simp <;> omega) _|refine xF ?_ (by assumption))⟩
   ·obtain rfl : k = 0 := by omega
    have HC : Hid (cmpW xs ys = 0) := by
     have := HD.out; simp only [List.drop_zero] at this; rw [this]; exact cmpW_same _
    go_wp2_with fail
    go_ret
    exact ⟨by rw [HC.out]; rfl, hE⟩
 ·have h1 : ((xs.length : Int) != (ys.length : Int)) = true := by simp; omega
  have HR : Hid ((if (xs.length : Int) < (ys.length : Int) then (-1 : Int) else if (ys.length : Int) < (xs.length : Int) then 1 else 0) = cmpW xs ys) := by
   show _ = _
   rcases Nat.lt_trichotomy xs.length ys.length with h | h | h
   ·rw [if_pos (by omega), cmpW_short h]
   ·exact absurd h h0
   ·rw [if_neg (by omega), if_pos (by omega), cmpW_long h]
  have HCM := Lib.hid (fun w1 => cmp_int (xs.length : Int) (ys.length : Int) w1)
  generalize (if (xs.length : Int) < (ys.length : Int) then (-1 : Int) else if (ys.length : Int) < (xs.length : Int) then 1 else 0) = r at *
  clear h k h0
  generalize xs.length = n at *
  generalize ys.length = m at *
  go_enter Tryz.func154, Tryz.ntmps154
  go_wp2_with fail
  refine (HCM.out _).mono ?_
  rintro e w1 ⟨rfl, rfl⟩
  go_wp2_with fail
  go_ret
  exact ⟨by rw [← HR.out]; rfl, Ext.refl _⟩
set_option maxHeartbeats 800000 in
theorem int_divideWord {A : Option Addr} {m c : Nat} {xs : List Nat} {n : Nat} {w : World} (h : Words w (.slice A m c) xs) (hn : 0 < n) (hn2 : n < 4294967296) :
  Calls Tryz.prog 155 #[.slice A m c, .int .u32 (n : Int)] w (Ret w (DivRes (val xs) n)) := by
 obtain ⟨rfl, hl, hm⟩ := h.len
 have hL := h.limb
 have H := Lib.hid h
 clear h
 have hmk := mk_words xs.length (by omega)
 go_enter Tryz.func155, Tryz.ntmps155
 go_wp2_with fail
 go_loopw [7, 8] (fun r i wr => ∃ (k ρ : Nat) (zs : List Nat), k ≤ xs.length ∧ i = .int .i64 ((k : Int) - 1) ∧ r = .int .u64 (ρ : Int) ∧ ρ < n ∧ Hid (zs.length = xs.length ∧ Limb zs ∧ Row wr w.heap.size zs ∧ val (xs.drop k) = n * val (zs.drop k) + ρ) ∧ Ext w wr) (fun _ i _ => (intOf i + 1).toNat)
 case atStart =>
  exact ⟨xs.length, 0, List.replicate xs.length 0, Nat.le_refl _, rfl, rfl, hn, ⟨by simp, limb_replicate _, Row.made _ _, by simp [val]⟩, (by repeat first|exact xA _|assumption|refine xB ?_ _|refine xC ?_|refine xD ?_ _|refine xE ?_ (by simp <;> omega) _|refine xF ?_ (by assumption))⟩
 case round =>
  obtain ⟨k, ρ, zs, hk, rfl, rfl, hρ, HZ, hE⟩ := hrel
  by_cases hk0 : 0 < k
  ·obtain ⟨j, rfl⟩ : ∃ j, k = j + 1 := ⟨k - 1, by omega⟩
   obtain ⟨b, off, rfl, hb, -, hcell⟩ := (H.out.ext hE).at_ (k := j) (by omega)
   have g1 := hcell j (by omega)
   clear hcell
   have g2 := HZ.out.2.2.1.cell (k := j) (by have := HZ.out.1; omega)
   have g3 := HZ.out.2.2.1.frozen j
   have hx := hL.getD j
   have HS : Hid (val (xs.drop j) = n * val ((zs.set j ((xs.getD j 0 + 4294967296 * ρ) / n)).drop j) + (xs.getD j 0 + 4294967296 * ρ) % n) := by_step (by omega) HZ.out.1 HZ.out.2.2.2
   generalize xs.getD j 0 = x at *
   go_wp2_with fail
   rw [by_r hρ hn2 hx, by_q hρ hn2 hx]
   obtain ⟨z1, z2, z3, z4⟩ := HZ.out
   exact ⟨⟨j, _, zs.set j ((x + 4294967296 * ρ) / n), by omega, rfl, rfl, Nat.mod_lt _ hn, ⟨by simp [z1], limb_set z2 (by_lt hρ hx), z3.set_ _ _, HS.out⟩, (by repeat first|exact xA _|assumption|refine xB ?_ _|refine xC ?_|refine xD ?_ _|refine xE ?_ (by simp <;> omega) _|refine xF ?_ (by assumption))⟩, by simp [intOf]⟩
  ·obtain rfl : k = 0 := by omega
   obtain ⟨z1, z2, z3, z4⟩ := HZ.out
   simp only [List.drop_zero] at z4
   have hW := z3.words z2 (c := xs.length) (by omega) (by omega)
   rw [z1] at hW
   have HT := Lib.hid (int_trim hW)
   have TW := Lib.hid hW.trim
   have hq : limbs (val xs / n) = trimL zs := by
    rw [trimL_eq_limbs z2, z4, Nat.mul_add_div hn, Nat.div_eq_of_lt hρ, Nat.add_zero]
   have hr : ρ = val xs % n := by rw [z4, Nat.mul_add_mod, Nat.mod_eq_of_lt hρ]
   have HQ := Lib.hid hq
   have HR := Lib.hid hr
   have HF := Lib.hid (fun W => int_fromUint ρ (by omega) W)
   clear hW hq hr z1 z2 z3 z4
   go_wp2_with fail
   refine HT.out.mono ?_
   rintro e w' ⟨rfl, rfl⟩
   go_wp2_with fail
   refine (HF.out _).mono ?_
   rintro e w2 ⟨v2, rfl, hv2, hx2⟩
   have HV2 := Lib.hid hv2
   clear hv2
   go_wp2_with fail
   go_ret2
   exact ⟨_, rfl, ⟨_, _, rfl, by rw [HQ.out]; exact TW.out.ext hx2, by rw [← HR.out]; exact HV2.out⟩, (by repeat first|exact xA _|assumption|refine xB ?_ _|refine xC ?_|refine xD ?_ _|refine xE ?_ (by simp <;> omega) _|refine xF ?_ (by assumption))⟩
set_option maxHeartbeats 800000 in
theorem int_shiftLeft {A : Option Addr} {n c s : Nat} {xs : List Nat} {w : World} (h : Words w (.slice A n c) xs) (hs : s < 32) (hn : n < 35184372088832) :
  Calls Tryz.prog 157 #[.slice A n c, .int .i64 (s : Int)] w (Ret w fun v w' => ∃ zs, v = .slice (some ⟨w.heap.size, 0, none⟩) (n + 1) (n + 1) ∧ Row w' w.heap.size zs ∧ Limb zs ∧ zs.length = n + 1 ∧ val zs = val xs * 2 ^ s) := by
 obtain ⟨rfl, hl, hm⟩ := h.len
 have hL := h.limb
 have H := Lib.hid h
 clear h
 have hmk := mk_words (xs.length + 1) (by omega)
 simp only [Int.natCast_add, Int.cast_ofNat_Int] at hmk
 have hp0 : 0 < 2 ^ s := Nat.pow_pos (by omega)
 have HP := Lib.hid hp0
 clear hp0
 go_enter Tryz.func157, Tryz.ntmps157
 go_wp2_with fail
 go_loopw [15] (fun i wr => ∃ (k : Nat) (zs : List Nat), k ≤ xs.length ∧ i = .int .i64 (k : Int) ∧ Hid (zs.length = xs.length + 1 ∧ Limb zs ∧ Row wr w.heap.size zs ∧ zs.getD k 0 < 2 ^ s ∧ (∀ j, k < j → zs.getD j 0 = 0) ∧ val (zs.take (k + 1)) = val (xs.take k) * 2 ^ s) ∧ Ext w wr) (fun i _ => xs.length - (intOf i).toNat)
 case atStart =>
  exact ⟨0, List.replicate (xs.length + 1) 0, by omega, rfl, ⟨by simp, limb_replicate _, Row.made _ _, by rw [getD_replicate]; exact HP.out, fun j _ => getD_replicate _ _, by simp [val, List.replicate_succ]⟩, (by repeat first|exact xA _|assumption|refine xB ?_ _|refine xC ?_|refine xD ?_ _|refine xE ?_ (by simp <;> omega) _|refine xF ?_ (by assumption))⟩
 case round =>
  obtain ⟨k, zs, hk, rfl, HZ, hE⟩ := hrel
  by_cases hk0 : k < xs.length
  ·obtain ⟨b, off, rfl, hb, -, hcell⟩ := (H.out.ext hE).at_ (k := k) (by omega)
   have g1 := hcell k (by omega)
   clear hcell
   have g2 := HZ.out.2.2.1.cell (k := k) (by have := HZ.out.1; omega)
   have g3 := HZ.out.2.2.1.frozen k
   have g4 := HZ.out.2.2.1.cell (k := k + 1) (by have := HZ.out.1; omega)
   have g5 := HZ.out.2.2.1.frozen (k + 1)
   have hx := hL.getD k
   have hz : zs.getD k 0 < 2 ^ s := HZ.out.2.2.2.1
   have HX := Lib.hid hx
   have HZ' := Lib.hid hz
   obtain ⟨z1, z2, z3, z4, z5, z6⟩ := HZ.out
   have HR := Lib.hid (shl_round hs hk0 hx z1 z2 z4 z5 z6)
   have HR2 := Lib.hid ((z3.set_ k (zs.getD k 0 + xs.getD k 0 * 2 ^ s % 4294967296)).set_ (k + 1) (xs.getD k 0 * 2 ^ s / 4294967296))
   clear hz z1 z2 z3 z4 z5 z6
   generalize xs.getD k 0 = x at *
   generalize zs.getD k 0 = z at *
   go_wp2_with fail
   rw [shl_bits hs HX.out HZ'.out, shl_hi hs HX.out]
   obtain ⟨r1, r2, r3, r4, r5⟩ := HR.out
   exact ⟨⟨k + 1, _, by omega, by go_num, ⟨r1, r2, HR2.out, r3, r4, r5⟩, (by repeat first|exact xA _|assumption|refine xB ?_ _|refine xC ?_|refine xD ?_ _|refine xE ?_ (by simp <;> omega) _|refine xF ?_ (by assumption))⟩, by simp [intOf]; omega⟩
  ·obtain rfl : k = xs.length := by omega
   obtain ⟨z1, z2, z3, z4, z5, z6⟩ := HZ.out
   rw [List.take_of_length_le (by omega), List.take_length] at z6
   have HF := Lib.hid (And.intro z3 (And.intro z2 (And.intro z1 z6)))
   clear z1 z2 z3 z4 z5 z6
   go_wp2_with fail
   go_ret
   exact ⟨_, rfl, ⟨zs, rfl, HF.out⟩, (by repeat first|exact xA _|assumption|refine xB ?_ _|refine xC ?_|refine xD ?_ _|refine xE ?_ (by simp <;> omega) _|refine xF ?_ (by assumption))⟩
end Go.Proofs.YtonleohlplkglaaGreatDoor
namespace Go.Proofs.YtonleohlplkglaaGreatDoor
open Go Go.RowKit
theorem u32_or_nat' (a b : Nat) (ha : a < 4294967296) (hb : b < 4294967296) : bits .or .u32 (a : Int) (b : Int) = ((a ||| b : Nat) : Int) := u32_or_nat a b ha hb
/-- A part of the higher word comes in above what is left of the lower one. -/
theorem shr_bits {x y s r : Nat} (hsr : s + r = 32) (hx : x < 4294967296) (hy : y < 4294967296) :
  bits .or .u32 ((x : Int) / 2 ^ s) (IntKind.u64.wrap ((y : Int) * 2 ^ r) % 4294967296) = (((x + 4294967296 * y) / 2 ^ s % 4294967296 : Nat) : Int) := by
 have hp : 2 ^ s * 2 ^ r = 4294967296 := by rw [← Nat.pow_add, hsr]
 have h0 : 0 < 2 ^ s := Nat.pow_pos (by omega)
 have hr0 : 0 < 2 ^ r := Nat.pow_pos (by omega)
 have hyr : y * 2 ^ r < 18446744073709551616 := by
  have h1 : 2 ^ r ≤ 4294967296 := by rw [← hp]; exact Nat.le_mul_of_pos_left _ h0
  have h2 : y * 2 ^ r ≤ 4294967295 * 4294967296 := Nat.mul_le_mul (by omega) h1
  omega
 have e1 : (x : Int) / 2 ^ s = ((x / 2 ^ s : Nat) : Int) := by rw [Int.natCast_ediv, Int.natCast_pow]; rfl
 have e2 : IntKind.u64.wrap ((y : Int) * 2 ^ r) % 4294967296 = ((y * 2 ^ r % 4294967296 : Nat) : Int) := by
  have e : (y : Int) * 2 ^ r = ((y * 2 ^ r : Nat) : Int) := by rw [Int.natCast_mul, Int.natCast_pow]; rfl
  rw [e, IntKind.wrap_u64]
  generalize y * 2 ^ r = z at *
  omega
 have hxs : x / 2 ^ s < 2 ^ r := Nat.div_lt_of_lt_mul (by rw [hp]; exact hx)
 rw [e1, e2, u32_or_nat' _ _ (Nat.lt_of_le_of_lt (Nat.div_le_self _ _) hx) (Nat.mod_lt _ (by omega))]
 have e3 : (x + 4294967296 * y) / 2 ^ s = x / 2 ^ s + 2 ^ r * y := by
  rw [← hp, Nat.mul_assoc, Nat.add_mul_div_left _ _ h0]
 have e4 : y * 2 ^ r % 4294967296 = 2 ^ r * (y % 2 ^ s) := by
  rw [← hp, Nat.mul_comm (2 ^ s) (2 ^ r), Nat.mul_comm y, Nat.mul_mod_mul_left]
 have e5 : (x / 2 ^ s + 2 ^ r * y) % 4294967296 = x / 2 ^ s + 2 ^ r * (y % 2 ^ s) := by
  have h1 := Nat.div_add_mod y (2 ^ s)
  have h2 : 2 ^ r * (y % 2 ^ s) + 2 ^ r ≤ 4294967296 := by
   have h3 : y % 2 ^ s + 1 ≤ 2 ^ s := Nat.mod_lt _ h0
   have h4 := Nat.mul_le_mul_left (2 ^ r) h3
   rw [Nat.mul_add, Nat.mul_one, Nat.mul_comm (2 ^ r) (2 ^ s), hp] at h4
   exact h4
  have h5 : 2 ^ r * y = 4294967296 * (y / 2 ^ s) + 2 ^ r * (y % 2 ^ s) := by
   conv => lhs; rw [← h1]
   rw [Nat.mul_add, ← Nat.mul_assoc, Nat.mul_comm (2 ^ r) (2 ^ s), hp]
  rw [h5]
  generalize 2 ^ r * (y % 2 ^ s) = u at *
  generalize x / 2 ^ s = v at *
  generalize 2 ^ r = P at *
  omega
 rw [e3, e4, e5, Nat.or_comm, ← Nat.two_pow_add_eq_or_of_lt hxs, Nat.add_comm]
set_option maxRecDepth 100000 in
set_option maxHeartbeats 1600000 in
theorem int_shiftRight {A : Option Addr} {n c s : Nat} {xs : List Nat} {w : World} (h : Words w (.slice A n c) xs) (hs : s < 32) :
  Calls Tryz.prog 160 #[.slice A n c, .int .i64 (s : Int)] w (Ret w fun v w' => ∃ zs, v = .slice (some ⟨w.heap.size, 0, none⟩) n n ∧ Row w' w.heap.size zs ∧ Limb zs ∧ zs.length = n ∧ val zs = val xs / 2 ^ s) := by
 obtain ⟨rfl, hl, hm⟩ := h.len
 have hL := h.limb
 have H := Lib.hid h
 clear h
 have hmk := mk_words xs.length (by omega)
 obtain ⟨r, hr⟩ : ∃ r, s + r = 32 := ⟨32 - s, by omega⟩
 have hr2 : (32 : Int) - (s : Int) = (r : Int) := by omega
 go_enter Tryz.func160, Tryz.ntmps160
 go_wp2_with fail
 go_loopw [13] (fun i wr => ∃ (k : Nat) (zs : List Nat), k ≤ xs.length ∧ i = .int .i64 (k : Int) ∧ Hid (zs.length = xs.length ∧ Row wr w.heap.size zs ∧ ∀ j, j < k → zs.getD j 0 = backAt xs s j) ∧ Ext w wr) (fun i _ => xs.length - (intOf i).toNat)
 case atStart =>
  exact ⟨0, List.replicate xs.length 0, by omega, rfl, ⟨by simp, Row.made _ _, fun j hj => absurd hj (by omega)⟩, (by repeat first|exact xA _|assumption|refine xB ?_ _|refine xC ?_|refine xD ?_ _|refine xE ?_ (by simp <;> omega) _|refine xF ?_ (by assumption))⟩
 case round =>
  obtain ⟨k, zs, hk, rfl, HZ, hE⟩ := hrel
  by_cases hk0 : k < xs.length
  ·obtain ⟨b, off, rfl, hb, -, hcell⟩ := (H.out.ext hE).at_ (k := k) (by omega)
   have g1 := hcell k (by omega)
   have g2 := HZ.out.2.1.cell (k := k) (by have := HZ.out.1; omega)
   have g3 := HZ.out.2.1.frozen k
   have hx := hL.getD k
   have hx2 := hL.getD (k + 1)
   have HB : Hid (backAt xs s k = ((xs.getD k 0 + 4294967296 * xs.getD (k + 1) 0) / 2 ^ s) % 4294967296) := rfl
   have HN : Hid (xs.length ≤ k + 1 → xs.getD (k + 1) 0 = 0) := fun h => getD_of_le h
   by_cases hk1 : k + 1 < xs.length
   ·have g4 := hcell (k + 1) (by omega)
    clear hcell
    generalize xs.getD k 0 = x at *
    generalize xs.getD (k + 1) 0 = y at *
    go_wp2_with fail
    go_region
    go_wp2_with fail
    rw [setCell_same, shr_bits hr hx hx2]
    obtain ⟨z1, z2, z3⟩ := HZ.out
    exact ⟨⟨k + 1, _, by omega, by go_num, ⟨by simp [z1], z2.set_ _ _, back_next (by omega) z3 HB.out⟩, (by repeat first|exact xA _|assumption|refine xB ?_ _|refine xC ?_|refine xD ?_ _|refine xE ?_ (by simp <;> omega) _|refine xF ?_ (by assumption))⟩, by simp [intOf]; omega⟩
   ·clear hcell
    have h0 := HN.out (by omega)
    rw [h0, Nat.mul_zero, Nat.add_zero] at HB
    clear hx2 h0 HN
    generalize xs.getD k 0 = x at *
    go_wp2_with fail
    obtain ⟨z1, z2, z3⟩ := HZ.out
    have e1 : (x : Int) / 2 ^ s = ((x / 2 ^ s % 4294967296 : Nat) : Int) := by
     rw [Nat.mod_eq_of_lt (Nat.lt_of_le_of_lt (Nat.div_le_self _ _) hx), Int.natCast_ediv, Int.natCast_pow]; rfl
    rw [e1]
    exact ⟨⟨k + 1, _, by omega, by go_num, ⟨by simp [z1], z2.set_ _ _, back_next (by omega) z3 HB.out⟩, (by repeat first|exact xA _|assumption|refine xB ?_ _|refine xC ?_|refine xD ?_ _|refine xE ?_ (by simp <;> omega) _|refine xF ?_ (by assumption))⟩, by simp [intOf]; omega⟩
  ·obtain rfl : k = xs.length := by omega
   obtain ⟨z1, z2, z3⟩ := HZ.out
   have e : zs = backL s xs := ext_getD (by rw [z1, backL_length]) fun j hj => by rw [z3 j (by omega), backL_getD s xs j (by omega)]
   have zL : Limb zs := by rw [e]; exact limb_backL _ _
   have zv : val zs = val xs / 2 ^ s := by rw [e, val_backL hs hL]
   have HF := Lib.hid (And.intro z2 (And.intro zL (And.intro z1 zv)))
   clear z1 z2 z3 e zL zv
   go_wp2_with fail
   go_ret
   exact ⟨_, rfl, ⟨zs, rfl, HF.out⟩, (by repeat first|exact xA _|assumption|refine xB ?_ _|refine xC ?_|refine xD ?_ _|refine xE ?_ (by simp <;> omega) _|refine xF ?_ (by assumption))⟩
/-- Only the block g may have changed. -/
structure Only (g : Nat) (w w' : World) : Prop where
 os : w'.os = w.os
 tape : w'.tape = w.tape
 output : w'.output = w.output
 size : w.heap.size ≤ w'.heap.size
 block : ∀ k, k < w.heap.size → k ≠ g → w'.heap[k]? = w.heap[k]?
theorem Only.refl (g : Nat) (w : World) : Only g w w := ⟨rfl, rfl, rfl, Nat.le_refl _, fun _ _ _ => rfl⟩
theorem Only.pset {g : Nat} {a w : World} (h : Only g a w) (j : Nat) (u : Value) : Only g a (w.setCell ⟨g, j, none⟩ u) :=
 ⟨h.os, h.tape, h.output, by simpa [World.setCell] using h.size, fun k hk hne => (Below.heap_setCell _ _ _ _ hne).trans (h.block k hk hne)⟩
theorem Only.pdrew {g : Nat} {a w : World} (h : Only g a w) : Only g a w.drew := ⟨h.os, h.tape, h.output, h.size, h.block⟩
theorem Only.pdrewN {g : Nat} {a w : World} (h : Only g a w) (n : Nat) : Only g a (w.drewN n) := ⟨h.os, h.tape, h.output, h.size, h.block⟩
theorem Only.ext {g : Nat} {a w w' : World} (h : Only g w w') (hx : Ext a w) (hg : a.heap.size ≤ g) : Ext a w' :=
 ⟨h.os.trans hx.os, h.tape.trans hx.tape, h.output.trans hx.output, Nat.le_trans hx.size h.size, fun k hk => (h.block k (Nat.lt_of_lt_of_le hk hx.size) (by omega)).trans (hx.block k hk)⟩
theorem Only.row {g g' : Nat} {w w' : World} {xs : List Nat} (h : Only g w w') (hr : Row w g' xs) (hne : g' ≠ g) : Row w' g' xs := (h.block g' hr.lt hne).trans hr
theorem Only.cell {g : Nat} {w w' : World} (h : Only g w w') {p : Addr} (hp : p.block < w.heap.size) (hne : p.block ≠ g) : w'.cell? p = w.cell? p := by
 have := h.block p.block hp hne
 unfold World.cell?
 rw [this]
theorem Only.words {g : Nat} {w w' : World} {A : Option Addr} {n c : Nat} {xs : List Nat} (h : Only g w w') (hw : Words w (.slice A n c) xs) (hne : ∀ a, A = some a → a.block ≠ g) : Words w' (.slice A n c) xs := by
 obtain ⟨A', c', hv, hl, hm, hL, hc⟩ := hw
 obtain ⟨rfl, rfl, rfl⟩ : A = A' ∧ n = xs.length ∧ c = c' := by injection hv with h1 h2 h3; exact ⟨h1, h2, h3⟩
 refine ⟨A, c, rfl, hl, hm, hL, fun h0 => ?_⟩
 obtain ⟨b, off, rfl, hb, hcell⟩ := hc h0
 exact ⟨b, off, rfl, Nat.lt_of_lt_of_le hb h.size, fun k hk => (h.cell (p := ⟨b, off + k, none⟩) hb (by have := hne _ rfl; exact this)).trans (hcell k hk)⟩
/-- The part of a list from i on, k words long. -/
def part (xs : List Nat) (i k : Nat) : List Nat := (xs.drop i).take k
theorem part_next (xs : List Nat) (i k : Nat) : val (part xs i (k + 1)) = val (part xs i k) + 4294967296 ^ k * xs.getD (i + k) 0 := by
 unfold part; rw [val_take_next, getD_drop]
theorem part_set {zs : List Nat} {i k y : Nat} (h : i + k < zs.length) : val (part (zs.set (i + k) y) i (k + 1)) = val (part zs i k) + 4294967296 ^ k * y := by
 rw [part_next, getD_set_self h]
 congr 2
 unfold part
 rw [List.drop_set, if_neg (by omega), show i + k - i = k by omega, List.take_set_of_le (by omega)]
theorem part_zero (xs : List Nat) (i : Nat) : val (part xs i 0) = 0 := rfl
/-- One round of a difference with a multiple. -/
theorem sub_step {x y d b p q : Nat} (hx : x < 4294967296) (hy : y < 4294967296) (hd : d < 4294967296) (hb : b < 4294967296) (hp : p = y * d + b) (hq : q = if x < p % 4294967296 then 1 else 0) :
  p < 18446744073709551616 ∧ p / 4294967296 + q < 4294967296 ∧ (x + 4294967296 * q - p % 4294967296) + p = x + 4294967296 * (p / 4294967296 + q) ∧ x + 4294967296 * q - p % 4294967296 < 4294967296 := by
 have h1 : y * d ≤ 4294967295 * 4294967295 := Nat.mul_le_mul (by omega) (by omega)
 have h2 : p ≤ 4294967295 * 4294967296 := by omega
 split at hq
 ·subst hq; refine ⟨by omega, ?_, by omega, by omega⟩
  omega
 ·subst hq; refine ⟨by omega, by omega, by omega, by omega⟩
theorem sub_round {P Y X d b o x y p b' BK : Nat} (h5 : P + d * Y = X + BK * b) (hp : p = y * d + b) (hs : o + p = x + 4294967296 * b') : P + BK * o + d * (Y + BK * y) = X + BK * x + BK * 4294967296 * b' := by
 have e1 : d * (Y + BK * y) = d * Y + BK * (y * d) := by rw [Nat.mul_add, Nat.mul_left_comm, Nat.mul_comm d y]
 have e2 := congrArg (BK * ·) hs
 simp only [Nat.mul_add, hp] at e2
 rw [e1, Nat.mul_assoc]
 omega
theorem sub_cast {x p q : Nat} (hx : x < 4294967296) (hp : p < 4294967296) (hq : q = if x < p then 1 else 0) :
  IntKind.u64.wrap ((x : Int) - (p : Int)) % 4294967296 = ((x + 4294967296 * q - p : Nat) : Int) ∧ IntKind.u64.wrap ((x : Int) - (p : Int)) / 9223372036854775808 = (q : Int) := by
 rw [IntKind.wrap_u64]
 split at hq
 all_goals
  subst hq
  omega
set_option maxRecDepth 100000 in
set_option maxHeartbeats 1600000 in
theorem int_subtract {g i m c c' d : Nat} {A : Option Addr} {xs ys : List Nat} {w : World} (h : Row w g xs) (hL : Limb xs) (hi : i + (m + 1) ≤ xs.length) (hsz : xs.length ≤ 35184372088832) (h' : Words w (.slice A m c') ys) (hne : ∀ a, A = some a → a.block ≠ g) (hd : d < 4294967296) :
  Calls Tryz.prog 158 #[.slice (some ⟨g, i, none⟩) (m + 1) c, .slice A m c', .int .u64 (d : Int)] w fun e w' => ∃ zs q, e = .returned (.bool (decide (q = 1))) ∧ q ≤ 1 ∧ Row w' g zs ∧ Limb zs ∧ zs.length = xs.length ∧ (∀ t, (t < i ∨ i + (m + 1) ≤ t) → zs.getD t 0 = xs.getD t 0) ∧ val (part zs i (m + 1)) + d * val ys = val (part xs i (m + 1)) + 4294967296 ^ (m + 1) * q ∧ Only g w w' := by
 obtain ⟨rfl, hl, hm⟩ := h'.len
 have hL' := h'.limb
 have H := Lib.hid h
 have H' := Lib.hid h'
 have HNE := Lib.hid hne
 clear h h' hne
 go_enter Tryz.func158, Tryz.ntmps158
 go_wp2_with fail
 go_loopw [7, 15] (fun r x wr => ∃ (k b : Nat) (zs : List Nat), k ≤ ys.length ∧ x = .int .i64 (k : Int) ∧ r = .int .u64 (b : Int) ∧ b < 4294967296 ∧ Hid (Row wr g zs ∧ Limb zs ∧ zs.length = xs.length ∧ (∀ t, (t < i ∨ i + k ≤ t) → zs.getD t 0 = xs.getD t 0) ∧ val (part zs i k) + d * val (ys.take k) = val (part xs i k) + 4294967296 ^ k * b) ∧ Hid (Only g w wr)) (fun _ x _ => ys.length - (intOf x).toNat)
 case atStart => exact ⟨0, 0, xs, by omega, rfl, rfl, by omega, ⟨H.out, hL, rfl, fun _ _ => rfl, by simp [part_zero, val]⟩, Only.refl _ _⟩
 case round =>
  obtain ⟨k, b, zs, hk, rfl, rfl, hb, HZ, HO⟩ := hrel
  obtain ⟨z1, z2, z3, z4, z5⟩ := HZ.out
  by_cases hk0 : k < ys.length
  ·obtain ⟨bb, off, rfl, hb', -, hcell⟩ := (HO.out.words H'.out HNE.out).at_ (k := k) hk0
   have g1 := hcell k hk0
   have g2 := z1.cell (k := i + k) (by omega)
   have g3 := z1.frozen (i + k)
   have hx := z2.getD (i + k)
   have hy := hL'.getD k
   obtain ⟨p, hp⟩ : ∃ p, p = ys.getD k 0 * d + b := ⟨_, rfl⟩
   obtain ⟨q, hq⟩ : ∃ q, q = if zs.getD (i + k) 0 < p % 4294967296 then 1 else 0 := ⟨_, rfl⟩
   obtain ⟨s1, s2, s3, s4⟩ := sub_step hx hy hd hb hp hq
   have hp0 : (0 : Int) ≤ (ys.getD k 0 : Int) * (d : Int) := Int.mul_nonneg (Int.natCast_nonneg _) (Int.natCast_nonneg _)
   have hp1 : ys.getD k 0 * d + b < 18446744073709551616 := by omega
   have hp2 : ys.getD k 0 * d < 18446744073709551616 := by omega
   have HP := Lib.hid hp
   have HQ := Lib.hid hq
   clear hcell hp hq s1 s2 s3 s4
   obtain ⟨x, hxe⟩ : ∃ x, zs.getD (i + k) 0 = x := ⟨_, rfl⟩
   obtain ⟨y, hye⟩ : ∃ y, ys.getD k 0 = y := ⟨_, rfl⟩
   rw [hxe] at g2 hx HQ
   rw [hye] at g1 hy HP hp0 hp1 hp2
   have HX := Lib.hid hxe
   have HY := Lib.hid hye
   have HZ2 := Lib.hid (And.intro z1 (And.intro z2 (And.intro z3 (And.intro z4 z5))))
   clear hxe hye z1 z2 z3 z4 z5 HZ
   go_wp2_with fail
   obtain ⟨z1, z2, z3, z4, z5⟩ := HZ2.out
   obtain ⟨s1, s2, s3, s4⟩ := sub_step hx hy hd hb HP.out HQ.out
   have e0 : (y : Int) * (d : Int) + (b : Int) = (p : Int) := by rw [HP.out, Int.natCast_add, Int.natCast_mul]
   have ep : (p : Int) % 4294967296 = ((p % 4294967296 : Nat) : Int) := by omega
   obtain ⟨c1, c2⟩ := sub_cast hx (Nat.mod_lt p (by omega)) HQ.out
   have e3 : IntKind.u64.wrap ((p : Int) / 4294967296 + (q : Int)) = ((p / 4294967296 + q : Nat) : Int) := by rw [IntKind.wrap_u64]; omega
   rw [e0, ep, c1, c2, e3]
   have hxx : xs.getD (i + k) 0 = x := by rw [← HX.out]; exact (z4 (i + k) (by omega)).symm
   refine ⟨⟨k + 1, _, _, by omega, by go_num, rfl, s2, ⟨z1.set_ _ _, limb_set z2 s4, by simp [z3], fun t ht => ?_, ?_⟩, HO.out.pset _ _⟩, by simp [intOf]; omega⟩
   ·rw [getD_set_ne (by omega)]; exact z4 t (by omega)
   ·rw [part_set (by omega), val_take_next, part_next, hxx, HY.out, Nat.pow_succ]
    exact sub_round z5 HP.out s3
  ·obtain rfl : k = ys.length := by omega
   have g2 := z1.cell (k := i + ys.length) (by omega)
   have g3 := z1.frozen (i + ys.length)
   have hx := z2.getD (i + ys.length)
   have HX : Hid (zs.getD (i + ys.length) 0 = xs.getD (i + ys.length) 0) := z4 _ (by omega)
   obtain ⟨q, hq⟩ : ∃ q, q = if zs.getD (i + ys.length) 0 < b then 1 else 0 := ⟨_, rfl⟩
   have HQ := Lib.hid hq
   clear hq
   have HZ2 := Lib.hid (And.intro z1 (And.intro z2 (And.intro z3 (And.intro z4 z5))))
   clear z1 z2 z3 z4 z5 HZ
   generalize zs.getD (i + ys.length) 0 = x at *
   go_wp2_with fail
   go_ret
   obtain ⟨c1, c2⟩ := sub_cast hx hb HQ.out
   obtain ⟨z1, z2, z3, z4, z5⟩ := HZ2.out
   rw [c1, c2]
   have hq1 : q ≤ 1 := by rw [HQ.out]; split <;> omega
   have ho : x + 4294967296 * q - b < 4294967296 ∧ x + 4294967296 * q - b + b = x + 4294967296 * q := by
    have := HQ.out; split at this <;> subst this <;> omega
   refine ⟨_, q, ?_, hq1, z1.set_ _ _, limb_set z2 ho.1, by simp [z3], fun t ht => ?_, ?_, HO.out.pset _ _⟩
   ·rcases Nat.lt_or_ge q 1 with h | h
    ·obtain rfl : q = 0 := by omega
     rfl
    ·obtain rfl : q = 1 := by omega
     rfl
   ·rw [getD_set_ne (by omega)]; exact z4 t (by omega)
   ·rw [part_set (by omega), part_next, ← HX.out, Nat.pow_succ]
    rw [List.take_length] at z5
    have e2 := congrArg (4294967296 ^ ys.length * ·) ho.2
    simp only [Nat.mul_add] at e2
    rw [Nat.mul_assoc]
    omega
set_option maxRecDepth 100000 in
set_option maxHeartbeats 1600000 in
theorem int_restore {g i m c c' : Nat} {A : Option Addr} {xs ys : List Nat} {w : World} (h : Row w g xs) (hL : Limb xs) (hi : i + (m + 1) ≤ xs.length) (hsz : xs.length ≤ 35184372088832) (h' : Words w (.slice A m c') ys) (hne : ∀ a, A = some a → a.block ≠ g) :
  Calls Tryz.prog 159 #[.slice (some ⟨g, i, none⟩) (m + 1) c, .slice A m c'] w fun e w' => ∃ zs q, e = .returned (.tuple #[]) ∧ Row w' g zs ∧ Limb zs ∧ zs.length = xs.length ∧ (∀ t, (t < i ∨ i + (m + 1) ≤ t) → zs.getD t 0 = xs.getD t 0) ∧ val (part zs i (m + 1)) + 4294967296 ^ (m + 1) * q = val (part xs i (m + 1)) + val ys ∧ Only g w w' := by
 obtain ⟨rfl, hl, hm⟩ := h'.len
 have hL' := h'.limb
 have H := Lib.hid h
 have H' := Lib.hid h'
 have HNE := Lib.hid hne
 clear h h' hne
 go_enter Tryz.func159, Tryz.ntmps159
 go_wp2_with fail
 go_loopw [4, 9] (fun r x wr => ∃ (k b : Nat) (zs : List Nat), k ≤ ys.length ∧ x = .int .i64 (k : Int) ∧ r = .int .u64 (b : Int) ∧ b ≤ 1 ∧ Hid (Row wr g zs ∧ Limb zs ∧ zs.length = xs.length ∧ (∀ t, (t < i ∨ i + k ≤ t) → zs.getD t 0 = xs.getD t 0) ∧ val (part zs i k) + 4294967296 ^ k * b = val (part xs i k) + val (ys.take k)) ∧ Hid (Only g w wr)) (fun _ x _ => ys.length - (intOf x).toNat)
 case atStart => exact ⟨0, 0, xs, by omega, rfl, rfl, by omega, ⟨H.out, hL, rfl, fun _ _ => rfl, by simp [part_zero, val]⟩, Only.refl _ _⟩
 case round =>
  obtain ⟨k, b, zs, hk, rfl, rfl, hb, HZ, HO⟩ := hrel
  obtain ⟨z1, z2, z3, z4, z5⟩ := HZ.out
  by_cases hk0 : k < ys.length
  ·obtain ⟨bb, off, rfl, hb', -, hcell⟩ := (HO.out.words H'.out HNE.out).at_ (k := k) hk0
   have g1 := hcell k hk0
   have g2 := z1.cell (k := i + k) (by omega)
   have g3 := z1.frozen (i + k)
   have hx := z2.getD (i + k)
   have hy := hL'.getD k
   have HX : Hid (zs.getD (i + k) 0 = xs.getD (i + k) 0) := z4 _ (by omega)
   have HY : Hid (ys.getD k 0 = ys.getD k 0) := rfl
   have HZ2 := Lib.hid (And.intro z1 (And.intro z2 (And.intro z3 (And.intro z4 z5))))
   clear hcell z1 z2 z3 z4 z5 HZ
   generalize zs.getD (i + k) 0 = x at *
   obtain ⟨y, hye⟩ : ∃ y, ys.getD k 0 = y := ⟨_, rfl⟩
   rw [hye] at g1 hy
   have HY2 := Lib.hid hye
   clear hye HY
   go_wp2_with fail
   obtain ⟨z1, z2, z3, z4, z5⟩ := HZ2.out
   rw [show ((b : Int) + (x + y)) / 4294967296 = (((b + (x + y)) / 4294967296 : Nat) : Int) by omega, show ((b : Int) + (x + y)) % 4294967296 = (((b + (x + y)) % 4294967296 : Nat) : Int) by omega]
   refine ⟨⟨k + 1, _, _, by omega, by go_num, rfl, by omega, ⟨z1.set_ _ _, limb_set z2 (Nat.mod_lt _ (by omega)), by simp [z3], fun t ht => ?_, ?_⟩, HO.out.pset _ _⟩, by simp [intOf]; omega⟩
   ·rw [getD_set_ne (by omega)]; exact z4 t (by omega)
   ·rw [part_set (by omega), val_take_next, part_next, ← HX.out, HY2.out, Nat.pow_succ]
    have e2 := congrArg (4294967296 ^ k * ·) (Nat.mod_add_div (b + (x + y)) 4294967296)
    simp only [Nat.mul_add] at e2
    rw [Nat.mul_assoc]
    omega
  ·obtain rfl : k = ys.length := by omega
   have g2 := z1.cell (k := i + ys.length) (by omega)
   have g3 := z1.frozen (i + ys.length)
   have hx := z2.getD (i + ys.length)
   have HX : Hid (zs.getD (i + ys.length) 0 = xs.getD (i + ys.length) 0) := z4 _ (by omega)
   have HZ2 := Lib.hid (And.intro z1 (And.intro z2 (And.intro z3 (And.intro z4 z5))))
   clear z1 z2 z3 z4 z5 HZ
   generalize zs.getD (i + ys.length) 0 = x at *
   go_wp2_with fail
   go_end0
   obtain ⟨z1, z2, z3, z4, z5⟩ := HZ2.out
   rw [show ((x : Int) + b) % 4294967296 = (((x + b) % 4294967296 : Nat) : Int) by omega]
   refine ⟨_, (x + b) / 4294967296, rfl, z1.set_ _ _, limb_set z2 (Nat.mod_lt _ (by omega)), by simp [z3], fun t ht => ?_, ?_, HO.out.pset _ _⟩
   ·rw [getD_set_ne (by omega)]; exact z4 t (by omega)
   ·rw [part_set (by omega), part_next, ← HX.out, Nat.pow_succ]
    rw [List.take_length] at z5
    have e2 := congrArg (4294967296 ^ ys.length * ·) (Nat.mod_add_div (x + b) 4294967296)
    simp only [Nat.mul_add] at e2
    rw [Nat.mul_assoc]
    omega
end Go.Proofs.YtonleohlplkglaaGreatDoor
namespace Go.Proofs.YtonleohlplkglaaGreatDoor
open Go Go.RowKit
theorem words_of_own {w : World} {base : Nat} {v : Value} {l : List Nat} (h : w.ownsRow base 142 1 v l.length (wordVs l)) (hL : Limb l) (hl : l.length ≤ 35184372088832) : Words w v l := by
 rcases h.2 with ⟨rfl, hn⟩ | ⟨g, cap, cur, rfl, hb, hg, hcap, hcm, hcs, htk⟩
 ·obtain rfl := List.eq_nil_of_length_eq_zero hn
  exact Words.nil _
 ·refine ⟨some ⟨g, 0, none⟩, cap, rfl, hcap, hl, hL, fun _ => ⟨g, 0, rfl, (Array.getElem?_eq_some_iff.1 hg).1, fun k hk => ?_⟩⟩
  have h6 : (wordVs l)[k]? = some (.int .u32 ((l.getD k 0 : Nat) : Int)) := by unfold wordVs; rw [List.getElem?_map, List.getElem?_eq_getElem hk, List.getD_eq_getElem?_getD, List.getElem?_eq_getElem hk]; rfl
  rw [← htk, List.getElem?_take] at h6
  split at h6
  ·rw [cell_of_row w g _ cur _ _ hg, Nat.zero_add]
   simpa using h6
  ·cases h6
set_option maxRecDepth 100000 in
set_option maxHeartbeats 800000 in
theorem int_clone {A : Option Addr} {n c : Nat} {xs : List Nat} {w : World} (h : Words w (.slice A n c) xs) :
  Calls Tryz.prog 134 #[.slice A n c] w (Ret w fun v w' => Words w' v xs) := by
 obtain ⟨rfl, hl, hm⟩ := h.len
 have hL := h.limb
 have qn : ∀ (w : World) (a : Option Addr) (n c n' c' : Nat), (binOp .eql 34 (.slice a n c) (.slice none n' c')).run Tryz.prog w = .ok (.bool a.isNone) w := fun w a n c n' c' => Lib.run_eql_slice_nil w _ _ a n c n' c' Tryz.underlying34
 cases A with
 | none =>
  have hn : xs = [] := by
   by_cases h0 : 0 < xs.length
   ·obtain ⟨b, off, e, _⟩ := h.at_ h0; cases e
   ·exact List.eq_nil_of_length_eq_zero (by omega)
  subst hn
  go_enter Tryz.func134, Tryz.ntmps134
  go_wp2_with fail
  go_ret
  exact ⟨_, rfl, Words.nil _, (by repeat first|exact xA _|assumption|refine xB ?_ _|refine xC ?_|refine xD ?_ _|refine xE ?_ (by simp <;> omega) _|refine xF ?_ (by assumption))⟩
 | some a =>
  have hnews : ∀ j u, (wordVs xs)[j]? = some u → w.cell? (a.add j) = some u := by
   intro j u hj
   obtain ⟨hjl, hju⟩ := List.getElem?_eq_some_iff.1 hj
   simp [wordVs] at hjl
   obtain ⟨b, off, e1, hb, -, hcell⟩ := h.at_ hjl
   injection e1 with e1
   subst e1
   have := hcell j hjl
   rw [Addr.add_lit, this, ← hju]
   simp [wordVs, List.getElem?_eq_getElem hjl]
  have HN := Lib.hid hnews
  have hown : (w.alloc (.cells #[] 142)).ownsRow w.heap.size 142 1 (.slice (some ⟨w.heap.size, 0, none⟩) 0 0) 0 [] :=
   ⟨rfl, .inr ⟨w.heap.size, 0, #[], rfl, Nat.le_refl _, by rw [heap_alloc_new], Nat.le_refl _, Nat.zero_le _, rfl, rfl⟩⟩
  have HO := Lib.hid hown
  have HL := Lib.hid (And.intro hm hL)
  have HW : Hid ((wordVs xs).length = xs.length * 1) := by show _ = _; simp [wordVs]
  have HU : Hid (∀ u ∈ wordVs xs, u.oneCell' = true) := (by intro u hu; simp [wordVs] at hu; obtain ⟨x, _, rfl⟩ := hu; rfl)
  have HEN : Hid (∀ w' v', w'.ownsRow w.heap.size 142 1 v' xs.length (wordVs xs) → Words w' v' xs) := fun w' v' h => words_of_own h hL hm
  have HR : Hid (∀ v' w', Words w' v' xs → Words w' v' xs) := fun _ _ h => h
  clear h hnews hown hm hL
  generalize Words = WW at *
  generalize wordVs xs = ws at *
  generalize xs.length = n at *
  obtain ⟨i0, hi, hz0, hz1, hz2⟩ := info_parts infoU32
  go_enter Tryz.func134, Tryz.ntmps134
  go_wp2_with (at_builtin; refine wpList_append_own _ rfl _ _ 34 rfl w.heap.size 142 i0 (.int .u32 0) 1 4 Tryz.underlying34 hi hz0 hz1 hz2 rfl (by decide) _ 0 [] rfl HO.out a n c ws rfl HW.out ?c1 ?c2 (by have := HL.out.1; unfold maxLen; omega) (by have := HL.out.1; omega) (by simp) ?_)
  case c1 =>
   intro j u hj
   exact Lib.cell?_alloc_some _ (HN.out j u hj)
  case c2 => exact HU.out
  intro v' w' h1 h2 _
  have HF := Lib.hid (HEN.out _ _ h1)
  obtain ⟨A', c', rfl⟩ : ∃ A c, v' = .slice A n c := by
   rcases h1.2 with ⟨h1, h2⟩ | ⟨g, cap, cur, h1, -⟩
   ·exact ⟨none, 0, by rw [h1, h2]⟩
   ·exact ⟨_, _, h1⟩
  go_wp2_with fail
  go_ret
  exact ⟨_, rfl, HF.out, (Below.refl _ _).alloc (Nat.le_refl _) _ |>.grown h2 (by simp) (fun k e => by cases e; simp)⟩
set_option maxRecDepth 100000 in
set_option maxHeartbeats 800000 in
theorem int_divide_less {A A' : Option Addr} {n m c c' a b : Nat} {w : World} (h : Words w (.slice A n c) (limbs a)) (h' : Words w (.slice A' m c') (limbs b)) (hab : a < b) :
  Calls Tryz.prog 132 #[.slice A n c, .slice A' m c'] w (Ret w (DivRes a b)) := by
 have hC := int_compare h h'
 rw [cmpW_limbs, if_pos hab] at hC
 have HC := Lib.hid hC
 have H := Lib.hid (fun w1 (hx : Ext w w1) => int_clone (h.ext hx))
 clear hC h h'
 go_enter Tryz.func132, Tryz.ntmps132
 go_wp2_with fail
 refine HC.out.mono ?_
 rintro e w1 ⟨rfl, hx⟩
 go_wp2_with fail
 refine (H.out _ hx).mono ?_
 rintro e w2 ⟨v2, rfl, hv2, hx2⟩
 have HW := Lib.hid hv2
 clear hv2
 go_wp2_with fail
 go_ret2
 exact ⟨_, rfl, ⟨_, _, rfl, by rw [Nat.div_eq_of_lt hab, limbs_zero]; exact Words.nil _, by rw [Nat.mod_eq_of_lt hab]; exact HW.out⟩, (by repeat first|exact xA _|assumption|refine xB ?_ _|refine xC ?_|refine xD ?_ _|refine xE ?_ (by simp <;> omega) _|refine xF ?_ (by assumption))⟩
set_option maxRecDepth 100000 in
set_option maxHeartbeats 1600000 in
theorem int_divide_small {A A' : Option Addr} {n m c c' a b : Nat} {w : World} (h : Words w (.slice A n c) (limbs a)) (h' : Words w (.slice A' m c') (limbs b)) (hab : b ≤ a) (hb : 0 < b) (hn : n ≤ 2) :
  Calls Tryz.prog 132 #[.slice A n c, .slice A' m c'] w (Ret w (DivRes a b)) := by
 have hC := int_compare h h'
 rw [cmpW_limbs, if_neg (by omega)] at hC
 obtain ⟨r, hr, hr0⟩ : ∃ r : Int, (if b < a then (1 : Int) else 0) = r ∧ 0 ≤ r := ⟨_, rfl, by split <;> omega⟩
 rw [hr] at hC
 have HC := Lib.hid hC
 have hl := h.len
 have hl' := h'.len
 have hm : m ≤ 2 := by have := limbs_length_mono hab; omega
 have hs := fun w' (hx : Ext w w') => int_toUint (h.ext hx) hn
 have hs' := fun w' (hx : Ext w w') => int_toUint (h'.ext hx) hm
 rw [val_limbs] at hs hs'
 have HS := Lib.hid hs
 have HS' := Lib.hid hs'
 have ha2 : a < 18446744073709551616 := words_two (by omega)
 clear hC hr h h' hs hs' hl hl' hm
 go_enter Tryz.func132, Tryz.ntmps132
 go_wp2_with fail
 refine HC.out.mono ?_
 rintro e w1 ⟨rfl, hx⟩
 go_wp2_with fail
 refine (HS.out _ hx).mono ?_
 rintro e w2 ⟨rfl, hx2⟩
 have hE2 : Ext w w2 := Ext.trans hx hx2
 clear hx hx2
 go_wp2_with fail
 refine (HS'.out _ hE2).mono ?_
 rintro e w3 ⟨rfl, hx3⟩
 have hE3 : Ext w w3 := Ext.trans hE2 hx3
 clear hE2 hx3
 go_wp2_with fail
 have hb0 : ¬ ((b : Int) = 0) := by omega
 have hb1 : ((b : Int) == 0) = false := by simp; omega
 have hq : ∀ W, Calls Tryz.prog 136 #[.int .u64 (IntKind.u64.wrap ((a : Int) / (b : Int)))] W (Ret W fun v w' => Words w' v (limbs (a / b))) := fun W => by
  have h1 : a / b ≤ a := Nat.div_le_self _ _
  have e : IntKind.u64.wrap ((a : Int) / (b : Int)) = ((a / b : Nat) : Int) := by
   rw [← Int.natCast_ediv, IntKind.wrap_u64]
   generalize a / b = q at *
   omega
  rw [e]
  exact int_fromUint (a / b) (by omega) W
 have hr : ∀ (x : Int) W, x = ((a % b : Nat) : Int) → Calls Tryz.prog 136 #[.int .u64 x] W (Ret W fun v w' => Words w' v (limbs (a % b))) := fun x W hx => by
  have h1 : a % b ≤ a := Nat.mod_le _ _
  rw [hx]
  exact int_fromUint (a % b) (by omega) W
 have HQ := Lib.hid hq
 have HR := Lib.hid hr
 clear ha2 hq hr HC HS HS'
 go_region_with (first
  | (go_at_call_of 136 (IntKind.u64.wrap ((a : Int) / (b : Int))); refine (HQ.out _).mono ?_; rintro e w2 ⟨v, rfl, hv, hx2⟩)
  | (go_at_call_of 136 ((a : Int) % (b : Int)); refine (HR.out _ _ (Int.natCast_emod a b).symm).mono ?_; rintro e w3 ⟨v', rfl, hv', hx3⟩)
  | (go_at_call_of 136 ((a : Int).tmod (b : Int)); refine (HR.out _ _ (Int.ofNat_tmod a b).symm).mono ?_; rintro e w3 ⟨v', rfl, hv', hx3⟩))
 all_goals
  go_wp2_with fail
  go_ret2
  exact ⟨_, rfl, ⟨_, _, rfl, by first | exact hv | exact hv.ext hx3, by first | exact hv' | exact hv'.ext hx2⟩, (by repeat first|exact xA _|assumption|refine xB ?_ _|refine xC ?_|refine xD ?_ _|refine xE ?_ (by simp <;> omega) _|refine xF ?_ (by assumption))⟩
set_option maxRecDepth 100000 in
set_option maxHeartbeats 1600000 in
theorem int_divide_word {A A' : Option Addr} {n c c' a b : Nat} {w : World} (h : Words w (.slice A n c) (limbs a)) (h' : Words w (.slice A' 1 c') (limbs b)) (hn : 2 < n) :
  Calls Tryz.prog 132 #[.slice A n c, .slice A' 1 c'] w (Ret w (DivRes a b)) := by
 have hl := h.len
 have hl' := h'.len
 have hba : b < a := lt_of_limbs_length_lt (by omega)
 have hC := int_compare h h'
 rw [cmpW_limbs, if_neg (by omega), if_pos hba] at hC
 have HC := Lib.hid hC
 have hb2 : b < 4294967296 := by
  have h1 := val_lt (limb_limbs b)
  rw [val_limbs, ← hl'.1] at h1
  simpa using h1
 have hb0 : 0 < b := by
  rcases Nat.eq_zero_or_pos b with h0 | h0
  ·have := hl'.1; rw [h0, limbs_zero] at this; simp at this
  ·exact h0
 have hbl : (limbs b).getD 0 0 = b := by
  have := val_limbs b
  match hm : limbs b, hl'.1 with
  | [x], _ => rw [hm] at this; simpa [val] using this
 obtain ⟨bb, off, rfl, hbb, -, hcell⟩ := h'.at_ (k := 0) (by omega)
 have g1 := hcell 0 (by omega)
 rw [hbl, Nat.add_zero] at g1
 have hby := fun w' (hx : Ext w w') => int_divideWord (h.ext hx) hb0 hb2
 rw [val_limbs] at hby
 have HB := Lib.hid hby
 have hlc : n ≤ 35184372088832 := by omega
 have hl1 := hl'.2.1
 clear hC h h' hl hl' hby hba hcell hbl
 go_enter Tryz.func132, Tryz.ntmps132
 go_wp2_with fail
 refine HC.out.mono ?_
 rintro e w1 ⟨rfl, hx⟩
 have g2 : w1.cell? ⟨bb, off, none⟩ = some (.int .u32 (b : Int)) := (hx.cell (p := ⟨bb, off, none⟩) hbb).trans g1
 clear g1
 go_wp2_with fail
 refine (HB.out _ hx).mono ?_
 rintro e w2 ⟨v, rfl, ⟨v1, v2, rfl, hv1, hv2⟩, hx2⟩
 have HV1 := Lib.hid hv1
 have HV2 := Lib.hid hv2
 clear hv1 hv2 HC HB g2
 go_wp2_with fail
 go_ret2
 exact ⟨_, rfl, ⟨_, _, rfl, HV1.out, HV2.out⟩, (by repeat first|exact xA _|assumption|refine xB ?_ _|refine xC ?_|refine xD ?_ _|refine xE ?_ (by simp <;> omega) _|refine xF ?_ (by assumption))⟩
end Go.Proofs.YtonleohlplkglaaGreatDoor
namespace Go.Proofs.YtonleohlplkglaaGreatDoor
open Go Go.RowKit
/-- What is asked of the count of leading zeros. -/
def LZ32 : Prop := ∀ (x : Nat) (w : World), 0 < x → x < 4294967296 → Calls Tryz.prog 156 #[.int .u32 (x : Int)] w fun e w' => e = .returned (.int .i64 ((32 - blen x : Nat) : Int)) ∧ w = w'
theorem drop_of_part {us xs : List Nat} {j k : Nat} (hv : val (xs.drop j) < 4294967296 ^ k) (hs : ∀ t, j + k ≤ t → us.getD t 0 = xs.getD t 0) : val (us.drop j) = val (part us j k) := by
 apply val_congr
 intro t
 unfold part
 by_cases ht : t < k
 ·rw [getD_take ht]
 ·rw [getD_drop, hs _ (by omega), ← getD_drop, zero_of_val_lt hv (by omega), getD_of_le (by rw [List.length_take]; omega)]
theorem take_of_same {us xs : List Nat} {j : Nat} (hl : us.length = xs.length) (hs : ∀ t, t < j → us.getD t 0 = xs.getD t 0) : us.take j = xs.take j := by
 apply ext_getD (by rw [List.length_take, List.length_take, hl])
 intro t htl
 rw [List.length_take] at htl
 rw [getD_take (by omega), getD_take (by omega)]
 exact hs t (by omega)
/-- What a guess of a quotient's digit rests on: the dividend's part U, the divisor V, their highest words. -/
structure Guess (U V B q t h n x : Nat) : Prop where
 hB : 0 < B
 hq : q * V ≤ U
 hq' : U < (q + 1) * V
 hqs : q < 4294967296
 hh : 2147483648 ≤ h
 hh' : h < 4294967296
 hn : n < 4294967296
 hx : x < 4294967296
 hU : U / B = x + 4294967296 * t
 hV : (n + 4294967296 * h) * B ≤ V
 hV' : V < (n + 4294967296 * h + 1) * B
 hUV : t < (h + 1) * 4294967296
theorem Guess.first {U V B q t h n x : Nat} (g : Guess U V B q t h n x) : q ≤ t / h ∧ t / h ≤ 4294967297 ∧ h * (t / h) + t % h = t ∧ t % h < 4294967296 := by
 have hh := g.hh
 have h1 : U / (4294967296 * B) = t := by
  rw [Nat.mul_comm, ← Nat.div_div_eq_div_mul, g.hU]
  have := g.hx
  omega
 have h2 : h * (4294967296 * B) ≤ V := by
  refine Nat.le_trans ?_ g.hV
  rw [← Nat.mul_assoc]
  exact Nat.mul_le_mul_right _ (by omega)
 refine ⟨digit_upper h1 h2 (Nat.mul_pos (by omega) g.hB) (by omega) g.hq, ?_, Nat.div_add_mod t h, Nat.lt_trans (Nat.mod_lt t (by omega)) g.hh'⟩
 have h3 := g.hUV
 have h4 := g.hh'
 rw [Nat.add_mul, Nat.one_mul] at h3
 have h5 : t < 4294967298 * h := by omega
 have := Nat.div_lt_of_lt_mul (by rw [Nat.mul_comm] at h5; exact h5)
 omega
theorem Guess.great {U V B q t h n x d r : Nat} (g : Guess U V B q t h n x) (hdr : h * d + r = t) (hc : x + 4294967296 * r < d * n) : q < d := by
 refine digit_too_great g.hU g.hV g.hB g.hq ?_
 rw [← hdr, Nat.mul_add d, Nat.mul_add 4294967296, Nat.mul_left_comm d, Nat.mul_comm d h]
 omega
theorem Guess.near {U V B q t h n x d r : Nat} (g : Guess U V B q t h n x) (hdr : h * d + r = t) (hd : d < 4294967296) (hqd : q ≤ d) (hc : d * n ≤ x + 4294967296 * r) : d = q ∨ d = q + 1 := by
 have h1 : d * (n + 4294967296 * h) ≤ x + 4294967296 * t := by
  rw [← hdr, Nat.mul_add d, Nat.mul_add 4294967296, Nat.mul_left_comm d, Nat.mul_comm d h]
  omega
 have h2 : (x + 4294967296 * t) * B ≤ U := by rw [← g.hU]; exact Nat.div_mul_le_self _ _
 have h3 : d * B ≤ 4294967296 * B := Nat.mul_le_mul_right _ (by omega)
 have h4 : 4294967296 * B ≤ V := Nat.le_trans (Nat.mul_le_mul_right _ (by have := g.hh; omega)) g.hV
 have := digit_near h2 g.hV' h3 h4 g.hq' h1
 omega
theorem Guess.low {U V B q t h n x d r : Nat} (g : Guess U V B q t h n x) (hdr : h * d + r = t) (hd : d ≤ 4294967296) (hqd : q ≤ d) (hr : 4294967296 ≤ r) : d = q := by
 have h2 : t * (4294967296 * B) ≤ U := by
  refine Nat.le_trans ?_ (Nat.div_mul_le_self U B)
  rw [g.hU, ← Nat.mul_assoc]
  exact Nat.mul_le_mul_right _ (by omega)
 have h3 : V ≤ (h + 1) * (4294967296 * B) := by
  refine Nat.le_trans (Nat.le_of_lt g.hV') ?_
  rw [← Nat.mul_assoc]
  exact Nat.mul_le_mul_right _ (by have := g.hn; omega)
 have := digit_low h2 h3 hd (by rw [Nat.mul_comm d h]; omega) g.hq'
 omega
/-- The guess at a place of the division's loop. -/
theorem guess_at {xs ys : List Nat} {j p V : Nat} (hL : Limb xs) (hY : Limb ys) (hyl : p + 2 ≤ ys.length) (hV : val ys = V) (hV1 : 4294967296 ^ (p + 1) * 2147483648 ≤ V) (hV2 : V < 4294967296 ^ (p + 2)) (hU : val (xs.drop j) < V * 4294967296) :
  Guess (val (xs.drop j)) V (4294967296 ^ p) (val (xs.drop j) / V) (xs.getD (j + p + 1) 0 + 4294967296 * xs.getD (j + p + 2) 0) (ys.getD (p + 1) 0) (ys.getD p 0) (xs.getD (j + p) 0) := by
 have hB : 0 < 4294967296 ^ p := pow_pos' p
 have hV0 : 0 < V := Nat.lt_of_lt_of_le (Nat.mul_pos (pow_pos' (p + 1)) (by omega)) hV1
 have eY : V = val (ys.take p) + 4294967296 ^ p * (ys.getD p 0 + 4294967296 * ys.getD (p + 1) 0) := by
  have h1 : val (ys.take (p + 2)) = val ys := val_take_of_lt (by rw [hV]; exact hV2)
  rw [← hV, ← h1, val_take_next, val_take_next, Nat.pow_succ, Nat.mul_add, Nat.mul_assoc, Nat.add_assoc]
 have hyt : val (ys.take p) < 4294967296 ^ p := by
  have := val_lt (hY.take p)
  rwa [List.length_take, Nat.min_eq_left (by omega)] at this
 have eU : val (xs.drop j) = val (part xs j p) + 4294967296 ^ p * (xs.getD (j + p) 0 + 4294967296 * (xs.getD (j + p + 1) 0 + 4294967296 * xs.getD (j + p + 2) 0)) := by
  have h1 : val (part xs j (p + 3)) = val (xs.drop j) := val_take_of_lt (Nat.lt_of_lt_of_le hU (by rw [Nat.pow_succ]; exact Nat.mul_le_mul_right _ (Nat.le_of_lt hV2)))
  rw [← h1, part_next, part_next, part_next, Nat.pow_succ, Nat.pow_succ]
  rw [show j + (p + 2) = j + p + 2 by omega, show j + (p + 1) = j + p + 1 by omega]
  simp only [Nat.mul_add, Nat.mul_assoc, Nat.add_assoc]
  rw [Nat.pow_succ]
  simp only [Nat.mul_assoc]
 have hut : val (part xs j p) < 4294967296 ^ p := by
  have h1 := val_lt (((hL.drop j).take p))
  refine Nat.lt_of_lt_of_le h1 (Nat.pow_le_pow_right (by omega) ?_)
  rw [List.length_take]; omega
 have hy1 := hY.getD (p + 1)
 have hy0 := hY.getD p
 have hx0 := hL.getD (j + p)
 generalize val (part xs j p) = a at *
 generalize val (ys.take p) = b at *
 generalize val (xs.drop j) = U at *
 generalize xs.getD (j + p) 0 = x0 at *
 generalize xs.getD (j + p + 1) 0 = x1 at *
 generalize xs.getD (j + p + 2) 0 = x2 at *
 generalize ys.getD (p + 1) 0 = h at *
 generalize ys.getD p 0 = n at *
 have hUd : U / 4294967296 ^ p = x0 + 4294967296 * (x1 + 4294967296 * x2) := by
  rw [eU, Nat.add_mul_div_left _ _ hB, Nat.div_eq_of_lt hut, Nat.zero_add]
 have hVd : V / 4294967296 ^ p = n + 4294967296 * h := by
  rw [eY, Nat.add_mul_div_left _ _ hB, Nat.div_eq_of_lt hyt, Nat.zero_add]
 refine ⟨hB, Nat.div_mul_le_self _ _, ?_, ?_, ?_, hy1, hy0, hx0, hUd, ?_, ?_, ?_⟩
 ·have := Nat.lt_mul_div_succ U hV0
  rwa [Nat.mul_comm] at this
 ·exact Nat.div_lt_of_lt_mul hU
 ·have h1 : 4294967296 * 2147483648 ≤ V / 4294967296 ^ p := by
   rw [Nat.le_div_iff_mul_le hB]
   rw [Nat.pow_succ] at hV1
   refine Nat.le_trans (Nat.le_of_eq ?_) hV1
   rw [Nat.mul_comm, Nat.mul_assoc]
  rw [hVd] at h1
  omega
 ·rw [← hVd]; exact Nat.div_mul_le_self _ _
 ·rw [← hVd, Nat.mul_comm]; exact Nat.lt_mul_div_succ V hB
 ·have h1 : U / 4294967296 ^ p < (n + 4294967296 * h + 1) * 4294967296 := by
   apply Nat.div_lt_of_lt_mul
   refine Nat.lt_of_lt_of_le hU ?_
   have h2 : V < (n + 4294967296 * h + 1) * 4294967296 ^ p := by rw [← hVd, Nat.mul_comm]; exact Nat.lt_mul_div_succ V hB
   refine Nat.le_trans (Nat.mul_le_mul_right 4294967296 (Nat.le_of_lt h2)) (Nat.le_of_eq ?_)
   rw [Nat.mul_comm _ (4294967296 ^ p), Nat.mul_assoc]
  rw [hUd] at h1
  have h3 : (n + 4294967296 * h + 1) * 4294967296 ≤ 4294967296 * (4294967296 * (h + 1)) := by
   rw [Nat.mul_comm]; exact Nat.mul_le_mul_left _ (by omega)
  omega
end Go.Proofs.YtonleohlplkglaaGreatDoor
namespace Go.Proofs.YtonleohlplkglaaGreatDoor
open Go Go.RowKit
/-- What the division's loop keeps. -/
structure DivAt (g1 g2 g3 : Nat) (ys : List Nat) (X V n l k : Nat) (w : World) (xs qs : List Nat) : Prop where
 rx : Row w g1 xs
 lx : Limb xs
 nx : xs.length = n + 1
 rq : Row w g3 qs
 lq : Limb qs
 nq : qs.length = l
 ry : Row w g2 ys
 inv : DivInv X V k xs qs
theorem Only.trans {g : Nat} {a b c : World} (h : Only g a b) (k : Only g b c) : Only g a c :=
 ⟨k.os.trans h.os, k.tape.trans h.tape, k.output.trans h.output, Nat.le_trans h.size k.size, fun i hi hne => (k.block i (Nat.lt_of_lt_of_le hi h.size) hne).trans (h.block i hi hne)⟩
theorem sub_zero {P d V U qd : Nat} (h : P + d * V = U) (hq : U / V = qd) (hd : d = qd ∨ d = qd + 1) (hV : 0 < V) : d = qd ∧ P = U % V := by
 have h1 := Nat.div_add_mod U V
 have h2 := Nat.mod_lt U hV
 rw [hq] at h1
 rcases hd with rfl | rfl
 ·refine ⟨rfl, ?_⟩
  rw [Nat.mul_comm] at h1; omega
 ·exfalso
  rw [Nat.add_mul, Nat.one_mul, Nat.mul_comm qd] at h; omega
theorem sub_one {P P2 c d V U B3 qd : Nat} (h : P + d * V = U + B3) (hP : P < B3) (h2 : P2 + B3 * c = P + V) (hP2 : P2 < B3) (hVB : V ≤ B3) (hq : U / V = qd) (hd : d = qd ∨ d = qd + 1) (hV : 0 < V) : d = qd + 1 ∧ P2 = U % V := by
 have h1 := Nat.div_add_mod U V
 have h3 := Nat.mod_lt U hV
 rw [hq] at h1
 rcases hd with rfl | rfl
 ·exfalso
  rw [Nat.mul_comm] at h1; omega
 ·refine ⟨rfl, ?_⟩
  rw [Nat.add_mul, Nat.one_mul, Nat.mul_comm qd] at h
  have h4 : P2 + B3 * c = B3 + U % V := by omega
  match c with
  | 0 => omega
  | 1 => omega
  | c + 2 => rw [Nat.mul_add] at h4; have : 0 ≤ B3 * c := Nat.zero_le _; omega
theorem DivAt.next {g1 g2 g3 X V n l j p qd : Nat} {ys xs qs zs : List Nat} {w w' : World} (h : DivAt g1 g2 g3 ys X V n l (j + 1) w xs qs) (hj : j < l) (hp : j + p + 2 < n + 1) (ho : Only g1 w w') (hr : Row w' g1 zs) (hL : Limb zs) (hl : zs.length = xs.length)
  (hs : ∀ t, (t < j ∨ j + (p + 2 + 1) ≤ t) → zs.getD t 0 = xs.getD t 0) (hv : val (part zs j (p + 2 + 1)) = val (xs.drop j) % V) (hU : val (xs.drop j) < 4294967296 ^ (p + 2 + 1)) (n13 : g1 ≠ g3) (n21 : g2 ≠ g1) (n23 : g2 ≠ g3) (hq : val (xs.drop j) / V = qd) (hqs : qd < 4294967296) (hV : 0 < V) :
  DivAt g1 g2 g3 ys X V n l j (w'.setCell ⟨g3, j, none⟩ (.int .u32 (qd : Int))) zs (qs.set j qd) := by
 refine ⟨hr.far (p := ⟨g3, j, none⟩) n13 _, hL, by rw [hl, h.nx], (ho.row h.rq (Ne.symm n13)).set_ j qd, limb_set h.lq hqs, by simp [h.nq], (ho.row h.ry n21).far (p := ⟨g3, j, none⟩) n23 _, ?_⟩
 have hd : val (zs.drop j) = val (xs.drop j) % V := by rw [drop_of_part hU (fun t ht => hs t (Or.inr ht)), hv]
 have := div_round h.inv (by rw [h.nq]; exact hj) (by rw [h.nx]; omega) hl (take_of_same hl fun t ht => hs t (Or.inl ht)) hd hV
 rwa [hq] at this
set_option maxRecDepth 100000 in
set_option maxHeartbeats 4000000 in
theorem int_divide_long (hLZ : LZ32) {A A' : Option Addr} {n p c c' a b : Nat} {w : World} (h : Words w (.slice A n c) (limbs a)) (h' : Words w (.slice A' (p + 2) c') (limbs b)) (hab : b ≤ a) (hn : 2 < n) (hn2 : n < 35184372088832) :
  Calls Tryz.prog 132 #[.slice A n c, .slice A' (p + 2) c'] w (Ret w (DivRes a b)) := by
 have hl := h.len
 have hl' := h'.len
 obtain ⟨s, hs, hse, hbl, hV1, hV2⟩ := norm_shift (m := p + 1) hl'.1.symm
 have hmn : p + 2 ≤ n := by have := limbs_length_mono hab; omega
 have hst := norm_start (m := p + 1) hl.1.symm hmn hs hV1
 have hLV : (limbs (b * 2 ^ s)).length = p + 2 := limbs_length_eq (Nat.le_trans (by omega) hV1) hV2
 have hC := int_compare h h'
 rw [cmpW_limbs, if_neg (by omega)] at hC
 obtain ⟨r, hr, hr0⟩ : ∃ r : Int, (if b < a then (1 : Int) else 0) = r ∧ 0 ≤ r := ⟨_, rfl, by split <;> omega⟩
 rw [hr] at hC
 have HC := Lib.hid hC
 have HW' := Lib.hid h'
 have htop : 0 < (limbs b).getD (p + 1) 0 := by
  rcases Nat.eq_zero_or_pos ((limbs b).getD (p + 1) 0) with h0 | h0
  ·have h1 := trim_step_zero (xs := limbs b) (k := p + 1) (by omega) h0
   rw [List.take_of_length_le (by omega), trimL_limbs] at h1
   have h2 := trimL_length_le ((limbs b).take (p + 1))
   rw [← h1, List.length_take] at h2
   omega
  ·exact h0
 have htlt := (limb_limbs b).getD (p + 1)
 have HZ := Lib.hid (fun w1 => hLZ _ w1 htop htlt)
 have hsa := fun w' (hx : Ext w w') => int_shiftLeft (h.ext hx) hs hn2
 have hsb := fun w' (hx : Ext w w') => int_shiftLeft (h'.ext hx) hs (by omega)
 rw [val_limbs] at hsa hsb
 have HSA := Lib.hid hsa
 have HSB := Lib.hid hsb
 obtain ⟨l, hl0⟩ : ∃ l, n = p + 1 + l := ⟨n - (p + 1), by omega⟩
 have hmk := mk_words l (by omega)
 have hl1 : p + 1 + l ≤ n := by omega
 have hl2 : n ≤ p + 1 + l := by omega
 clear hl0
 have HV := Lib.hid (And.intro hV1 (And.intro hV2 (And.intro hst hLV)))
 have hl1 : n ≤ c ∧ n ≤ 35184372088832 ∧ p + 2 ≤ c' ∧ p + 2 ≤ 35184372088832 := ⟨hl.2.1, hl.2.2, hl'.2.1, hl'.2.2⟩
 obtain ⟨l1, l2, l3, l4⟩ := hl1
 obtain ⟨bb, off, rfl, hbb, -, hcell⟩ := h'.at_ (k := p + 1) (by omega)
 have g1 := hcell (p + 1) (by omega)
 clear hcell h h' hC hr hl hl' hsa hsb hV1 hV2 hst hLV
 generalize (limbs b).getD (p + 1) 0 = tp at *
 have hbs : 32 - blen tp = s := by omega
 rw [hbs] at HZ
 clear hse hbl hbs htop htlt hLZ
 go_enter Tryz.func132, Tryz.ntmps132
 go_wp2_with fail
 refine HC.out.mono ?_
 rintro e w1 ⟨rfl, hx1⟩
 have g2 : w1.cell? ⟨bb, off + (p + 1), none⟩ = some (.int .u32 (tp : Int)) := (hx1.cell (p := ⟨bb, off + (p + 1), none⟩) hbb).trans g1
 clear HC g1
 go_wp2_with fail
 refine (HZ.out _).mono ?_
 rintro e w2 ⟨rfl, rfl⟩
 clear HZ g2
 go_wp2_with fail
 refine (HSA.out _ hx1).mono ?_
 rintro e w2 ⟨v, rfl, ⟨xs0, rfl, hr1, hL1, hn1, hv1⟩, hx2⟩
 have hg1 : w.heap.size ≤ w1.heap.size := hx1.size
 have hx12 : Ext w w2 := Ext.trans hx1 hx2
 generalize hgg1 : w1.heap.size = g1 at *
 clear HSA hgg1
 have HX0 := Lib.hid (And.intro hr1 (And.intro hL1 (And.intro hn1 hv1)))
 have hlt1 := hr1.lt
 clear hr1 hL1 hn1 hv1 hx1 hx2
 go_wp2_with fail
 refine (HSB.out _ hx12).mono ?_
 rintro e w3 ⟨v, rfl, ⟨ys0, rfl, hr2, hL2, hn2', hv2⟩, hx3⟩
 have hx13 : Ext w w3 := Ext.trans hx12 hx3
 have HX1 := Lib.hid (And.intro (Row.ext HX0.out.1 hx3) HX0.out.2)
 generalize hgg2 : w2.heap.size = g2 at *
 clear HSB hgg2
 have hlt2 := hr2.lt
 have hW2 := hr2.words hL2 (c := p + 2 + 1) (by omega) (by omega)
 rw [hn2'] at hW2
 have HT := int_trim hW2
 have eT : (trimL ys0).length = p + 2 := by rw [trimL_eq_limbs hL2, hv2]; exact HV.out.2.2.2
 rw [eT] at HT
 have HT' := Lib.hid HT
 have HY0 := Lib.hid (And.intro hr2 (And.intro hL2 (And.intro hn2' hv2)))
 clear hr2 hL2 hn2' hv2 hW2 HT eT HX0 hx12 hx3
 go_wp2_with fail
 refine HT'.out.mono ?_
 rintro e w4 ⟨rfl, rfl⟩
 clear HT'
 have hml : (n : Int) + 1 - ((p : Int) + 2) = (l : Int) := by omega
 go_wp2_with fail
 have hE3 : Ext w w3 := hx13
 obtain ⟨W4, hW4⟩ : ∃ W4, w3.alloc (Obj.cells (madeCells #[Value.int IntKind.u32 0] l) 142) = W4 := ⟨_, rfl⟩
 obtain ⟨g3, hg3⟩ : ∃ g3, w3.heap.size = g3 := ⟨_, rfl⟩
 have HQ0 : Hid (Row W4 g3 (List.replicate l 0)) := by rw [← hW4, ← hg3]; exact Row.made w3 l
 have HX4 : Hid (Row W4 g1 xs0) := by rw [← hW4]; exact HX1.out.1.alloc _
 have HY4 : Hid (Row W4 g2 ys0) := by rw [← hW4]; exact HY0.out.1.alloc _
 have hE4 : Ext w W4 := by rw [← hW4]; exact hx13.palloc _
 have hgs : g1 < g3 ∧ g2 < g3 ∧ g1 ≠ g2 ∧ w.heap.size ≤ g1 ∧ w.heap.size ≤ g2 ∧ w.heap.size ≤ g3 := by
  have := hE3.size
  refine ⟨?_, ?_, ?_, ?_, ?_, ?_⟩ <;> omega
 rw [hW4, hg3]
 clear hW4 hg3 hx13 hE3
 have y1 := HY4.out.cell (k := p + 1) (by have := HY0.out.2.2.1; omega)
 have y0 := HY4.out.cell (k := p) (by have := HY0.out.2.2.1; omega)
 have HHN := Lib.hid (And.intro (rfl : ys0.getD (p + 1) 0 = ys0.getD (p + 1) 0) (rfl : ys0.getD p 0 = ys0.getD p 0))
 obtain ⟨hh, hhe⟩ : ∃ h, ys0.getD (p + 1) 0 = h := ⟨_, rfl⟩
 obtain ⟨nn, hne⟩ : ∃ h, ys0.getD p 0 = h := ⟨_, rfl⟩
 have bh := HY0.out.2.1.getD (p + 1)
 have bn := HY0.out.2.1.getD p
 rw [hhe] at y1 bh
 rw [hne] at y0 bn
 have HHE := Lib.hid (And.intro hhe hne)
 clear hhe hne HHN
 go_quiet (fail)
 have hE5 : Ext w (W4.drewN nq) := hE4.pdrewN nq
 have HQ5 : Hid (Row (W4.drewN nq) g3 (List.replicate l 0)) := HQ0.out
 have HX5 : Hid (Row (W4.drewN nq) g1 xs0) := HX4.out
 have HY5 : Hid (Row (W4.drewN nq) g2 ys0) := HY4.out
 clear hE4 HQ0 HX4 HY4 y0 y1
 generalize W4.drewN nq = W5 at *
 go_wp2_with fail
 go_loopg [15] l (fun gk i wr => ∃ (xs qs : List Nat), gk ≤ l ∧ i = .int .i64 ((gk : Int) - 1) ∧ Hid (DivAt g1 g2 g3 ys0 (a * 2 ^ s) (b * 2 ^ s) n l gk wr xs qs) ∧ Ext w wr)
 case atStart =>
  refine ⟨xs0, List.replicate l 0, Nat.le_refl _, rfl, ⟨HX5.out, HX1.out.2.1, HX1.out.2.2.1, HQ5.out, limb_replicate l, by simp, HY5.out, div_init HX1.out.2.2.2 (by have := HX1.out.2.2.1; omega) ?_⟩, hE5⟩
  have := HV.out.2.2.1
  rwa [show n - (p + 1) = l by omega] at this
 case round =>
  obtain ⟨xs, qs, hk, rfl, HZ, hE⟩ := hrel
  by_cases hk0 : 0 < gk
  ·obtain ⟨j, rfl⟩ : ∃ j, gk = j + 1 := ⟨gk - 1, by omega⟩
   have hU := div_part_lt HZ.out.lx (by have := HZ.out.nx; omega) HZ.out.inv
   have hG := guess_at (p := p) HZ.out.lx HY0.out.2.1 (by have := HY0.out.2.2.1; omega) HY0.out.2.2.2 HV.out.1 HV.out.2.1 hU
   have x2 := HZ.out.rx.cell (k := j + p + 2) (by have := HZ.out.nx; omega)
   have x1 := HZ.out.rx.cell (k := j + p + 1) (by have := HZ.out.nx; omega)
   have x0 := HZ.out.rx.cell (k := j + p) (by have := HZ.out.nx; omega)
   have b2 := HZ.out.lx.getD (j + p + 2)
   have b1 := HZ.out.lx.getD (j + p + 1)
   rw [HHE.out.1, HHE.out.2] at hG
   have HU := Lib.hid hU
   clear hU
   generalize hqd : val (xs.drop j) / (b * 2 ^ s) = qd at *
   have HQD := Lib.hid hqd
   clear hqd
   obtain ⟨i2, hi2⟩ : ∃ i, i = j + p + 2 := ⟨_, rfl⟩
   obtain ⟨i1, hi1⟩ : ∃ i, i = j + p + 1 := ⟨_, rfl⟩
   obtain ⟨i0, hi0⟩ : ∃ i, i = j + p := ⟨_, rfl⟩
   rw [← hi2] at x2 b2 hG
   rw [← hi1] at x1 b1 hG
   rw [← hi0] at x0 hG
   have e2 : (j : Int) + ((p : Int) + 2) = (i2 : Int) := by omega
   have e1 : (i2 : Int) - 1 = (i1 : Int) := by omega
   have e0 : (i2 : Int) - 2 = (i0 : Int) := by omega
   have f2 : i2 < n + 1 := by omega
   have f1 : i1 < n + 1 := by omega
   have f0 : i0 < n + 1 := by omega
   have HI := Lib.hid (And.intro hi2 (And.intro hi1 hi0))
   clear hi2 hi1 hi0
   obtain ⟨u2, hu2⟩ : ∃ u, xs.getD i2 0 = u := ⟨_, rfl⟩
   obtain ⟨u1, hu1⟩ : ∃ u, xs.getD i1 0 = u := ⟨_, rfl⟩
   obtain ⟨u0, hu0⟩ : ∃ u, xs.getD i0 0 = u := ⟨_, rfl⟩
   rw [hu2] at x2 b2 hG
   rw [hu1] at x1 b1 hG
   rw [hu0] at x0 hG
   clear hu0 hu1 hu2
   have hor : bits .or .u64 ((u2 : Int) * 4294967296) (u1 : Int) = ((u1 + 4294967296 * u2 : Nat) : Int) := u64_or_hi u2 u1 b2 b1
   have htb : u1 + 4294967296 * u2 < 18446744073709551616 := by omega
   generalize u1 + 4294967296 * u2 = t at *
   have hx0 := hG.hx
   have hh0 := hG.hh
   have hh1 := hG.hh'
   have hn0 := hG.hn
   have HG := Lib.hid hG
   clear hG
   have hd1 : ¬ ((hh : Int) = 0) := by omega
   have hd2 : ((hh : Int) == 0) = false := by rw [beq_eq_false_iff_ne]; omega
   go_wp2_with fail
   go_quiet (fail)
   have z0 : (wr.drewN nq).cell? ⟨g1, i0, none⟩ = some (.int .u32 (u0 : Int)) := x0
   have hE6 : Ext w (wr.drewN nq) := hE.pdrewN nq
   have HZ6 : Hid (DivAt g1 g2 g3 ys0 (a * 2 ^ s) (b * 2 ^ s) n l (j + 1) (wr.drewN nq) xs qs) := ⟨HZ.out.rx, HZ.out.lx, HZ.out.nx, HZ.out.rq, HZ.out.lq, HZ.out.nq, HZ.out.ry, HZ.out.inv⟩
   clear x0 x1 x2 HZ hE
   generalize wr.drewN nq = w6 at *
   go_wp2_with fail
   go_quiet (fail)
   have z0' : (w6.drewN nq).cell? ⟨g1, i0, none⟩ = some (.int .u32 (u0 : Int)) := z0
   have hE7 : Ext w (w6.drewN nq) := hE6.pdrewN nq
   have HZ7 : Hid (DivAt g1 g2 g3 ys0 (a * 2 ^ s) (b * 2 ^ s) n l (j + 1) (w6.drewN nq) xs qs) := ⟨HZ6.out.rx, HZ6.out.lx, HZ6.out.nx, HZ6.out.rq, HZ6.out.lq, HZ6.out.nq, HZ6.out.ry, HZ6.out.inv⟩
   clear z0 HZ6 hE6
   generalize w6.drewN nq = w7 at *
   have q1 : IntKind.u64.wrap ((t : Int) / (hh : Int)) = ((t / hh : Nat) : Int) := by
    rw [← Int.natCast_ediv, IntKind.wrap_u64]
    have h1 : t / hh ≤ t := Nat.div_le_self _ _
    generalize t / hh = q at *
    omega
   rw [q1, ← Int.natCast_emod]
   obtain ⟨g1', g2', g3', g4'⟩ := HG.out.first
   generalize t / hh = d0 at *
   generalize t % hh = r0 at *
   clear hor q1 htb
   go_upto_block 3 with fail
   go_cut [17, 18] from 89 to 167 (fun x y wx => ∃ d r : Nat, x = .int .u64 (d : Int) ∧ y = .int .u64 (r : Int) ∧ d < 4294967296 ∧ Hid (d = qd ∨ d = qd + 1) ∧ wx = w7)
   case first =>
    go_wp2_with fail
    go_loopg [17, 18] d0 (fun gk x y wr => ∃ r : Nat, x = .int .u64 (gk : Int) ∧ y = .int .u64 (r : Int) ∧ Hid (hh * gk + r = t) ∧ Hid (qd ≤ gk) ∧ gk ≤ 4294967297 ∧ r < 4294967296 ∧ wr = w7)
    case atStart => exact ⟨r0, rfl, rfl, g3', g1', g2', g4', rfl⟩
    case round =>
     obtain ⟨r, rfl, rfl, HE, HQ, hgk, hr, hwr⟩ := hrel
     have hwr' := hwr.symm
     clear hwr
     subst hwr'
     have hqs := HG.out.hqs
     have HR := Lib.hid hr
     have HGK := Lib.hid hgk
     have hb2 : ∀ b : Bool, decide (4294967296 ≤ r + hh) = b → decide ((4294967296 : Int) ≤ (r : Int) + (hh : Int)) = b := fun b h => by rw [← h]; apply decide_eq_decide.2; omega
     have hb1 : ∀ b : Bool, decide (4294967296 ≤ gk) = b → decide ((4294967296 : Int) ≤ (gk : Int)) = b := fun b h => by rw [← h]; apply decide_eq_decide.2; omega
     have HB2 := Lib.hid hb2
     have HB1 := Lib.hid hb1
     clear hb1 hb2
     have HX0 := Lib.hid hx0
     by_cases hbig : 4294967296 ≤ gk
     ·obtain ⟨d, hdg⟩ : ∃ d, gk = d + 1 := ⟨gk - 1, by omega⟩
      have hgd : (gk : Int) - 1 = (d : Int) := by omega
      have HE2 : Hid (hh * d + (r + hh) = t) := by have := HE.out; rw [hdg, Nat.mul_add, Nat.mul_one] at this; show _ = _; omega
      have HQ2 : Hid (qd ≤ d) := by show _ ≤ _; omega
      have hd3 : d < 8589934592 := by omega
      have hb := HB1.out true (decide_eq_true hbig)
      by_cases hbrk : 4294967296 ≤ r + hh
      ·have hL : d = qd := HG.out.low HE2.out (by omega) HQ2.out hbrk
       have HL := Lib.hid hL
       have HF : Hid (d < 4294967296) := by show _ < _; omega
       have hb2 := HB2.out true (decide_eq_true hbrk)
       clear hL hbig hbrk hgk hqs hdg hx0
       go_wp2_with fail
       go_meet
       exact ⟨d, r + hh, by go_num, by go_num, HF.out, Or.inl HL.out, rfl⟩
      ·have hb2 := HB2.out false (decide_eq_false hbrk)
       have HF : Hid (d < gk ∧ d ≤ 4294967297 ∧ r + hh < 4294967296) := by refine ⟨?_, ?_, ?_⟩ <;> omega
       clear hbig hbrk hgk hqs hdg hx0
       go_wp2_with fail
       go_roundg d
       case measure => exact HF.out.1
       case rel => exact ⟨r + hh, by go_num, by go_num, HE2, HQ2, HF.out.2.1, HF.out.2.2, rfl⟩
     ·have hp : gk * nn ≤ 18446744065119617025 := Nat.le_trans (Nat.mul_le_mul (show gk ≤ 4294967295 by omega) (show nn ≤ 4294967295 by omega)) (by decide)
      have hp0 : (0 : Int) ≤ (gk : Int) * (nn : Int) := Int.mul_nonneg (Int.natCast_nonneg _) (Int.natCast_nonneg _)
      have hor2 : bits .or .u64 ((r : Int) * 4294967296) (u0 : Int) = ((u0 + 4294967296 * r : Nat) : Int) := u64_or_hi r u0 hr hx0
      obtain ⟨y2, hy2⟩ : ∃ y, u0 + 4294967296 * r = y := ⟨_, rfl⟩
      rw [hy2] at hor2
      have HY2 := Lib.hid hy2
      clear hy2
      have hb := HB1.out false (decide_eq_false hbig)
      by_cases hc : y2 < gk * nn
      ·have hlt : qd < gk := HG.out.great HE.out (by rw [HY2.out]; exact hc)
       obtain ⟨d, hdg⟩ : ∃ d, gk = d + 1 := ⟨gk - 1, by omega⟩
       have hgd : (gk : Int) - 1 = (d : Int) := by omega
       have hdec : (y2 : Int) < (gk : Int) * (nn : Int) := by rw [← Int.natCast_mul]; omega
       have HE2 : Hid (hh * d + (r + hh) = t) := by have := HE.out; rw [hdg, Nat.mul_add, Nat.mul_one] at this; show _ = _; omega
       have HQ2 : Hid (qd ≤ d) := by show _ ≤ _; omega
       have hd3 : d < 4294967296 := by omega
       by_cases hbrk : 4294967296 ≤ r + hh
       ·have hL : d = qd := HG.out.low HE2.out (by omega) HQ2.out hbrk
        have HL := Lib.hid hL
        have hb2 := HB2.out true (decide_eq_true hbrk)
        have HF := Lib.hid hd3
        clear hL hbig hbrk hgk hqs hdg hc hlt
        go_wp2_with fail
        go_meet
        exact ⟨d, r + hh, by go_num, by go_num, HF.out, Or.inl HL.out, rfl⟩
       ·have hb2 := HB2.out false (decide_eq_false hbrk)
        have HF : Hid (d < gk ∧ d ≤ 4294967297 ∧ r + hh < 4294967296) := by refine ⟨?_, ?_, ?_⟩ <;> omega
        clear hbig hbrk hgk hqs hdg hc hlt
        go_wp2_with fail
        go_roundg d
        case measure => exact HF.out.1
        case rel => exact ⟨r + hh, by go_num, by go_num, HE2, HQ2, HF.out.2.1, HF.out.2.2, rfl⟩
      ·have HN : Hid (gk = qd ∨ gk = qd + 1) := HG.out.near HE.out (by omega) HQ.out (by rw [HY2.out]; omega)
       have hdec : (gk : Int) * (nn : Int) ≤ (y2 : Int) := by rw [← Int.natCast_mul]; omega
       have HF : Hid (gk < 4294967296) := by show _ < _; omega
       clear hbig hgk hqs hc
       go_wp2_with fail
       go_meet
       exact ⟨gk, r, rfl, rfl, HF.out, HN, rfl⟩
   case rest =>
    obtain ⟨d, r, rfl, rfl, hd, HD, hwr⟩ := hcut
    subst hwr
    have hY := (HZ7.out.ry.words HY0.out.2.1 (c := p + 2 + 1) (by rw [HY0.out.2.2.1]; omega) (by omega)).trim
    rw [trimL_eq_limbs HY0.out.2.1, HY0.out.2.2.2, HV.out.2.2.2] at hY
    have hS := int_subtract (i := j) (m := p + 2) (c := n + 1 - j) HZ7.out.rx HZ7.out.lx (by rw [HZ7.out.nx]; have := HI.out; omega) (by rw [HZ7.out.nx]; omega) hY (fun a ha => by injection ha with ha; rw [← ha]; show g2 ≠ g1; omega) hd
    rw [val_limbs] at hS
    have HS := Lib.hid hS
    have HYW := Lib.hid hY
    have HN : Hid (i2 + 1 - j = p + 2 + 1) := by have := HI.out; show _ = _; omega
    have HDD := Lib.hid hd
    have f3 : j ≤ i2 + 1 := by have := HI.out; omega
    clear hS hY e0 e1 f0 f1 z0' hx0 hh0 hh1 hn0 g1' g2' g3' g4' b1 b2 bh bn
    go_wp2_with fail
    rw [HN.out]
    refine HS.out.mono ?_
    rintro e w8 ⟨zs, q, rfl, hq1, r1, L1, l1, s1, v1, o1⟩
    have hV0 : 0 < b * 2 ^ s := Nat.lt_of_lt_of_le (Nat.mul_pos (pow_pos' (p + 1)) (by omega)) HV.out.1
    have hVB : b * 2 ^ s ≤ 4294967296 ^ (p + 2 + 1) := by
     rw [Nat.pow_succ]
     refine Nat.le_trans (Nat.le_of_lt HV.out.2.1) ?_
     rw [Nat.pow_succ]
     exact Nat.le_mul_of_pos_right _ (by omega)
    have hUB : val (xs.drop j) < 4294967296 ^ (p + 2 + 1) := by
     refine Nat.lt_of_lt_of_le HU.out ?_
     rw [Nat.pow_succ]
     exact Nat.mul_le_mul_right _ (Nat.le_of_lt HV.out.2.1)
    have hPU : val (part xs j (p + 2 + 1)) = val (xs.drop j) := val_take_of_lt hUB
    have hPL : ∀ l : List Nat, Limb l → val (part l j (p + 2 + 1)) < 4294967296 ^ (p + 2 + 1) := fun l hl => by
     refine Nat.lt_of_lt_of_le (val_lt ((hl.drop j).take _)) (Nat.pow_le_pow_right (by omega) ?_)
     unfold part; rw [List.length_take]; omega
    have hE8 : Ext w w8 := o1.ext hE7 (by omega)
    have hqd := HG.out.hqs
    rw [hPU] at v1
    by_cases hqq : q = 1
    ·subst hqq
     rw [Nat.mul_one] at v1
     have hR := int_restore (i := j) (m := p + 2) (c := n + 1 - j) r1 L1 (by rw [l1, HZ7.out.nx]; have := HI.out; omega) (by rw [l1, HZ7.out.nx]; omega) (o1.words HYW.out (fun a ha => by injection ha with ha; rw [← ha]; show g2 ≠ g1; omega)) (fun a ha => by injection ha with ha; rw [← ha]; show g2 ≠ g1; omega)
     rw [val_limbs] at hR
     have HR := Lib.hid hR
     have HPP := Lib.hid (And.intro (hPL _ L1) (And.intro hVB hV0))
     have HO1 := Lib.hid (And.intro o1 (And.intro l1 (And.intro s1 v1)))
     have HUB := Lib.hid hUB
     have HPL := Lib.hid hPL
     have HQD2 := Lib.hid hqd
     have hd1 : 1 ≤ d := by
      rcases Nat.eq_zero_or_pos d with h0 | h0
      ·exfalso; rw [h0, Nat.zero_mul] at v1; have := hPL _ L1; omega
      ·exact h0
     clear hR hPU hPL hqd v1 s1 l1 L1 r1 o1 hq1 HS hV0 hVB hUB
     go_wp2_with fail
     rw [HN.out]
     refine HR.out.mono ?_
     rintro e w9 ⟨zs2, cc, rfl, r2, L2, l2, s2, v2, o2⟩
     obtain ⟨o1, l1, s1, v1⟩ := HO1.out
     have hE9 : Ext w w9 := o2.ext hE8 (by omega)
     obtain ⟨hdq, hv⟩ := sub_one v1 HPP.out.1 v2 (HPL.out _ L2) HPP.out.2.1 HQD.out HD.out HPP.out.2.2
     have HNX := Lib.hid (HZ7.out.next (p := p) (by omega) (by have := HI.out; omega) (o1.trans o2) r2 L2 (by rw [l2, l1]) (fun t ht => by rw [s2 t ht, s1 t ht]) hv HUB.out (by omega) (by omega) (by omega) HQD.out HQD2.out HPP.out.2.2)
     have y1 := ((o1.trans o2).row HZ7.out.rq (by omega)).cell (k := j) (by rw [HZ7.out.nq]; omega)
     have y2 := ((o1.trans o2).row HZ7.out.rq (by omega)).frozen j
     have hdd : (d : Int) - 1 = (qd : Int) := by omega
     have hqb : qd < 4294967296 := HQD2.out
     clear hdq hv v1 s1 l1 o1 v2 s2 l2 L2 r2 o2 HR
     go_wp2_with fail
     go_roundg j
     case measure => omega
     case rel => exact ⟨zs2, qs.set j qd, by omega, by go_num, HNX, hE9.pset (p := ⟨g3, j, none⟩) hgs.2.2.2.2.2 _⟩
    ·obtain rfl : q = 0 := by omega
     rw [Nat.mul_zero, Nat.add_zero] at v1
     obtain ⟨hdq, hv⟩ := sub_zero v1 HQD.out HD.out hV0
     have HNX := Lib.hid (HZ7.out.next (p := p) (by omega) (by have := HI.out; omega) o1 r1 L1 l1 s1 hv hUB (by omega) (by omega) (by omega) HQD.out hqd hV0)
     have y1 := (o1.row HZ7.out.rq (by omega)).cell (k := j) (by rw [HZ7.out.nq]; omega)
     have y2 := (o1.row HZ7.out.rq (by omega)).frozen j
     have HDV := Lib.hid hv
     subst hdq
     clear hV0 hVB hUB hPU hPL hqd HDV hv v1 s1 l1 L1 r1 o1 hq1 HS
     go_wp2_with fail
     go_roundg j
     case measure => omega
     case rel => exact ⟨zs, qs.set j d, by omega, by go_num, HNX, hE8.pset (p := ⟨g3, j, none⟩) hgs.2.2.2.2.2 _⟩
  ·obtain rfl : gk = 0 := by omega
   obtain ⟨e1, e2⟩ := div_end HZ.out.inv
   have hp : 0 < 2 ^ s := Nat.pow_pos (by omega)
   rw [Nat.mul_div_mul_right _ _ hp] at e1
   rw [Nat.mul_mod_mul_right] at e2
   have hQ := HZ.out.rq.words HZ.out.lq (c := l) (by rw [HZ.out.nq]; omega) (by omega)
   rw [HZ.out.nq] at hQ
   have hX := HZ.out.rx.part HZ.out.lx (i := 0) (n := p + 2) (c := n + 1) (by rw [HZ.out.nx]; omega) (by omega) (by omega)
   have hQt := hQ.trim
   have hXt := hX.trim
   have hTQ := fun W (hx : Ext wr W) => int_trim (hQ.ext hx)
   have hTX := fun W (hx : Ext wr W) => int_trim (hX.ext hx)
   have eX : val ((xs.drop 0).take (p + 2)) = a % b * 2 ^ s := by
    rw [List.drop_zero, val_take_of_lt, e2]
    rw [e2]
    have hb0 : 0 < b := by
     rcases Nat.eq_zero_or_pos b with h0 | h0
     ·have := HV.out.1; rw [h0, Nat.zero_mul] at this; have := pow_pos' (p + 1); omega
     ·exact h0
    exact Nat.lt_trans (Nat.mul_lt_mul_of_pos_right (Nat.mod_lt _ hb0) hp) HV.out.2.1
   have lX : Limb ((xs.drop 0).take (p + 2)) := (HZ.out.lx.drop 0).take _
   rw [trimL_eq_limbs HZ.out.lq, e1] at hQt
   rw [trimL_eq_limbs lX, eX] at hXt
   simp only [trimL_eq_limbs HZ.out.lq, e1] at hTQ
   simp only [trimL_eq_limbs lX, eX] at hTX
   have hSR := fun W (hx : Ext wr W) => int_shiftRight (hXt.ext hx) hs
   simp only [val_limbs, Nat.mul_div_cancel _ hp] at hSR
   have HTQ := Lib.hid hTQ
   have HTX := Lib.hid hTX
   have HSR : Hid (∀ W, Ext wr W → Calls Tryz.prog 160 #[.slice (some ⟨g1, 0, none⟩) (limbs (a % b * 2 ^ s)).length (n + 1), .int .i64 (s : Int)] W (Ret W fun v w' => ∃ g zs, v = .slice (some ⟨g, 0, none⟩) (limbs (a % b * 2 ^ s)).length (limbs (a % b * 2 ^ s)).length ∧ Row w' g zs ∧ Limb zs ∧ zs.length = (limbs (a % b * 2 ^ s)).length ∧ val zs = a % b)) := fun W hx => (hSR W hx).mono fun e w' h => by
    obtain ⟨v, he, ⟨zs, h1, h2⟩, h3⟩ := h
    exact ⟨v, he, ⟨_, zs, h1, h2⟩, h3⟩
   have HQT := Lib.hid hQt
   have hLX : (limbs (a % b * 2 ^ s)).length ≤ 35184372088832 := hXt.len.2.2
   generalize (limbs (a % b * 2 ^ s)).length = lx at *
   obtain ⟨lq, hlq⟩ : ∃ lq, (limbs (a / b)).length = lq := ⟨_, rfl⟩
   rw [hlq] at HTQ HQT
   clear hTQ hTX hSR hQt hXt hQ hX eX lX e1 e2 hp hlq HZ
   have HT8 : Hid (∀ (W8 : World) (g : Nat) (zs : List Nat), Row W8 g zs → Limb zs → zs.length = lx → val zs = a % b → Words W8 (.slice (some ⟨g, 0, none⟩) (limbs (a % b)).length lx) (limbs (a % b)) ∧ ∀ W9, Ext W8 W9 → Calls Tryz.prog 131 #[.slice (some ⟨g, 0, none⟩) lx lx] W9 fun e w' => e = .returned (.slice (some ⟨g, 0, none⟩) (limbs (a % b)).length lx) ∧ W9 = w') := by
    intro W8 g zs r8 L8 n8 v8
    have h8 := r8.words L8 (c := lx) (by omega) (by omega)
    rw [n8] at h8
    have t8 := h8.trim
    have c8 := fun W9 (hx : Ext W8 W9) => int_trim (h8.ext hx)
    rw [trimL_eq_limbs L8, v8] at t8
    simp only [trimL_eq_limbs L8, v8] at c8
    exact ⟨t8, c8⟩
   go_wp2_with fail
   go_region_with (first
    | (go_at_call_of 131 (Value.slice (some ⟨g3, 0, none⟩) l l); refine (HTQ.out _ (by repeat first|exact xA _|assumption|refine xB ?_ _|refine xC ?_|refine xD ?_ _|refine xE ?_ (by simp <;> omega) _|refine xF ?_ (by assumption))).mono ?_; rintro e w7 ⟨rfl, rfl⟩)
    | (go_at_call_of 131 (Value.slice (some ⟨g8, 0, none⟩) lx lx); refine (H8.out.2 _ (by repeat first|exact xA _|assumption|refine xB ?_ _|refine xC ?_|refine xD ?_ _|refine xE ?_ (by simp <;> omega) _|refine xF ?_ (by assumption))).mono ?_; rintro e w9 ⟨rfl, rfl⟩)
    | (go_at_call 160; refine (HSR.out _ (by repeat first|exact xA _|assumption|refine xB ?_ _|refine xC ?_|refine xD ?_ _|refine xE ?_ (by simp <;> omega) _|refine xF ?_ (by assumption))).mono ?_; rintro e w8 ⟨v8, rfl, ⟨g8, zs8, rfl, hr8, hL8, hn8, hv8⟩, hx8⟩; have H8 := Lib.hid (HT8.out _ _ _ hr8 hL8 hn8 hv8); clear hr8 hL8 hn8 hv8)
    | (go_at_call 131; refine (HTX.out _ (by repeat first|exact xA _|assumption|refine xB ?_ _|refine xC ?_|refine xD ?_ _|refine xE ?_ (by simp <;> omega) _|refine xF ?_ (by assumption))).mono ?_; rintro e w7 ⟨rfl, rfl⟩))
   all_goals
    go_wp2_with fail
    go_ret2
    exact ⟨_, rfl, ⟨_, _, rfl, HQT.out.ext (by repeat first|exact xA _|assumption|refine xB ?_ _|refine xC ?_|refine xD ?_ _|refine xE ?_ (by simp <;> omega) _|refine xF ?_ (by assumption)), H8.out.1⟩, (by repeat first|exact xA _|assumption|refine xB ?_ _|refine xC ?_|refine xD ?_ _|refine xE ?_ (by simp <;> omega) _|refine xF ?_ (by assumption))⟩
/-- The program's division: for all numbers. -/
theorem int_divide (hLZ : LZ32) {A A' : Option Addr} {n m c c' a b : Nat} {w : World} (h : Words w (.slice A n c) (limbs a)) (h' : Words w (.slice A' m c') (limbs b)) (hb : 0 < b) (hn2 : n < 35184372088832) :
  Calls Tryz.prog 132 #[.slice A n c, .slice A' m c'] w (Ret w (DivRes a b)) := by
 rcases Nat.lt_or_ge a b with hab | hab
 ·exact int_divide_less h h' hab
 ·rcases Nat.lt_or_ge 2 n with hn | hn
  ·have hm : m ≠ 0 := by
    intro e
    have h1 := h'.len.1
    rw [e] at h1
    have h2 := limbs_eq_nil.1 (List.eq_nil_of_length_eq_zero h1.symm)
    omega
   rcases Nat.lt_or_ge 1 m with hm1 | hm1
   ·obtain ⟨k, rfl⟩ : ∃ k, m = k + 2 := ⟨m - 2, by omega⟩
    exact int_divide_long hLZ h h' hab hn hn2
   ·obtain rfl : m = 1 := by omega
    exact int_divide_word h h' hn
  ·exact int_divide_small h h' hab hb hn
end Go.Proofs.YtonleohlplkglaaGreatDoor
namespace Go.Proofs
open Go.Shelf
def Tryz.lays133_ren : Go.Shelf.Ren := ⟨fun | 133 => 156 | 128 => 179 | n => n, fun | 51 => 142 | 3 => 3 | 4 => 4 | 46 => 167 | 5 => 5 | 9 => 9 | n => n, fun | n => n⟩
theorem Tryz.lays133 : Go.Proofs.Lays.n133 Tryz.prog Tryz.lays133_ren := {
 mixed := by kernel_rfl
 f128 := Tryz.func179.trans (congrArg some (by kernel_rfl))
 f133 := Tryz.func156.trans (congrArg some (by kernel_rfl))
 t3 := Tryz.underlying3
 a3 := Tryz.isAgg3
 z3 := Tryz.sizeOf3
 v3 := Tryz.zeroValue3
 t4 := Tryz.underlying4
 a4 := Tryz.isAgg4
 z4 := Tryz.sizeOf4
 v4 := Tryz.zeroValue4
 t5 := Tryz.underlying5
 a5 := Tryz.isAgg5
 z5 := Tryz.sizeOf5
 v5 := Tryz.zeroValue5
 t9 := Tryz.underlying9
 a9 := Tryz.isAgg9
 z9 := Tryz.sizeOf9
 v9 := Tryz.zeroValue9
 t46 := Tryz.underlying167
 a46 := Tryz.isAgg167
 z46 := Tryz.sizeOf167
 v46 := Tryz.zeroValue167
 t51 := Tryz.underlying142
 a51 := Tryz.isAgg142
 z51 := Tryz.sizeOf142
 v51 := Tryz.zeroValue142 }
def Tryz.lays283_ren : Go.Shelf.Ren := ⟨fun | 283 => 226 | n => n, fun | 3 => 3 | 9 => 9 | 4 => 4 | n => n, fun | n => n⟩
theorem Tryz.lays283 : Go.Proofs.Lays.n283 Tryz.prog Tryz.lays283_ren := {
 mixed := by kernel_rfl
 f283 := Tryz.func226.trans (congrArg some (by kernel_rfl))
 t3 := Tryz.underlying3
 a3 := Tryz.isAgg3
 z3 := Tryz.sizeOf3
 v3 := Tryz.zeroValue3
 t4 := Tryz.underlying4
 a4 := Tryz.isAgg4
 z4 := Tryz.sizeOf4
 v4 := Tryz.zeroValue4
 t9 := Tryz.underlying9
 a9 := Tryz.isAgg9
 z9 := Tryz.sizeOf9
 v9 := Tryz.zeroValue9 }
def Tryz.laysM284_ren : Go.Shelf.Ren := ⟨fun | 284 => 227 | 129 => 235 | 317 => 234 | 318 => 236 | n => n, fun | 53 => 147 | 3 => 3 | 212 => 231 | 0 => 0 | 4 => 4 | 46 => 167 | 5 => 5 | 9 => 9 | n => n, fun | 17 => 2 | n => n⟩
theorem Tryz.laysM284 : Go.Proofs.LaysM.n284 Tryz.prog Tryz.laysM284_ren := {
 mixed := by kernel_rfl
 f129 := Tryz.func235.trans (congrArg some (by kernel_rfl))
 f284 := Tryz.func227.trans (congrArg some (by kernel_rfl))
 f317 := Tryz.func234.trans (congrArg some (by kernel_rfl))
 f318 := Tryz.func236.trans (congrArg some (by kernel_rfl))
 t0 := Tryz.underlying0
 a0 := Tryz.isAgg0
 z0 := Tryz.sizeOf0
 v0 := Tryz.zeroValue0
 t3 := Tryz.underlying3
 a3 := Tryz.isAgg3
 z3 := Tryz.sizeOf3
 v3 := Tryz.zeroValue3
 t4 := Tryz.underlying4
 a4 := Tryz.isAgg4
 z4 := Tryz.sizeOf4
 v4 := Tryz.zeroValue4
 t5 := Tryz.underlying5
 a5 := Tryz.isAgg5
 z5 := Tryz.sizeOf5
 v5 := Tryz.zeroValue5
 t9 := Tryz.underlying9
 a9 := Tryz.isAgg9
 z9 := Tryz.sizeOf9
 v9 := Tryz.zeroValue9
 t46 := Tryz.underlying167
 a46 := Tryz.isAgg167
 z46 := Tryz.sizeOf167
 v46 := Tryz.zeroValue167
 t53 := Tryz.underlying147
 a53 := Tryz.isAgg147
 z53 := Tryz.sizeOf147
 v53 := Tryz.zeroValue147
 t212 := Tryz.underlying231
 a212 := Tryz.isAgg231
 z212 := Tryz.sizeOf231
 v212 := Tryz.zeroValue231
 g17 := by kernel_rfl
 i0 := by kernel_rfl
 i3 := by kernel_rfl
 i4 := by kernel_rfl
 i5 := by kernel_rfl
 i9 := by kernel_rfl
 i46 := by kernel_rfl
 i53 := by kernel_rfl
 i212 := by kernel_rfl
 m17 := by kernel_rfl }
def Tryz.lays285_ren : Go.Shelf.Ren := ⟨fun | 285 => 228 | n => n, fun | 37 => 197 | 53 => 147 | 3 => 3 | 4 => 4 | 51 => 142 | 9 => 9 | 5 => 5 | 0 => 0 | n => n, fun | n => n⟩
theorem Tryz.lays285 : Go.Proofs.Lays.n285 Tryz.prog Tryz.lays285_ren := {
 mixed := by kernel_rfl
 f285 := Tryz.func228.trans (congrArg some (by kernel_rfl))
 t0 := Tryz.underlying0
 a0 := Tryz.isAgg0
 z0 := Tryz.sizeOf0
 v0 := Tryz.zeroValue0
 t3 := Tryz.underlying3
 a3 := Tryz.isAgg3
 z3 := Tryz.sizeOf3
 v3 := Tryz.zeroValue3
 t4 := Tryz.underlying4
 a4 := Tryz.isAgg4
 z4 := Tryz.sizeOf4
 v4 := Tryz.zeroValue4
 t5 := Tryz.underlying5
 a5 := Tryz.isAgg5
 z5 := Tryz.sizeOf5
 v5 := Tryz.zeroValue5
 t9 := Tryz.underlying9
 a9 := Tryz.isAgg9
 z9 := Tryz.sizeOf9
 v9 := Tryz.zeroValue9
 t37 := Tryz.underlying197
 a37 := Tryz.isAgg197
 z37 := Tryz.sizeOf197
 v37 := Tryz.zeroValue197
 t51 := Tryz.underlying142
 a51 := Tryz.isAgg142
 z51 := Tryz.sizeOf142
 v51 := Tryz.zeroValue142
 t53 := Tryz.underlying147
 a53 := Tryz.isAgg147
 z53 := Tryz.sizeOf147
 v53 := Tryz.zeroValue147 }
def Tryz.lays105_ren : Go.Shelf.Ren := ⟨fun | 105 => 186 | 212 => 202 | 99 => 203 | 165 => 204 | 166 => 200 | 170 => 205 | 169 => 201 | 263 => 216 | 264 => 217 | 206 => 218 | 240 => 214 | 241 => 219 | 276 => 225 | 277 => 230 | n => n, fun | 9 => 9 | 3 => 3 | 4 => 4 | 20 => 20 | 0 => 0 | 46 => 167 | 109 => 207 | 5 => 5 | 72 => 199 | 76 => 204 | 51 => 142 | 146 => 214 | 53 => 147 | 148 => 216 | 70 => 196 | 37 => 197 | 75 => 201 | 127 => 213 | 164 => 220 | 80 => 206 | n => n, fun | n => n⟩
theorem Tryz.lays105 : Go.Proofs.Lays.n105 Tryz.prog Tryz.lays105_ren := {
 mixed := by kernel_rfl
 f99 := Tryz.func203.trans (congrArg some (by kernel_rfl))
 f105 := Tryz.func186.trans (congrArg some (by kernel_rfl))
 f165 := Tryz.func204.trans (congrArg some (by kernel_rfl))
 f166 := Tryz.func200.trans (congrArg some (by kernel_rfl))
 f169 := Tryz.func201.trans (congrArg some (by kernel_rfl))
 f170 := Tryz.func205.trans (congrArg some (by kernel_rfl))
 f206 := Tryz.func218.trans (congrArg some (by kernel_rfl))
 f212 := Tryz.func202.trans (congrArg some (by kernel_rfl))
 f240 := Tryz.func214.trans (congrArg some (by kernel_rfl))
 f241 := Tryz.func219.trans (congrArg some (by kernel_rfl))
 f263 := Tryz.func216.trans (congrArg some (by kernel_rfl))
 f264 := Tryz.func217.trans (congrArg some (by kernel_rfl))
 f276 := Tryz.func225.trans (congrArg some (by kernel_rfl))
 f277 := Tryz.func230.trans (congrArg some (by kernel_rfl))
 t0 := Tryz.underlying0
 a0 := Tryz.isAgg0
 z0 := Tryz.sizeOf0
 v0 := Tryz.zeroValue0
 t3 := Tryz.underlying3
 a3 := Tryz.isAgg3
 z3 := Tryz.sizeOf3
 v3 := Tryz.zeroValue3
 t4 := Tryz.underlying4
 a4 := Tryz.isAgg4
 z4 := Tryz.sizeOf4
 v4 := Tryz.zeroValue4
 t5 := Tryz.underlying5
 a5 := Tryz.isAgg5
 z5 := Tryz.sizeOf5
 v5 := Tryz.zeroValue5
 t9 := Tryz.underlying9
 a9 := Tryz.isAgg9
 z9 := Tryz.sizeOf9
 v9 := Tryz.zeroValue9
 t20 := Tryz.underlying20
 a20 := Tryz.isAgg20
 z20 := Tryz.sizeOf20
 v20 := Tryz.zeroValue20
 t37 := Tryz.underlying197
 a37 := Tryz.isAgg197
 z37 := Tryz.sizeOf197
 v37 := Tryz.zeroValue197
 t46 := Tryz.underlying167
 a46 := Tryz.isAgg167
 z46 := Tryz.sizeOf167
 v46 := Tryz.zeroValue167
 t51 := Tryz.underlying142
 a51 := Tryz.isAgg142
 z51 := Tryz.sizeOf142
 v51 := Tryz.zeroValue142
 t53 := Tryz.underlying147
 a53 := Tryz.isAgg147
 z53 := Tryz.sizeOf147
 v53 := Tryz.zeroValue147
 t70 := Tryz.underlying196
 a70 := Tryz.isAgg196
 z70 := Tryz.sizeOf196
 v70 := Tryz.zeroValue196
 t72 := Tryz.underlying199
 a72 := Tryz.isAgg199
 z72 := Tryz.sizeOf199
 v72 := Tryz.zeroValue199
 t75 := Tryz.underlying201
 a75 := Tryz.isAgg201
 z75 := Tryz.sizeOf201
 v75 := Tryz.zeroValue201
 t76 := Tryz.underlying204
 a76 := Tryz.isAgg204
 z76 := Tryz.sizeOf204
 v76 := Tryz.zeroValue204
 t109 := Tryz.underlying207
 a109 := Tryz.isAgg207
 z109 := Tryz.sizeOf207
 v109 := Tryz.zeroValue207
 t127 := Tryz.underlying213
 a127 := Tryz.isAgg213
 z127 := Tryz.sizeOf213
 v127 := Tryz.zeroValue213
 t146 := Tryz.underlying214
 a146 := Tryz.isAgg214
 z146 := Tryz.sizeOf214
 v146 := Tryz.zeroValue214
 t148 := Tryz.underlying216
 a148 := Tryz.isAgg216
 z148 := Tryz.sizeOf216
 v148 := Tryz.zeroValue216
 t164 := Tryz.underlying220
 a164 := Tryz.isAgg220
 z164 := Tryz.sizeOf220
 v164 := Tryz.zeroValue220 }
theorem Tryz.Builder_Extra_105 : Builder.Extra Tryz.prog Tryz.lays105_ren := {
 sizeBuilder := by kernel_rfl
 liesBuilder := by kernel_rfl
 t5 := Tryz.underlying5
 a5 := Tryz.isAgg5
 z5 := Tryz.sizeOf5
 v5 := Tryz.zeroValue5
 infoByte := by kernel_rfl
 cellsByte := by kernel_rfl
 sizeByte := by kernel_rfl
 neB5 := by decide }
end Go.Proofs
namespace Go.Proofs.YtonleohlplkglaaGreatDoor
open Go Go.RowKit Go.Shelf
theorem bitLen_blen (x : Nat) (hx : x < 2 ^ 64) : Lib.bitLen x = blen x := by
 induction x using Nat.strongRecOn with
 | _ x ih =>
  by_cases h : x = 0
  ·subst h; rw [blen_zero]; rfl
  ·rw [blen_pos h, ← ih (x / 2) (by omega) (by omega), Lib.bitLen_half x h hx]
   omega
theorem lz32 : LZ32 := fun x w h0 h1 => by
 have h := Any.bits_LeadingZeros32 Tryz.lays133 (x : Int) w (by omega) (by omega)
 refine h.mono fun e w' hh => ⟨?_, hh.2.symm⟩
 rw [hh.1, Int.toNat_natCast, bitLen_blen _ (by omega)]
 have := blen_le (k := 32) (x := x) (by omega)
 congr 2
 omega
end Go.Proofs.YtonleohlplkglaaGreatDoor
namespace Go.Proofs.YtonleohlplkglaaGreatDoor
open Go Go.RowKit Go.Shelf Go.Sort
/-- The table of the powers of ten, as the library's digits read it. -/
def GLp (w : World) : Prop := Lib.TabIs Tryz.prog w "internal/strconv.uint64pow10" .u64 Lib.pow10Tab
theorem GLp.ext {w w' : World} (h : GLp w) (hx : Ext w w') : GLp w' := Lib.tabBelow_of_tabIs h w' hx
set_option maxHeartbeats 6400000 in
set_option maxRecDepth 100000 in
theorem istr_FormatUint (u : Nat) (hu : u < 4294967296) (w : World) (hg : GLp w) :
  Calls Tryz.prog 215 #[.int .u64 (u : Int), .int .i64 10] w fun e w' => (∃ s, e = .returned (.string s) ∧ s.size = Lib.nDigits u) ∧ Ext w w' := by
 by_cases hs : u < 100
 ·have HSM := Lib.hid (fun w1 => Any.internal_strconv_small Tryz.lays283 u hs w1)
  go_enter Tryz.func215, Tryz.ntmps215
  go_wp2_with fail
  refine (HSM.out _).mono ?_
  rintro e w1 ⟨rfl, rfl⟩
  go_wp2_with fail
  go_ret
  refine ⟨⟨_, rfl, ?_⟩, Ext.refl _⟩
  show (Lib.decDigits u).toArray.size = _
  rw [List.size_toArray, Lib.decDigits_length]
 ·have hu1 : 1 ≤ u := by omega
  have hu64 : u < 18446744073709551616 := by omega
  have hnd20 : Lib.nDigits u ≤ 20 := by have := Lib.numDigits_eq u hu1 hu64; split at this <;> omega
  have hal : (Tryz.prog).arrayLen 223 = 24 := by kernel_rfl
  have hel : (Tryz.prog).elem 223 = 5 := by kernel_rfl
  have hsl1 : ∀ W, (Instr.sliceAt 223 (.pointer (some ⟨w.heap.size, 0, none⟩)) none (some (.int .i64 (Lib.nDigits u : Int))) none).run Tryz.prog W = .ok (.slice (some ⟨w.heap.size, 0, none⟩) (Lib.nDigits u) 24) W := fun W => by
   rw [run_sliceAt_array_h W 223 ⟨w.heap.size, 0, none⟩ (by rw [hal, hel]; exact Tryz.underlying223) .i64 (Lib.nDigits u : Int) (by omega) (by rw [hal]; omega), hel, hal]
   go_simp
  have hH0 := Lib.holds_zero0 w 223 (Lib.nDigits u) (by omega)
  have hfmt := Any.internal_strconv_formatBase10 Tryz.lays285 w.heap.size 0 24 u (Array.replicate (Lib.nDigits u) 0) (w.alloc (.cells Lib.zeros24 223)) hH0 (by rw [Array.size_replicate]; exact Lib.lt_pow_nDigits u) hu64 (by rw [Array.size_replicate]; omega)
  rw [Array.size_replicate] at hfmt
  have hnum := fun w1 (hx : Ext w w1) => Any.internal_strconv_numDigits Tryz.laysM284 u hu1 hu64 w1 (hg.ext hx)
  have HNUM := Lib.hid hnum
  have HFMT := Lib.hid hfmt
  have HH0 := Lib.hid hH0
  have HND := Lib.hid (Lib.decDigits_length u)
  clear hH0 hal hel hfmt hnum
  go_enter Tryz.func215, Tryz.ntmps215
  go_wp2_with fail
  refine (HNUM.out _ (Ext.alloc _ _)).mono ?_
  rintro e w1 ⟨rfl, rfl⟩
  go_wp2_with fail
  refine HFMT.out.mono ?_
  rintro e w1 ⟨rfl, k, v', dk, rfl, hF⟩
  have hcv : (convert 197 9 (.slice (some ⟨w.heap.size, 0, none⟩) (Lib.nDigits u) 24)).run Tryz.prog ((putRow (fun (b : UInt8) => Value.int .u8 (b.toNat : Int)) (w.alloc (.cells Lib.zeros24 223)) w.heap.size 0 dk).drewN k) = .ok (.string ⟨(Lib.decDigits u).toArray⟩) ((putRow (fun (b : UInt8) => Value.int .u8 (b.toNat : Int)) (w.alloc (.cells Lib.zeros24 223)) w.heap.size 0 dk).drewN k) := by
   have h := run_convert_bytes_back (P := Tryz.prog) ((putRow (fun (b : UInt8) => Value.int .u8 (b.toNat : Int)) (w.alloc (.cells Lib.zeros24 223)) w.heap.size 0 dk).drewN k) 197 9 5 ⟨w.heap.size, 0, none⟩ 24 (Lib.decDigits u) Tryz.underlying197 Tryz.underlying5 Tryz.underlying9 (fun j hj => by
    rw [Lib.row_is_numeral hF j hj, Lib.add_plain, World.cell?_drewN]
    exact cell?_putRow (fun (b : UInt8) => Value.int .u8 (b.toNat : Int)) _ w.heap.size 0 _ dk HH0.out (by rw [hF.size, Array.size_replicate]) j (by rw [hF.size]; rw [Lib.decDigits_length] at hj; exact hj))
   rw [Lib.decDigits_length] at h
   exact h
  have HFIN : Hid (Ext w ((putRow (fun (b : UInt8) => Value.int .u8 (b.toNat : Int)) (w.alloc (.cells Lib.zeros24 223)) w.heap.size 0 dk).drewN k)) := by
   obtain ⟨os, eo⟩ := Lib.fin_at w (.cells Lib.zeros24 223) dk k 0
   rw [eo]
   exact Lib.below_grow _ _ (Nat.le_refl _) _ _
  generalize (putRow (fun (b : UInt8) => Value.int .u8 (b.toNat : Int)) (w.alloc (.cells Lib.zeros24 223)) w.heap.size 0 dk).drewN k = W1 at *
  go_wp2_with fail
  go_ret
  exact ⟨⟨_, rfl, HND.out⟩, HFIN.out⟩
set_option maxRecDepth 100000 in
theorem str_FormatUint (u : Nat) (hu : u < 4294967296) (w : World) (hg : GLp w) :
  Calls Tryz.prog 199 #[.int .u64 (u : Int), .int .i64 10] w fun e w' => (∃ s, e = .returned (.string s) ∧ s.size = Lib.nDigits u) ∧ Ext w w' := by
 have H := Lib.hid (istr_FormatUint u hu w hg)
 go_enter Tryz.func199, Tryz.ntmps199
 go_wp2_with fail
 refine H.out.mono ?_
 rintro e w1 ⟨⟨s, rfl, hs⟩, hx⟩
 go_wp2_with fail
 go_ret
 exact ⟨⟨s, rfl, hs⟩, hx⟩
theorem zeros_Repeat (k : Nat) (hk : k ≤ 1000) (w : World) :
  Calls Tryz.prog 186 #[.string ⟨#[48]⟩, .int .i64 (k : Int)] w fun e w' => (∃ s, e = .returned (.string s) ∧ s.size = k) ∧ Ext w w' := by
 match k, hk with
 | 0, _ =>
  refine (Any.strings_Repeat_zero Tryz.lays105 _ w).mono ?_
  rintro e w1 ⟨rfl, rfl⟩
  exact ⟨⟨_, rfl, rfl⟩, Ext.refl _⟩
 | 1, _ =>
  refine (Any.strings_Repeat_one Tryz.lays105 _ w).mono ?_
  rintro e w1 ⟨rfl, rfl⟩
  exact ⟨⟨_, rfl, rfl⟩, Ext.refl _⟩
 | k + 2, hk =>
  refine (Any.strings_Repeat_main Tryz.lays105 Tryz.Builder_Extra_105 ⟨#[48]⟩ (k + 2) w (by omega) (by omega) (by show 1 * (k + 2) ≤ _; omega) (by decide)).mono ?_
  rintro e w1 ⟨rfl, hx⟩
  refine ⟨⟨_, rfl, ?_⟩, hx⟩
  show (Lib.repeatL [48] (k + 2)).toArray.size = _
  rw [List.size_toArray, Lib.repeatL_length]
  simp
end Go.Proofs.YtonleohlplkglaaGreatDoor
