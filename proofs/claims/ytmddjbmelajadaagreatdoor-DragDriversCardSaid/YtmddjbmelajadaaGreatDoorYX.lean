/- Contracts of the program's layer 1: times, Mul. -/
import Derived.Test.YtmddjbmelajadaaGreatDoorYR
import Derived.Test.YtmddjbmelajadaaGreatDoorYE
namespace Go.Proofs.YtmddjbmelajadaaGreatDoor
open Go Go.RowKit
set_option maxRecDepth 100000 in
set_option maxHeartbeats 1600000 in
theorem int_times {A A' : Option Addr} {n m c c' : Nat} {xs ys : List Nat} {w : World} (h : Words w (.slice A n c) xs) (h' : Words w (.slice A' m c') ys) (hsz : n + m ≤ 35184372088832) :
  Calls Tryz.prog 303 #[.slice A n c, .slice A' m c'] w (Ret w fun v w' => Words w' v (limbs (val xs * val ys))) := by
 obtain ⟨rfl, hl, hm⟩ := h.len
 obtain ⟨rfl, hl', hm'⟩ := h'.len
 have hL := h.limb
 have hL' := h'.limb
 have H := Lib.hid h
 have H' := Lib.hid h'
 clear h h'
 by_cases h0 : xs.length = 0
 ·have HZ : Hid (limbs (val xs * val ys) = []) := by
   show _ = _
   rw [List.eq_nil_of_length_eq_zero h0]; simp [val, limbs_zero]
  have e0 : ((xs.length : Int) == 0) = true := by simp [h0]
  clear h0
  generalize xs.length = n at *
  generalize ys.length = m at *
  go_enter Tryz.func303, Tryz.ntmps303
  go_wp2_with fail
  go_ret
  exact ⟨_, rfl, by rw [HZ.out]; exact Words.nil _, (by repeat first|exact xA _|assumption|refine xB ?_ _|refine xC ?_|refine xD ?_ _|refine xE ?_ (by simp <;> omega) _|refine xF ?_ (by assumption))⟩
 by_cases h1 : ys.length = 0
 ·have HZ : Hid (limbs (val xs * val ys) = []) := by
   show _ = _
   rw [List.eq_nil_of_length_eq_zero h1]; simp [val, limbs_zero]
  have e0 : ((xs.length : Int) == 0) = false := by rw [beq_eq_false_iff_ne]; omega
  have e1 : ((ys.length : Int) == 0) = true := by simp [h1]
  clear h0 h1
  generalize xs.length = n at *
  generalize ys.length = m at *
  go_enter Tryz.func303, Tryz.ntmps303
  go_wp2_with fail
  go_ret
  exact ⟨_, rfl, by rw [HZ.out]; exact Words.nil _, (by repeat first|exact xA _|assumption|refine xB ?_ _|refine xC ?_|refine xD ?_ _|refine xE ?_ (by simp <;> omega) _|refine xF ?_ (by assumption))⟩
 have e0 : ((xs.length : Int) == 0) = false := by rw [beq_eq_false_iff_ne]; omega
 have e1 : ((ys.length : Int) == 0) = false := by rw [beq_eq_false_iff_ne]; omega
 have hmk := mk_words (xs.length + ys.length) (by omega)
 simp only [Int.natCast_add] at hmk
 go_enter Tryz.func303, Tryz.ntmps303
 go_wp2_with fail
 go_loopw [27] (fun i wr => ∃ (k : Nat) (zs : List Nat), k ≤ xs.length ∧ i = .int .i64 (k : Int) ∧ Hid (zs.length = xs.length + ys.length ∧ Limb zs ∧ Row wr w.heap.size zs ∧ (∀ j, k + ys.length ≤ j → zs.getD j 0 = 0) ∧ val zs = val (xs.take k) * val ys) ∧ Ext w wr) (fun i _ => xs.length - (intOf i).toNat)
 case atStart =>
  exact ⟨0, List.replicate (xs.length + ys.length) 0, by omega, rfl, ⟨by simp, limb_replicate _, Row.made _ _, fun j _ => getD_replicate _ _, by rw [val_replicate]; simp [val]⟩, (by repeat first|exact xA _|assumption|refine xB ?_ _|refine xC ?_|refine xD ?_ _|refine xE ?_ (by simp <;> omega) _|refine xF ?_ (by assumption))⟩
 case round =>
  obtain ⟨i, zs, hi, rfl, HZ, hE⟩ := hrel
  obtain ⟨wo, rfl⟩ : ∃ wo : World, wo = wr := ⟨_, rfl⟩
  by_cases hi0 : i < xs.length
  ·obtain ⟨b, off, rfl, hb, -, hcell⟩ := (H.out.ext hE).at_ (k := i) (by omega)
   have hx := hL.getD i
   have g1 := hcell i (by omega)
   have i1 : (i : Int) < (xs.length : Int) := by omega
   have i0 : (0 : Int) ≤ (i : Int) := by omega
   clear hcell
   obtain ⟨x, hxe⟩ : ∃ x, xs.getD i 0 = x := ⟨_, rfl⟩
   rw [hxe] at g1 hx
   have HXE := Lib.hid hxe
   clear hxe
   go_wp2_with fail
   go_loopw [8, 34] (fun r i' wr => ∃ (k cc : Nat) (zs : List Nat), k ≤ ys.length ∧ i' = .int .i64 (k : Int) ∧ r = .int .u64 (cc : Int) ∧ cc < 4294967296 ∧ Hid (zs.length = xs.length + ys.length ∧ Limb zs ∧ Row wr w.heap.size zs ∧ (∀ j, i + ys.length ≤ j → zs.getD j 0 = 0) ∧ val zs + 4294967296 ^ (i + k) * cc = val (xs.take i) * val ys + 4294967296 ^ i * xs.getD i 0 * val (ys.take k)) ∧ Ext w wr) (fun _ i' _ => ys.length - (intOf i').toNat)
   case atStart =>
    obtain ⟨z1, z2, z3, z4, z5⟩ := HZ.out
    exact ⟨0, 0, zs, by omega, rfl, rfl, by omega, ⟨z1, z2, z3, z4, by rw [z5]; simp [val]⟩, hE⟩
   case round =>
    obtain ⟨k, cc, zs', hk, rfl, rfl, hcc, HZ', hE'⟩ := hrel
    by_cases hk0 : k < ys.length
    ·obtain ⟨b', off', rfl, hb', -, hcell'⟩ := (H'.out.ext hE').at_ (k := k) (by omega)
     have g2 := hcell' k (by omega)
     have g3 := HZ'.out.2.2.1.cell (k := i + k) (by have := HZ'.out.1; omega)
     have g4 := HZ'.out.2.2.1.frozen (i + k)
     have hy := hL'.getD k
     have hz := HZ'.out.2.1.getD (i + k)
     clear hcell'
     obtain ⟨z1, z2, z3, z4, z5⟩ := HZ'.out
     have HR := times_inner (by omega) z5
     have HS := z3.set_ (i + k) ((cc + zs'.getD (i + k) 0 + xs.getD i 0 * ys.getD k 0) % 4294967296)
     have HQ : Limb (zs'.set (i + k) ((cc + zs'.getD (i + k) 0 + xs.getD i 0 * ys.getD k 0) % 4294967296)) := limb_set z2 (Nat.mod_lt _ (by omega))
     have HN := Lib.hid z1
     have HF : ∀ j, i + ys.length ≤ j → (zs'.set (i + k) ((cc + zs'.getD (i + k) 0 + xs.getD i 0 * ys.getD k 0) % 4294967296)).getD j 0 = 0 := fun j hj => by rw [getD_set_ne (by omega)]; exact z4 j hj
     have HALL := Lib.hid (And.intro HQ (And.intro HS (And.intro HF HR)))
     rw [HXE.out] at HALL
     obtain ⟨b1, b2⟩ := times_bound hcc hz hx hy
     have hp0 : (0 : Int) ≤ (x : Int) * (ys.getD k 0 : Int) := Int.mul_nonneg (Int.natCast_nonneg _) (Int.natCast_nonneg _)
     clear z1 z2 z3 z4 z5 HR HS HQ HF
     generalize ys.getD k 0 = y at *
     generalize zs'.getD (i + k) 0 = z at *
     go_wp2_with fail
     rw [show ((cc : Int) + ((x : Int) * y + z)) % 4294967296 = (((cc + z + x * y) % 4294967296 : Nat) : Int) by rw [Int.natCast_emod, Int.natCast_add, Int.natCast_add, Int.natCast_mul, Int.add_comm ((x : Int) * y), Int.add_assoc]; rfl,
      show ((cc : Int) + ((x : Int) * y + z)) / 4294967296 = (((cc + z + x * y) / 4294967296 : Nat) : Int) by rw [Int.natCast_ediv, Int.natCast_add, Int.natCast_add, Int.natCast_mul, Int.add_comm ((x : Int) * y), Int.add_assoc]; rfl]
     obtain ⟨a1, a2, a3, a4⟩ := HALL.out
     exact ⟨⟨k + 1, _, _, by omega, by go_num, rfl, by omega, ⟨by simp [HN.out], a1, a2, a3, by rw [HXE.out]; exact a4⟩, (by repeat first|exact xA _|assumption|refine xB ?_ _|refine xC ?_|refine xD ?_ _|refine xE ?_ (by simp <;> omega) _|refine xF ?_ (by assumption))⟩, by simp [intOf]; omega⟩
    ·obtain rfl : k = ys.length := by omega
     obtain ⟨z1, z2, z3, z4, z5⟩ := HZ'.out
     have g3 := z3.cell (k := i + ys.length) (by omega)
     have g4 := z3.frozen (i + ys.length)
     have HR := Lib.hid (times_outer hi0 z1 (z4 _ (Nat.le_refl _)) z5)
     have HS := Lib.hid (z3.set_ (i + ys.length) cc)
     have HQ : Hid (Limb (zs'.set (i + ys.length) cc)) := limb_set z2 hcc
     have HN := Lib.hid z1
     have HF : Hid (∀ j, i + 1 + ys.length ≤ j → (zs'.set (i + ys.length) cc).getD j 0 = 0) := fun j hj => by rw [getD_set_ne (by omega)]; exact z4 j (by omega)
     clear z1 z2 z3 z4 z5
     generalize zs'.getD (i + ys.length) 0 = z at *
     go_wp2_with fail
     exact ⟨⟨i + 1, _, by omega, by go_num, ⟨by simp [HN.out], HQ.out, HS.out, HF.out, HR.out⟩, (by repeat first|exact xA _|assumption|refine xB ?_ _|refine xC ?_|refine xD ?_ _|refine xE ?_ (by simp <;> omega) _|refine xF ?_ (by assumption))⟩, by simp [intOf]; omega⟩
  ·obtain rfl : i = xs.length := by omega
   obtain ⟨z1, z2, z3, z4, z5⟩ := HZ.out
   rw [List.take_length] at z5
   have hW := z3.words z2 (c := xs.length + ys.length) (by omega) (by omega)
   rw [z1] at hW
   have HT := Lib.hid (int_trim hW)
   have TW := hW.trim
   rw [trimL_eq_limbs z2, z5] at TW
   have TW' := Lib.hid TW
   rw [trimL_eq_limbs z2, z5] at HT
   clear hW z1 z2 z3 z4 z5 TW
   go_wp2_with fail
   refine HT.out.mono ?_
   rintro e w' ⟨rfl, rfl⟩
   go_wp2_with fail
   go_ret
   exact ⟨_, rfl, TW'.out, (by repeat first|exact xA _|assumption|refine xB ?_ _|refine xC ?_|refine xD ?_ _|refine xE ?_ (by simp <;> omega) _|refine xF ?_ (by assumption))⟩
end Go.Proofs.YtmddjbmelajadaaGreatDoor
namespace Go.Proofs.YtmddjbmelajadaaGreatDoor
open Go Go.RowKit
set_option maxRecDepth 100000 in
set_option maxHeartbeats 3200000 in
theorem int_Mul {A A' : Option Addr} {n m c c' a b : Nat} {w : World} (h : Words w (.slice A n c) (limbs a)) (h' : Words w (.slice A' m c') (limbs b)) (hsz : n + m ≤ 35184372088832) :
  Calls Tryz.prog 254 #[.agg #[.bool false, .slice A n c], .agg #[.bool false, .slice A' m c']] w (Ret w fun r w' => ∃ u, r = .agg #[.bool false, u] ∧ Words w' u (limbs (a * b))) := by
 have hn := h.len
 have hm := h'.len
 have hT1 := fun w1 (hx : Ext w w1) => int_trim (h.ext hx)
 have hT2 := fun w1 (hx : Ext w w1) => int_trim (h'.ext hx)
 rw [trimL_limbs, ← hn.1] at hT1
 rw [trimL_limbs, ← hm.1] at hT2
 have hT := fun w1 (hx : Ext w w1) => int_times (h.ext hx) (h'.ext hx) hsz
 rw [val_limbs, val_limbs] at hT
 have HT1 := Lib.hid hT1
 have HT2 := Lib.hid hT2
 have HT := Lib.hid hT
 have HTL : Hid (trimL (limbs (a * b)) = limbs (a * b)) := trimL_limbs _
 have hn2 : n ≤ c := hn.2.1
 have hm2 : m ≤ c' := hm.2.1
 have hc2 : n ≤ 35184372088832 := hn.2.2
 have hc2' : m ≤ 35184372088832 := hm.2.2
 clear hT1 hT2 hT h h' hn hm
 obtain ⟨W3, hW3⟩ : ∃ W3, (((w.alloc (.cells #[.bool false, .slice A n c] 62)).alloc (.cells #[.bool false, .slice A' m c'] 62)).alloc (.cells #[.bool false, .slice none 0 0] 62)) = W3 := ⟨_, rfl⟩
 have HB0 : Hid (Boxes3 W3 w.heap.size false false (.slice A n c) (.slice A' m c')) := by rw [← hW3]; exact boxes3 w false false A A' n m c c'
 have hE3 : Ext w W3 := by rw [← hW3]; exact (by repeat first|exact xA _|assumption|refine xB ?_ _|refine xC ?_|refine xD ?_ _|refine xE ?_ (by simp <;> omega) _|refine xF ?_ (by assumption))
 have HW3 := Lib.hid hW3
 clear hW3
 go_enter Tryz.func254, Tryz.ntmps254
 go_upto_region 1 with fail
 rw [HW3.out]
 obtain ⟨⟨p0, p1, -, -, -, -⟩, ⟨q0, q1, -, -, -, -⟩, -⟩ := HB0.out
 go_region_held3 (fun w' => w'.cell? ⟨w.heap.size, 0, none⟩ = some (.bool false) ∧ w'.cell? ⟨w.heap.size, 1, none⟩ = some (.slice A n c) ∧ w'.cell? ⟨w.heap.size + 1, 0, none⟩ = some (.bool false) ∧ w'.cell? ⟨w.heap.size + 1, 1, none⟩ = some (.slice A' m c')) (first | (exact ⟨cell_far (cell_far y0 (by dsimp only; omega)) (by dsimp only; omega), cell_far (cell_far y1 (by dsimp only; omega)) (by dsimp only; omega), cell_far (cell_far y2 (by dsimp only; omega)) (by dsimp only; omega), cell_far (cell_far y3 (by dsimp only; omega)) (by dsimp only; omega)⟩) | (go_keep))
  (first
   | (go_at_call_of 178 (Value.slice A n c); refine (HT1.out _ (by repeat first|exact xA _|assumption|refine xB ?_ _|refine xC ?_|refine xD ?_ _|refine xE ?_ (by simp <;> omega) _|refine xF ?_ (by assumption))).mono ?_; rintro e w1 ⟨rfl, rfl⟩)
   | (go_at_call_of 178 (Value.slice A' m c'); refine (HT2.out _ (by repeat first|exact xA _|assumption|refine xB ?_ _|refine xC ?_|refine xD ?_ _|refine xE ?_ (by simp <;> omega) _|refine xF ?_ (by assumption))).mono ?_; rintro e w1 ⟨rfl, rfl⟩)
   | (go_at_call 303; refine (HT.out _ (by repeat first|exact xA _|assumption|refine xB ?_ _|refine xC ?_|refine xD ?_ _|refine xE ?_ (by simp <;> omega) _|refine xF ?_ (by assumption))).mono ?_; rintro e w1 ⟨v1, rfl, hv1, hx1⟩; obtain ⟨A1, c1, rfl, hl1, hm1⟩ := hv1.form; have HV1 := Lib.hid hv1; clear hv1; have hB1 := HB0.out.drew.ext hx1; have HB1 := Lib.hid hB1; obtain ⟨⟨r0, r1, -, -, -, -⟩, ⟨r2, r3, -, -, -, -⟩, -⟩ := hB1)
   | (go_at_call 163; refine (int_signed _ HV1.out).mono ?_; rintro e w2 ⟨v2, rfl, ⟨u2, rfl, hu2⟩, hx2⟩; obtain ⟨A2, c2, rfl, hl2, hm2'⟩ := hu2.form; have HU2 := Lib.hid hu2; clear hu2; have hB2 := HB1.out.ext hx2; have HB2 := Lib.hid hB2; obtain ⟨⟨y0, y1, -, -, -, -⟩, ⟨y2, y3, -, -, -, -⟩, ⟨y4, y5, y6, y7, -, -⟩⟩ := hB2))
 all_goals
  have HX := Lib.hid (Ext.trans (Ext.trans hE3 (Ext.drew W3)) (Ext.trans hx1 hx2))
  generalize hk2 : (trimL (limbs (a * b))).length = k2 at *
  have HK2 := Lib.hid hk2
  clear hk2
  go_wp2_with fail
  refine bodyPost_ret (v := .agg #[.bool false, .slice A2 k2 c2]) ?_ rfl ⟨_, rfl, ⟨_, rfl, ?_⟩, ?_⟩
  ·simp [results, Tryz.results254, go_sem, y4, y5]
  ·rw [← HTL.out]
   have hb := HB2.out.2.2.2.2.2.2.2
   exact (HU2.out.box hb _ _).box (hb.set_ _ (by simp)) _ _
  ·exact (HX.out.pset (by simp <;> omega) _).pset (by simp <;> omega) _
end Go.Proofs.YtmddjbmelajadaaGreatDoor
namespace Go.Proofs.YtmddjbmelajadaaGreatDoor
open Go Go.RowKit
set_option maxHeartbeats 800000 in
theorem int_FromInt (n : Nat) (hn : n < 1000) (w : World) :
  Calls Tryz.prog 97 #[.int .i64 (n : Int)] w (Ret w fun r w' => ∃ u, r = .agg #[.bool false, u] ∧ Words w' u (limbs n)) := by
 have HF := Lib.hid (fun w1 => int_fromUint n (by omega) w1)
 have HTL : Hid (trimL (limbs n) = limbs n) := trimL_limbs _
 go_enter Tryz.func97, Tryz.ntmps97
 go_wp2_with fail
 refine (HF.out _).mono ?_
 rintro e w1 ⟨v1, rfl, hv1, hx1⟩
 obtain ⟨A1, c1, rfl, hl1, hm1⟩ := hv1.form
 have HS := Lib.hid (int_signed false hv1)
 have HB := BoxI.new w false (.slice none 0 0) 62 (by simp)
 have HB1 := Lib.hid (HB.ext hx1)
 have hE1 : Ext w w1 := Ext.trans (Ext.alloc _ _) hx1
 clear hv1 HB hx1
 go_wp2_with fail
 refine HS.out.mono ?_
 rintro e w2 ⟨v2, rfl, ⟨u2, rfl, hu2⟩, hx2⟩
 obtain ⟨A2, c2, rfl, hl2, hm2⟩ := hu2.form
 have HU2 := Lib.hid hu2
 have HB2 := Lib.hid (HB1.out.ext hx2)
 obtain ⟨y0, y1, y2, y3, -, -⟩ := HB2.out
 have HX := Lib.hid (Ext.trans hE1 hx2)
 clear hu2 hx2 hE1 HS HB1
 generalize hk2 : (trimL (limbs n)).length = k2 at *
 have HK2 := Lib.hid hk2
 clear hk2
 go_wp2_with fail
 refine bodyPost_ret (v := .agg #[.bool false, .slice A2 k2 c2]) ?_ rfl ⟨_, rfl, ⟨_, rfl, ?_⟩, ?_⟩
 ·simp [results, Tryz.results97, go_sem, y0, y1]
 ·rw [← HTL.out]
  have hb := HB2.out.2.2.2.2.2
  exact (HU2.out.box hb _ _).box (hb.set_ _ (by simp)) _ _
 ·exact (HX.out.pset (by simp <;> omega) _).pset (by simp <;> omega) _
set_option maxHeartbeats 800000 in
theorem rat_one (w : World) :
  Calls Tryz.prog 98 #[] w (Ret w fun r w' => ∃ u, r = .agg #[.bool false, u] ∧ Words w' u (limbs 1)) := by
 have HF := Lib.hid (fun w1 => int_FromInt 1 (by omega) w1)
 go_enter Tryz.func98, Tryz.ntmps98
 go_wp2_with fail
 refine (HF.out _).mono ?_
 rintro e w1 ⟨v1, rfl, ⟨u1, rfl, hu1⟩, hx1⟩
 obtain ⟨A1, c1, rfl, hl1, hm1⟩ := hu1.form
 have HB := BoxI.new w false (.slice none 0 0) 62 (by simp)
 have HB1 := Lib.hid (HB.ext hx1)
 obtain ⟨y0, y1, y2, y3, -, -⟩ := HB1.out
 have HX := Lib.hid (Ext.trans (Ext.alloc w (.cells #[.bool false, .slice none 0 0] 62)) hx1)
 have HU := Lib.hid hu1
 clear hu1 hx1 HB
 generalize (limbs 1).length = k at *
 go_wp2_with fail
 refine bodyPost_ret (v := .agg #[.bool false, .slice A1 k c1]) ?_ rfl ⟨_, rfl, ⟨_, rfl, ?_⟩, ?_⟩
 ·simp [results, Tryz.results98, go_sem, y0, y1]
 ·have hb := HB1.out.2.2.2.2.2
  exact (HU.out.box hb _ _).box (hb.set_ _ (by simp)) _ _
 ·exact (HX.out.pset (by simp <;> omega) _).pset (by simp <;> omega) _
set_option maxHeartbeats 800000 in
theorem rat_FromInt (n : Nat) (hn : n < 1000) (w : World) :
  Calls Tryz.prog 40 #[.int .i64 (n : Int)] w (Ret w fun r w' => ∃ u v, r = .agg #[.bool false, u, .bool false, v] ∧ Words w' u (limbs n) ∧ Words w' v (limbs 1)) := by
 have HF := Lib.hid (fun w1 => int_FromInt n hn w1)
 have HO := Lib.hid (fun w1 => rat_one w1)
 go_enter Tryz.func40, Tryz.ntmps40
 go_wp2_with fail
 refine (HF.out _).mono ?_
 rintro e w1 ⟨v1, rfl, ⟨u1, rfl, hu1⟩, hx1⟩
 obtain ⟨A1, c1, rfl, hl1, hm1⟩ := hu1.form
 have HB := BoxQ.new w false false (.slice none 0 0) (.slice none 0 0) 64 (by simp) (by simp)
 have HB1 := Lib.hid (HB.ext hx1)
 have hE1 : Ext w w1 := Ext.trans (Ext.alloc _ _) hx1
 have HU1 := Lib.hid hu1
 clear hu1 hx1 HB
 go_wp2_with fail
 refine (HO.out _).mono ?_
 rintro e w2 ⟨v2, rfl, ⟨u2, rfl, hu2⟩, hx2⟩
 obtain ⟨A2, c2, rfl, hl2, hm2⟩ := hu2.form
 have HB2 := Lib.hid (HB1.out.ext hx2)
 have HU1' := Lib.hid (HU1.out.ext hx2)
 have HU2 := Lib.hid hu2
 have HX := Lib.hid (Ext.trans hE1 hx2)
 clear hu2 hx2 hE1 HB1 HU1
 generalize (limbs 1).length = k at *
 generalize (limbs n).length = k' at *
 have HFIN : Hid (Words (putQ w2 w.heap.size false (.slice A1 k' c1) false (.slice A2 k c2)) (.slice A1 k' c1) (limbs n) ∧ Words (putQ w2 w.heap.size false (.slice A1 k' c1) false (.slice A2 k c2)) (.slice A2 k c2) (limbs 1)) := ⟨HU1'.out.putQ HB2.out _ _ _ _ (by simp), HU2.out.putQ HB2.out _ _ _ _ (by simp)⟩
 have HXX : Hid (Ext w (putQ w2 w.heap.size false (.slice A1 k' c1) false (.slice A2 k c2))) := HX.out.putQ (Nat.le_refl _) _ _ _ _
 obtain ⟨y0, y1, y2, y3, y4, y5, y6, y7, -, -⟩ := HB2.out
 unfold putQ at HFIN HXX
 go_wp2_with fail
 refine bodyPost_ret (v := .agg #[.bool false, .slice A1 k' c1, .bool false, .slice A2 k c2]) ?_ rfl ⟨_, rfl, ⟨_, _, rfl, ?_, ?_⟩, ?_⟩
 ·simp [results, Tryz.results40, go_sem, y0, y1, y2, y3]
 ·exact HFIN.out.1
 ·exact HFIN.out.2
 ·exact HXX.out
end Go.Proofs.YtmddjbmelajadaaGreatDoor
namespace Go.Proofs.YtmddjbmelajadaaGreatDoor
open Go Go.RowKit
theorem signed0 {A : Option Addr} {n c a : Nat} {w : World} (h : Words w (.slice A n c) (limbs a)) :
  Calls Tryz.prog 163 #[.bool false, .slice A n c] w (Ret w fun r w' => ∃ A' c', r = .agg #[.bool false, .slice A' (limbs a).length c'] ∧ Words w' (.slice A' (limbs a).length c') (limbs a)) := by
 refine (int_signed false h).mono ?_
 rintro e w' ⟨v, rfl, ⟨u, rfl, hu⟩, hx⟩
 rw [trimL_limbs] at hu
 obtain ⟨A', c', rfl, -, -⟩ := hu.form
 exact ⟨_, rfl, ⟨A', c', rfl, hu⟩, hx⟩
set_option maxRecDepth 100000 in
set_option maxHeartbeats 3200000 in
theorem int_DivMod {A A' : Option Addr} {n m c c' a b : Nat} {w : World} (h : Words w (.slice A n c) (limbs a)) (h' : Words w (.slice A' m c') (limbs b)) (hb : 0 < b) (hn : n < 35184372088832) :
  Calls Tryz.prog 349 #[.agg #[.bool false, .slice A n c], .agg #[.bool false, .slice A' m c']] w (Ret w fun r w' => ∃ u v, r = .tuple #[.agg #[.bool false, u], .agg #[.bool false, v], .int .i64 0] ∧ Words w' u (limbs (a / b)) ∧ Words w' v (limbs (a % b))) := by
 have hln := h.len
 have hlm := h'.len
 have hT1 := fun w1 (hx : Ext w w1) => int_trim (h.ext hx)
 have hT2 := fun w1 (hx : Ext w w1) => int_trim (h'.ext hx)
 rw [trimL_limbs, ← hln.1] at hT1
 rw [trimL_limbs, ← hlm.1] at hT2
 have HT1 := Lib.hid hT1
 have HT2 := Lib.hid hT2
 have HD := Lib.hid (fun w1 (hx : Ext w w1) => int_divide lz32 (h.ext hx) (h'.ext hx) hb hn)
 have hm0 : 0 < m := by rw [hlm.1, limbs_pos (by omega)]; simp
 have e0 : ((m : Int) == 0) = false := by rw [beq_eq_false_iff_ne]; omega
 have hn2 : n ≤ c := hln.2.1
 have hm2 : m ≤ c' := hlm.2.1
 have hc2 : n ≤ 35184372088832 := hln.2.2
 have hc2' : m ≤ 35184372088832 := hlm.2.2
 clear hT1 hT2 h h' hln hlm hb
 obtain ⟨W4, hW4⟩ : ∃ W4, ((((w.alloc (.cells #[.bool false, .slice A n c] 62)).alloc (.cells #[.bool false, .slice A' m c'] 62)).alloc (.cells #[.bool false, .slice none 0 0] 62)).alloc (.cells #[.bool false, .slice none 0 0] 62)) = W4 := ⟨_, rfl⟩
 have HB0 : Hid (Boxes4 W4 w.heap.size false false (.slice A n c) (.slice A' m c')) := by rw [← hW4]; exact boxes4 w false false A A' n m c c'
 have hE4 : Ext w W4 := by rw [← hW4]; exact (by repeat first|exact xA _|assumption|refine xB ?_ _|refine xC ?_|refine xD ?_ _|refine xE ?_ (by simp <;> omega) _|refine xF ?_ (by assumption))
 have HW4 := Lib.hid hW4
 clear hW4
 go_enter Tryz.func349, Tryz.ntmps349
 go_upto_region 1 with fail
 rw [HW4.out]
 obtain ⟨⟨p0, p1, -, -, -, -⟩, ⟨q0, q1, -, -, -, -⟩, -⟩ := HB0.out
 go_wp2_with fail
 refine (HT2.out _ hE4).mono ?_
 rintro e w1 ⟨rfl, rfl⟩
 go_wp2_with fail
 refine (HT1.out _ hE4).mono ?_
 rintro e w1 ⟨rfl, rfl⟩
 go_wp2_with fail
 refine (HD.out _ hE4).mono ?_
 rintro e w1 ⟨v, rfl, ⟨v1, v2, rfl, hv1, hv2⟩, hx1⟩
 obtain ⟨A1, c1, rfl, hl1, hm1⟩ := hv1.form
 obtain ⟨A2, c2, rfl, hl2, hm2'⟩ := hv2.form
 have HV1 := Lib.hid hv1
 have HV2 := Lib.hid hv2
 have hE1 : Ext w w1 := Ext.trans hE4 hx1
 have HB1 := Lib.hid (HB0.out.ext hx1)
 clear hv1 hv2 hx1 HD HT1 HT2 p0 p1 q0 q1 HB0
 obtain ⟨⟨p0, p1, -, -, -, -⟩, ⟨q0, q1, -, -, -, -⟩, -⟩ := HB1.out
 have HSQ := Lib.hid (fun w2 (hx : Ext w1 w2) => signed0 (HV1.out.ext hx))
 generalize (limbs (a / b)).length = k1 at *
 have HS2 := Lib.hid (fun w2 (hh : Words w2 (.slice A2 (limbs (a % b)).length c2) (limbs (a % b))) => signed0 hh)
 generalize (limbs (a % b)).length = k2 at *
 go_wp2_with fail
 go_region_with
  (first
   | (go_at_call 163; refine (HSQ.out _ (by repeat first|exact xA _|assumption|refine xB ?_ _|refine xC ?_|refine xD ?_ _|refine xE ?_ (by simp <;> omega) _|refine xF ?_ (by assumption))).mono ?_; clear HSQ; rintro e w2 ⟨v2, rfl, ⟨A3, c3, rfl, hu2⟩, hx2⟩; have HU2 := Lib.hid hu2; clear hu2; have hB2 := HB1.out.drew.ext hx2; have HB2 := Lib.hid hB2; have HV2a := Lib.hid (HV2.out.ext (Ext.trans (Ext.drew _) hx2)); have HU2b := Lib.hid (HU2.out.put HB2.out.2.2.1 false (.slice A3 k1 c3)); have HV2b := Lib.hid (HV2a.out.put HB2.out.2.2.1 false (.slice A3 k1 c3)); have HB2b := Lib.hid (And.intro (HB2.out.1.far (h := w.heap.size + 1 + 1) (by omega) (.bool false) (.slice A3 k1 c3)) (And.intro (HB2.out.2.1.far (h := w.heap.size + 1 + 1) (by omega) (.bool false) (.slice A3 k1 c3)) (And.intro (HB2.out.2.2.1.put false (u' := .slice A3 k1 c3) (by simp)) (HB2.out.2.2.2.far (h := w.heap.size + 1 + 1) (by omega) (.bool false) (.slice A3 k1 c3))))); obtain ⟨⟨r0, r1, -, -, -, -⟩, ⟨r2, r3, -, -, -, -⟩, ⟨r4, r5, r6, r7, -, -⟩, -⟩ := hB2)
   | (go_at_call 163; refine (HS2.out _ HV2a.out).mono ?_; rintro e w3 ⟨v3, rfl, ⟨A4, c4, rfl, hu3⟩, hx3⟩; have HU3 := Lib.hid hu3; clear hu3; have hB3 := HB2.out.ext hx3; have HB3 := Lib.hid hB3; obtain ⟨⟨y0, y1, -, -, -, -⟩, ⟨y2, y3, -, -, -, -⟩, ⟨y4, y5, y6, y7, -, -⟩, ⟨z4, z5, z6, z7, -, -⟩⟩ := hB3)
   | (go_at_call 163; refine (HS2.out _ HV2b.out).mono ?_; rintro e w3 ⟨v3, rfl, ⟨A4, c4, rfl, hu3⟩, hx3⟩; have HU3 := Lib.hid hu3; clear hu3; have hB3 := And.intro (HB2b.out.1.ext hx3) (And.intro (HB2b.out.2.1.ext hx3) (And.intro (HB2b.out.2.2.1.ext hx3) (HB2b.out.2.2.2.ext hx3))); have HB3 := Lib.hid hB3; obtain ⟨⟨y0, y1, -, -, -, -⟩, ⟨y2, y3, -, -, -, -⟩, ⟨y4, y5, y6, y7, -, -⟩, ⟨z4, z5, z6, z7, -, -⟩⟩ := hB3))
 all_goals
  go_wp2_with fail
  refine bodyPost_ret (v := .tuple #[.agg #[.bool false, .slice A3 k1 c3], .agg #[.bool false, .slice A4 k2 c4], .int .i64 0]) ?_ rfl ⟨_, rfl, ⟨_, _, rfl, ?_, ?_⟩, ?_⟩
  ·simp [results, Tryz.results349, go_sem, y4, y5, z4, z5]
  ·first
    | exact ((HU2.out.ext hx3).put HB3.out.2.2.1 _ _).put (HB3.out.2.2.2.far (by omega) _ _) _ _
    | exact (HU2b.out.ext hx3).put HB3.out.2.2.2 _ _
  ·first
    | exact (HU3.out.put HB3.out.2.2.1 _ _).put (HB3.out.2.2.2.far (by omega) _ _) _ _
    | exact HU3.out.put HB3.out.2.2.2 _ _
  ·exact (by repeat first|exact xA _|assumption|refine xB ?_ _|refine xC ?_|refine xD ?_ _|refine xE ?_ (by simp <;> omega) _|refine xF ?_ (by assumption))
end Go.Proofs.YtmddjbmelajadaaGreatDoor
