/- Contracts of the program's words, in the form that the evaluator asks for: trim, signed, fromUint, FromInt, GCD, Valid, Sign, toUint. -/
import Derived.Test.YtceobmnljdhkmaaGreatDoorYS
import Derived.Test.YtceobmnljdhkmaaGreatDoorYT
import Derived.Test.YtceobmnljdhkmaaGreatDoorYA
namespace Go.Proofs.YtceobmnljdhkmaaGreatDoor
open Go Go.RowKit Go.Proofs.YtceobmnljdhkmaaGreatDoor.Ev
theorem tlen_trim : ∀ xs : List Nat, tlenK xs = (trimL xs).length
 | [] => rfl
 | x :: xs => by
  have ih := tlen_trim xs
  show tl1 x (tlenK xs) = _
  rw [ih]
  by_cases h : trimL xs = [] ∧ x = 0
  ·rw [trimL_cons_nil h, h.1, h.2]; rfl
  ·rw [trimL_cons h]
   by_cases h0 : trimL xs = []
   ·have hx : x ≠ 0 := fun e => h ⟨h0, e⟩
    rw [h0]
    show (Bool.rec (motive := fun _ => Nat) 1 0 (Nat.beq x 0)) = 1
    cases hb : Nat.beq x 0 with
    | true => exact absurd (Nat.eq_of_beq_eq_true hb) hx
    | false => rfl
   ·cases hl : trimL xs with
    | nil => exact absurd hl h0
    | cons y ys => rfl
theorem valN_val : ∀ xs : List Nat, valN xs = val xs
 | [] => rfl
 | x :: xs => by show x + 4294967296 * valN xs = x + 4294967296 * val xs; rw [valN_val xs]
theorem uLen_limbs {n : Nat} (hn : n < 18446744073709551616) : uLen n = (limbs n).length := by
 unfold uLen
 cases h0 : Nat.beq n 0 with
 | true => obtain rfl := Nat.eq_of_beq_eq_true h0; rw [limbs_zero]; rfl
 | false =>
  have h0 := Nat.ne_of_beq_eq_false h0
  rw [limbs_pos h0]
  cases h1 : Nat.ble n 4294967295 with
  | true =>
   have h1 := Nat.le_of_ble_eq_true h1
   rw [Nat.div_eq_of_lt (by omega), limbs_zero]; rfl
  | false =>
   have h1 : ¬ n ≤ 4294967295 := fun hh => by rw [Nat.ble_eq_true_of_le hh] at h1; cases h1
   rw [limbs_pos (n := n / 4294967296) (by omega), Nat.div_eq_of_lt (a := n / 4294967296) (by omega), limbs_zero]; rfl
/-- A slice of words of the evaluator. -/
theorem slWords {w : World} {v : Value} {xs : List Nat} (h : SlW w v xs) (hm : xs.length ≤ 1100000) : Words w v xs := by
 obtain ⟨A, c, rfl, h1, h2, h3⟩ := h
 exact ⟨A, c, rfl, h1, by omega, h2, h3⟩
theorem ev_trim {w : World} {A : Option Addr} {c : Nat} {xs : List Nat} (h : SlW w (.slice A xs.length c) xs) (hm : xs.length ≤ 1100000) : Calls Tryz.prog 105 #[.slice A xs.length c] w fun e w' => e = .returned (.slice A (tlenK xs) c) ∧ Below w.heap.size w w' :=
 (int_trim (slWords h hm)).mono fun e w' h => by obtain ⟨rfl, rfl⟩ := h; exact ⟨by rw [tlen_trim], Below.refl _ _⟩
set_option maxHeartbeats 400000 in
theorem int_signedX (neg : Bool) {A : Option Addr} {n c : Nat} {xs : List Nat} {w : World} (h : Words w (.slice A n c) xs) :
  Calls Tryz.prog 135 #[.bool neg, .slice A n c] w (Ret w fun r _ => r = sgnV neg A (trimL xs).length c) := by
 have hlen : (trimL xs).length ≤ 35184372088832 := by
  obtain ⟨_, _, hv, h1, h2, _⟩ := h
  have := trimL_length_le xs; injection hv; omega
 have HT := Lib.hid (fun w1 (hx : Ext w w1) => int_trim (h.ext hx))
 clear h
 generalize (trimL xs).length = k at *
 by_cases hz : k = 0
 ·subst hz
  go_enter Tryz.func135, Tryz.ntmps135
  go_wp2_with fail
  refine (HT.out _ (Ext.alloc _ _)).mono ?_
  rintro e w1 ⟨rfl, rfl⟩
  go_wp2_with fail
  refine bodyPost_ret (v := .agg #[.bool false, .slice none 0 0]) ?_ rfl ⟨_, rfl, rfl, Ext.alloc _ _⟩
  simp [results, Tryz.results135, go_sem]
 ·have hz' : ((k : Int) == 0) = false := by simp; omega
  have HN : Hid (sgnV neg A k c = .agg #[.bool neg, .slice A k c]) := by show _ = _; rw [sgnV, if_neg hz]
  go_enter Tryz.func135, Tryz.ntmps135
  go_wp2_with fail
  refine (HT.out _ (Ext.alloc _ _)).mono ?_
  rintro e w1 ⟨rfl, rfl⟩
  go_wp2_with fail
  refine bodyPost_ret (v := .agg #[.bool neg, .slice A k c]) ?_ rfl ⟨_, rfl, HN.out.symm, Ext.alloc _ _⟩
  simp [results, Tryz.results135, go_sem]
theorem ev_signed {w : World} {s : Bool} {A : Option Addr} {c : Nat} {xs : List Nat} (h : SlW w (.slice A xs.length c) xs) (hm : xs.length ≤ 1100000) : Calls Tryz.prog 135 #[.bool s, .slice A xs.length c] w fun e w' => e = .returned (sgnV s A (tlenK xs) c) ∧ Below w.heap.size w w' :=
 (int_signedX s (slWords h hm)).mono fun e w' h => by obtain ⟨v, rfl, rfl, hx⟩ := h; exact ⟨by rw [tlen_trim], hx⟩
theorem ev_Valid {w : World} {s : Bool} {v : Value} {xs : List Nat} (h : SlW w v xs) (hm : xs.length ≤ 1100000) : Calls Tryz.prog 253 #[.agg #[.bool s, v]] w fun e w' => e = .returned (.bool (validB s xs)) ∧ Below w.heap.size w w' := by
 have hw := slWords h hm
 obtain ⟨A, c, rfl, _⟩ := h
 refine (int_Valid s hw).mono fun e w' h => ?_
 obtain ⟨rfl, hx⟩ := h
 refine ⟨?_, hx⟩
 congr 2
 unfold validB
 rw [tlen_trim, lenN_eq]
 have e1 : decide ((trimL xs).length = xs.length) = Nat.beq (trimL xs).length xs.length := by
  rw [Bool.eq_iff_iff, decide_eq_true_iff]
  exact ⟨fun h => by rw [h]; exact Nat.beq_refl _, Nat.eq_of_beq_eq_true⟩
 have e2 : decide (0 < xs.length) = bnot (Nat.beq xs.length 0) := by cases xs.length <;> rfl
 rw [e1, e2]
 cases Nat.beq (trimL xs).length xs.length <;> cases s <;> simp
theorem ev_Sign {w : World} {s : Bool} {v : Value} {xs : List Nat} (h : SlW w v xs) (hm : xs.length ≤ 1100000) : Calls Tryz.prog 69 #[.agg #[.bool s, v]] w fun e w' => e = .returned (.int .i64 (signZ s (tlenK xs))) ∧ Below w.heap.size w w' := by
 have hw := slWords h hm
 obtain ⟨A, c, rfl, _⟩ := h
 refine (int_Sign s hw).mono fun e w' h => ?_
 obtain ⟨rfl, hx⟩ := h
 refine ⟨?_, hx⟩
 rw [tlen_trim]
 rfl
theorem ev_toUint {w : World} {v : Value} {xs : List Nat} (h : SlW w v xs) (hm : xs.length ≤ 2) : Calls Tryz.prog 232 #[v] w fun e w' => e = .returned (.int .u64 ((valN xs : Nat) : Int)) ∧ Below w.heap.size w w' := by
 have hw := slWords h (by omega)
 obtain ⟨A, c, rfl, _⟩ := h
 refine (int_toUint hw hm).mono fun e w' h => ?_
 obtain ⟨rfl, hx⟩ := h
 exact ⟨by rw [valN_val], hx⟩
-- new words
theorem ownU_lt {w w' : World} {n : Nat} {v : Value} (h : OwnU w w' n v) : ∃ g, w.heap.size ≤ g ∧ g < w'.heap.size ∧ v = .slice (some ⟨g, 0, none⟩) (uLen n) 2 := by
 obtain ⟨g, el, h1, h2, h3⟩ := h
 refine ⟨g, h1, ?_, h3⟩
 rcases Nat.lt_or_ge g w'.heap.size with h | h
 ·exact h
 ·rw [Array.getElem?_eq_none h] at h2; cases h2
theorem ownU_ext {w w1 w2 : World} {n : Nat} {v : Value} (h : OwnU w w1 n v) (hx : Ext w1 w2) : OwnU w w2 n v := by
 obtain ⟨g', _, h4, e⟩ := ownU_lt h
 obtain ⟨g, el, h1, h2, rfl⟩ := h
 injection e with e _ _; injection e with e; injection e with e _ _; subst e
 exact ⟨g, el, h1, (hx.block g h4).trans h2, rfl⟩
theorem ownU_base {w w1 w2 : World} {n : Nat} {v : Value} (h : OwnU w1 w2 n v) (hx : w.heap.size ≤ w1.heap.size) : OwnU w w2 n v := by
 obtain ⟨g, el, h1, h2, h3⟩ := h
 exact ⟨g, el, by omega, h2, h3⟩
theorem ownU_set {w w1 : World} {n : Nat} {v : Value} (h : OwnU w w1 n v) {p : Addr} (hp : p.block < w.heap.size) (u : Value) : OwnU w (w1.setCell p u) n v := by
 obtain ⟨g, el, h1, h2, h3⟩ := h
 exact ⟨g, el, h1, (Below.heap_setCell w1 p u g (by omega)).trans h2, h3⟩
set_option maxHeartbeats 400000 in
theorem int_fromUintX (n : Nat) (hn : n < 18446744073709551616) (w : World) :
  Calls Tryz.prog 136 #[.int .u64 (n : Int)] w (Ret w fun v w' => OwnU w w' n v ∧ Words w' v (limbs n)) := by
 have hrow : Row (w.alloc (.cells #[.int .u32 ((n : Int) % 4294967296), .int .u32 ((n : Int) / 4294967296)] 164)) w.heap.size [n % 4294967296, n / 4294967296] := by
  unfold Row
  rw [heap_alloc_new]
  simp [wordVs]
 have hW := hrow.words (Limb.cons (by omega) (Limb.cons (by omega) Limb.nil)) (c := 2) (by simp) (by omega)
 have H := Lib.hid (int_trim hW)
 have T := Lib.hid hW.trim
 have HR := Lib.hid hrow
 have HN : Hid (uLen n = (limbs n).length) := uLen_limbs hn
 rw [limbs_two hn] at H T
 clear hrow hW
 go_enter Tryz.func136, Tryz.ntmps136
 go_wp2_with fail
 refine H.out.mono ?_
 rintro e w' ⟨rfl, rfl⟩
 go_wp2_with fail
 go_ret
 refine ⟨_, rfl, ⟨⟨w.heap.size, 164, Nat.le_refl _, ?_, by rw [HN.out]; rfl⟩, T.out⟩, (by repeat first|exact xA _|assumption|refine xB ?_ _|refine xC ?_|refine xD ?_ _|refine xE ?_ (by simp <;> omega) _|refine xF ?_ (by assumption))⟩
 have := HR.out
 unfold Row at this
 simpa [wordVs] using this
theorem ev_fromUint (w : World) (n : Nat) (hn : n < 18446744073709551616) : Calls Tryz.prog 136 #[.int .u64 (n : Int)] w fun e w' => Below w.heap.size w w' ∧ ∃ v, e = .returned v ∧ OwnU w w' n v :=
 (int_fromUintX n hn w).mono fun e w' h => by obtain ⟨v, rfl, ⟨h1, _⟩, hx⟩ := h; exact ⟨hx, v, rfl, h1⟩
end Go.Proofs.YtceobmnljdhkmaaGreatDoor
namespace Go.Proofs.YtceobmnljdhkmaaGreatDoor
open Go Go.RowKit Go.Proofs.YtceobmnljdhkmaaGreatDoor.Ev
set_option maxRecDepth 100000 in
set_option maxHeartbeats 1600000 in
theorem int_GCD_own {s t : Bool} {v v' : Value} {xs ys : List Nat} {w : World} (h : Words w v xs) (h' : Words w v' ys) (hx : xs.length ≤ 2) (hy : ys.length ≤ 2) (hp : 0 < val ys) :
  Calls Tryz.prog 184 #[.agg #[.bool s, v], .agg #[.bool t, v']] w (Ret w fun r w' => OwnI w w' false (Nat.gcd (val xs) (val ys)) r) := by
 obtain ⟨A, c, rfl, hl, hm⟩ := h.form
 obtain ⟨A', c', rfl, hl', hm'⟩ := h'.form
 have hL := h.limb
 have hL' := h'.limb
 have hx2 : (limbs (val xs)).length ≤ 2 := by rw [← trimL_eq_limbs hL]; have := trimL_length_le xs; omega
 have hy2 : (limbs (val ys)).length ≤ 2 := by rw [← trimL_eq_limbs hL']; have := trimL_length_le ys; omega
 have hy0 : 0 < (limbs (val ys)).length := by rw [limbs_pos (by omega)]; simp
 have HM : Hid (val xs < 18446744073709551616 ∧ val ys < 18446744073709551616) := ⟨words_two hx2, words_two hy2⟩
 have hT := fun w1 (hx : Ext w w1) => int_trim (h.ext hx)
 have hT' := fun w1 (hx : Ext w w1) => int_trim (h'.ext hx)
 have hW := h.trim
 have hW' := h'.trim
 rw [trimL_eq_limbs hL] at hT hW
 rw [trimL_eq_limbs hL'] at hT' hW'
 have hU := fun w1 (hx : Ext w w1) => int_toUint (hW.ext hx) hx2
 have hU' := fun w1 (hx : Ext w w1) => int_toUint (hW'.ext hx) hy2
 rw [val_limbs] at hU hU'
 have HT := Lib.hid hT
 have HT' := Lib.hid hT'
 have HU := Lib.hid hU
 have HU' := Lib.hid hU'
 have HF := Lib.hid (fun (p : Nat) (hp : p < 18446744073709551616) w1 => int_fromUintX p hp w1)
 have HSG := Lib.hid (fun (A : Option Addr) (n c : Nat) (xs : List Nat) (w1 : World) (hh : Words w1 (.slice A n c) xs) => int_signedX false hh)
 clear h h' hT hT' hW hW' hU hU' hL hL'
 generalize (limbs (val xs)).length = k1 at *
 generalize (limbs (val ys)).length = k2 at *
 generalize val xs = vx at *
 generalize val ys = vy at *
 generalize xs.length = n at *
 generalize ys.length = m at *
 have e1 : ¬ (2 < (k2 : Int)) := by omega
 have e2 : ¬ (2 < (k1 : Int)) := by omega
 have e3 : ((k2 : Int) == 0) = false := by rw [beq_eq_false_iff_ne]; omega
 go_enter Tryz.func184, Tryz.ntmps184
 go_wp2_with fail
 go_quiet ((first | (go_at_call_of 105 (Value.slice A n c); exact quiet_left (HT.out _ (by repeat first|exact xA _|assumption|refine xB ?_ _|refine xC ?_|refine xD ?_ _|refine xE ?_ (by simp <;> omega) _|refine xF ?_ (by assumption)))) | (go_at_call_of 105 (Value.slice A' m c'); exact quiet_left (HT'.out _ (by repeat first|exact xA _|assumption|refine xB ?_ _|refine xC ?_|refine xD ?_ _|refine xE ?_ (by simp <;> omega) _|refine xF ?_ (by assumption))))))
 clear HT HT'
 go_wp2_with fail
 generalize hwn : (((w.alloc (Obj.cells #[Value.bool s, Value.slice A n c] 55)).alloc (Obj.cells #[Value.bool t, Value.slice A' m c'] 55)).alloc (Obj.cells #[Value.bool false, Value.slice none 0 0] 55)).drewN nq = wn at *
 have hEn : Ext w wn := by rw [← hwn]; exact (by repeat first|exact xA _|assumption|refine xB ?_ _|refine xC ?_|refine xD ?_ _|refine xE ?_ (by simp <;> omega) _|refine xF ?_ (by assumption))
 have hc0 : wn.cell? ⟨w.heap.size + 1 + 1, 0, none⟩ = some (.bool false) := by rw [← hwn]; simp [go_sem]
 have hc1 : wn.cell? ⟨w.heap.size + 1 + 1, 1, none⟩ = some (.slice none 0 0) := by rw [← hwn]; simp [go_sem]
 have hf0 : wn.frozen? ⟨w.heap.size + 1 + 1, 0, none⟩ = false := by rw [← hwn]; simp [go_sem]
 have hf1 : wn.frozen? ⟨w.heap.size + 1 + 1, 1, none⟩ = false := by rw [← hwn]; simp [go_sem]
 have hsz : wn.heap.size = w.heap.size + 1 + 1 + 1 := by rw [← hwn]; simp
 have HSZ := Lib.hid hsz
 have HNW : Hid (NoWord wn (w.heap.size + 1 + 1)) := by
  rw [← hwn]
  have h1 := NoWord.new ((w.alloc (Obj.cells #[Value.bool s, Value.slice A n c] 55)).alloc (Obj.cells #[Value.bool t, Value.slice A' m c'] 55)) #[Value.bool false, Value.slice none 0 0] 55 (by simp)
  simp only [World.size_alloc] at h1
  exact h1
 have HC := Lib.hid (And.intro hc0 (And.intro hc1 (And.intro hf0 hf1)))
 have hEz := Lib.hid hEn
 have hvy0 : Hid (vy ≠ 0) := by show _ ≠ _; omega
 clear hwn hc0 hc1 hf0 hf1 hsz
 go_loopg [5, 6] 0 (fun _ x y wr => x = .slice A k1 c ∧ y = .slice A' k2 c' ∧ wr = wn)
 case atStart => exact ⟨rfl, rfl, rfl⟩
 case round =>
  obtain ⟨rfl, rfl, hw⟩ := hrel
  have hw' := hw.symm
  clear hw
  subst hw'
  go_wp2_with fail
  refine (HU.out _ hEn).mono ?_
  rintro e w1 ⟨rfl, hx1⟩
  have hE1 : Ext w w1 := hEn.trans hx1
  go_wp2_with fail
  refine (HU'.out _ hE1).mono ?_
  rintro e w2 ⟨rfl, hx2⟩
  have HX2 := Lib.hid (Ext.trans hx1 hx2)
  clear hx1 hx2 hE1
  go_wp2_with fail
  go_loopg [9, 10] vy (fun q x y w3 => ∃ p : Nat, x = .int .u64 (p : Int) ∧ y = .int .u64 (q : Int) ∧ Hid (Nat.gcd p q = Nat.gcd vx vy) ∧ Hid (p < 18446744073709551616 ∧ q < 18446744073709551616) ∧ Hid (Ext wn w3))
  case atStart => exact ⟨vx, rfl, rfl, rfl, HM, HX2.out⟩
  case round =>
   obtain ⟨p, rfl, rfl, HG, HPQ, HE⟩ := hrel
   by_cases h0 : 0 < gk
   ·have hb0 : ¬ ((gk : Int) = 0) := by omega
    have hb1 : ((gk : Int) == 0) = false := by rw [beq_eq_false_iff_ne]; omega
    have hb2 : ((gk : Int) != 0) = true := by rw [bne_iff_ne]; omega
    have HG2 : Hid (Nat.gcd gk (p % gk) = Nat.gcd vx vy) := (by
     show _ = _
     rw [← HG.out, Nat.gcd_comm p gk, Nat.gcd_rec gk p, Nat.gcd_comm])
    have hlt := Nat.mod_lt p h0
    have HP2 : Hid (gk < 18446744073709551616 ∧ p % gk < 18446744073709551616) := ⟨HPQ.out.2, by have := HPQ.out.2; omega⟩
    go_wp2_with fail
    go_quiet (fail)
    go_wp2_with fail
    go_roundg (p % gk)
    case measure => exact hlt
    case rel => exact ⟨gk, rfl, by first | rfl | simp | (rw [Int.natCast_emod]), HG2, HP2, HE.out.pdrewN _⟩
   ·obtain rfl : gk = 0 := by omega
    have hg : p = Nat.gcd vx vy := by have := HG.out; rwa [Nat.gcd_zero_right] at this
    have HGG := Lib.hid hg
    clear hg
    have HF1 := Lib.hid (fun w1 => HF.out p HPQ.out.1 w1)
    have HPB := Lib.hid HPQ.out.1
    clear HF HPQ
    go_wp2_with fail
    refine (HF1.out _).mono ?_
    rintro e w4 ⟨v4, rfl, ⟨ho4, hv4⟩, hx4⟩
    have hp0 : p ≠ 0 := by rw [HGG.out]; exact fun e => hvy0.out (Nat.eq_zero_of_gcd_eq_zero_right e)
    have HO4 := Lib.hid ho4
    have hpU : uLen p = (limbs p).length := uLen_limbs HPB.out
    obtain ⟨g4, hg4, hg4', rfl⟩ := ownU_lt ho4
    rw [hpU] at hv4
    have hk0 : (limbs p).length ≠ 0 := by rw [limbs_pos hp0]; simp
    have hS := HSG.out _ _ _ _ _ hv4
    rw [trimL_limbs] at hS
    unfold sgnV at hS
    rw [if_neg hk0] at hS
    have HS := Lib.hid hS
    have HE4 := Lib.hid (Ext.trans HE.out hx4)
    have HUL := Lib.hid hpU
    have HP0 := Lib.hid hp0
    clear hS hv4 hx4 HSG HF1 hpU ho4 hp0
    generalize uLen p = ul at *
    obtain rfl : ul = (limbs p).length := HUL.out
    generalize (limbs p).length = kp at *
    go_wp2_with fail
    refine HS.out.mono ?_
    rintro e w5 ⟨r5, rfl, rfl, hx5⟩
    have hx := Ext.trans HE4.out hx5
    have HO5 := Lib.hid (ownU_ext HO4.out hx5)
    obtain ⟨r0, r1, r2, r3⟩ := HC.out
    have hlt2 : w.heap.size + 1 + 1 < wn.heap.size := by rw [HSZ.out]; omega
    have s0 := (hx.cell (p := ⟨w.heap.size + 1 + 1, 0, none⟩) hlt2).trans r0
    have s1 := (hx.cell (p := ⟨w.heap.size + 1 + 1, 1, none⟩) hlt2).trans r1
    have s2 := (Below.frozen hx (p := ⟨w.heap.size + 1 + 1, 0, none⟩) hlt2).trans r2
    have s3 := (Below.frozen hx (p := ⟨w.heap.size + 1 + 1, 1, none⟩) hlt2).trans r3
    have HX := Lib.hid (hEn.trans hx)
    have HXX := Lib.hid hx
    clear r0 r1 r2 r3 hx hx5 hEn HC HE4
    go_wp2_with fail
    refine bodyPost_ret (v := .agg #[.bool false, .slice (some ⟨g4, 0, none⟩) kp 2]) ?_ rfl ⟨_, rfl, ?_, ?_⟩
    ·simp [results, Tryz.results184, go_sem, s0, s1]
    ·show OwnI _ _ _ _ _
     unfold OwnI
     rw [← HGG.out, if_neg HP0.out]
     have hz := HE.out.size
     have hz2 := hEz.out.size
     have hzz := HSZ.out
     exact ⟨_, rfl, ownU_base (ownU_set (ownU_set HO5.out (by show w.heap.size + 1 + 1 < _; omega) _) (by show w.heap.size + 1 + 1 < _; omega) _) (by omega)⟩
    ·exact (HX.out.pset (by simp <;> omega) _).pset (by simp <;> omega) _
theorem ev_GCD {w : World} {s t : Bool} {v v' : Value} {xs ys : List Nat} (h : SlW w v xs) (h' : SlW w v' ys) (hm : xs.length ≤ 2) (hm' : ys.length ≤ 2) (hp : 0 < valN ys) :
  Calls Tryz.prog 184 #[.agg #[.bool s, v], .agg #[.bool t, v']] w fun e w' => Below w.heap.size w w' ∧ ∃ v, e = .returned v ∧ OwnI w w' false (Nat.gcd (valN xs) (valN ys)) v := by
 rw [valN_val] at hp
 rw [valN_val, valN_val]
 exact (int_GCD_own (slWords h (by omega)) (slWords h' (by omega)) hm hm' hp).mono fun e w' h => by
  obtain ⟨v, rfl, h1, hx⟩ := h
  exact ⟨hx, v, rfl, h1⟩
set_option maxHeartbeats 1600000 in
theorem int_FromInt_own (n : Nat) (hn : n ≤ 1000000000) (w : World) :
  Calls Tryz.prog 84 #[.int .i64 (n : Int)] w (Ret w fun r w' => OwnI w w' false n r) := by
 have HF := Lib.hid (fun w1 => int_fromUintX n (by omega) w1)
 have HTL : Hid (trimL (limbs n) = limbs n) := trimL_limbs _
 have hlt : decide ((n : Int) < 0) = false := decide_eq_false (by omega)
 go_enter Tryz.func84, Tryz.ntmps84
 go_wp2_with fail
 refine (HF.out _).mono ?_
 rintro e w1 ⟨v1, rfl, ⟨ho1, hv1⟩, hx1⟩
 have HO1 := Lib.hid ho1
 have hpU := Lib.hid (uLen_limbs (n := n) (by omega))
 obtain ⟨g4, hg4, hg4', rfl⟩ := ownU_lt ho1
 have HS := Lib.hid (int_signedX false hv1)
 have hb0 : w.heap.size < (w.alloc (.cells #[.bool false, .slice none 0 0] 55)).heap.size := by simp
 have q0 : w1.cell? ⟨w.heap.size, 0, none⟩ = some (.bool false) := (hx1.cell (p := ⟨w.heap.size, 0, none⟩) hb0).trans (by simp [go_sem])
 have q1 : w1.cell? ⟨w.heap.size, 1, none⟩ = some (.slice none 0 0) := (hx1.cell (p := ⟨w.heap.size, 1, none⟩) hb0).trans (by simp [go_sem])
 have q2 : w1.frozen? ⟨w.heap.size, 0, none⟩ = false := (Below.frozen hx1 (p := ⟨w.heap.size, 0, none⟩) hb0).trans (by simp [go_sem])
 have q3 : w1.frozen? ⟨w.heap.size, 1, none⟩ = false := (Below.frozen hx1 (p := ⟨w.heap.size, 1, none⟩) hb0).trans (by simp [go_sem])
 have hb1 : w.heap.size < w1.heap.size := Nat.lt_of_lt_of_le hb0 hx1.size
 have hE1 : Ext w w1 := Ext.trans (Ext.alloc _ _) hx1
 clear hv1 hx1 ho1 hb0
 go_wp2_with fail
 refine HS.out.mono ?_
 rintro e w2 ⟨v2, rfl, hr, hx2⟩
 rw [HTL.out] at hr
 have HR := Lib.hid hr
 have HO2 := Lib.hid (ownU_ext HO1.out hx2)
 have y0 := (hx2.cell (p := ⟨w.heap.size, 0, none⟩) hb1).trans q0
 have y1 := (hx2.cell (p := ⟨w.heap.size, 1, none⟩) hb1).trans q1
 have y2 := (Below.frozen hx2 (p := ⟨w.heap.size, 0, none⟩) hb1).trans q2
 have y3 := (Below.frozen hx2 (p := ⟨w.heap.size, 1, none⟩) hb1).trans q3
 have HX := Lib.hid (Ext.trans hE1 hx2)
 clear hr hx2 hE1 HS q0 q1 q2 q3 hb1
 by_cases h0 : n = 0
 ·have hl0 : (limbs n).length = 0 := by rw [h0, limbs_zero]; rfl
  have hr := HR.out
  unfold sgnV at hr
  rw [if_pos hl0] at hr
  subst hr
  have HN0 := Lib.hid h0
  clear HR h0 hl0
  go_wp2_with fail
  refine bodyPost_ret (v := .agg #[.bool false, .slice none 0 0]) ?_ rfl ⟨_, rfl, ?_, ?_⟩
  ·simp [results, Tryz.results84, go_sem, y0, y1]
  ·show OwnI _ _ _ _ _
   unfold OwnI
   rw [if_pos HN0.out]
  ·exact (HX.out.pset (by simp <;> omega) _).pset (by simp <;> omega) _
 ·have hk0 : (limbs n).length ≠ 0 := by rw [limbs_pos h0]; simp
  have hr := HR.out
  unfold sgnV at hr
  rw [if_neg hk0, ← hpU.out] at hr
  subst hr
  have HN0 := Lib.hid h0
  clear HR hk0 h0
  generalize uLen n = ul at *
  go_wp2_with fail
  refine bodyPost_ret (v := .agg #[.bool false, .slice (some ⟨g4, 0, none⟩) ul 2]) ?_ rfl ⟨_, rfl, ?_, ?_⟩
  ·simp [results, Tryz.results84, go_sem, y0, y1]
  ·show OwnI _ _ _ _ _
   unfold OwnI
   rw [if_neg HN0.out]
   exact ⟨_, rfl, ownU_base (ownU_set (ownU_set HO2.out (by simp) _) (by simp) _) (by simp)⟩
  ·exact (HX.out.pset (by simp <;> omega) _).pset (by simp <;> omega) _
/-- FromInt of a number that is not negative. -/
noncomputable def fromPosK : List AV → St → KS → OR := fun args st k => one1 args fun a => asZK .i64 a (fun n => ifK (Nat.ble n 1000000000) (sgW false n st k) none) (fun _ => none)
theorem fromPosK_ok : CallOK Tryz.prog 84 fromPosK := fun {args st k r Γ w vs} h hs hc => by
 obtain ⟨a, rfl, h0⟩ := one1_spec h
 obtain ⟨v, rfl, hv⟩ := hc.inv1
 rcases asZK_spec h0 with ⟨n, rfl, h0⟩ | ⟨n, rfl, h0⟩
 ·rw [hv.inv_i]
  obtain ⟨g1, h0⟩ := ifK_yes h0
  intro R hR
  refine Calls.mono (int_FromInt_own n (Nat.le_of_ble_eq_true g1) w) ?_
  rintro e w' ⟨v, rfl, ho, hx⟩
  obtain ⟨av, st', Γ', h1, h2, h3⟩ := sgW_spec h0 hs hx ho
  exact hR _ _ _ w' Γ' h1 h2 h3
 ·cases h0
theorem oneB_ok (s : Bool) (xs : List Nat) : oneB s xs = (decide (xs = [1]) && !s) := by
 cases s with
 | true => rw [Bool.not_true, Bool.and_false]; rfl
 | false =>
  rw [Bool.not_false, Bool.and_true]
  match xs with
  | [] => rfl
  | [x] =>
   show Nat.beq x 1 = _
   rw [Bool.eq_iff_iff, decide_eq_true_iff]
   exact ⟨fun h => by rw [Nat.eq_of_beq_eq_true h], fun h => by injection h with h _; rw [h]; rfl⟩
  | x :: y :: l => exact (decide_eq_false (by simp)).symm
theorem ev_isOne {w : World} {s : Bool} {v : Value} {xs : List Nat} (h : SlW w v xs) (hm : xs.length ≤ 1100000) : Calls Tryz.prog 137 #[.agg #[.bool s, v]] w fun e w' => e = .returned (.bool (oneB s xs)) ∧ Below w.heap.size w w' := by
 rw [oneB_ok]
 exact rat_isOne (slWords h hm)
theorem ev_trimR {w : World} {A : Option Addr} {c : Nat} {xs : List Nat} (h : SlW w (.slice A xs.length c) xs) (hm : xs.length ≤ 1100000) : Calls Tryz.prog 90 #[.slice A xs.length c] w fun e w' => e = .returned (.slice A (tlenK xs) c) ∧ Below w.heap.size w w' :=
 (ref01_trim (slWords h hm)).mono fun e w' h => by obtain ⟨rfl, rfl⟩ := h; exact ⟨by rw [tlen_trim], Below.refl _ _⟩
/-- signed of the reference. -/
noncomputable def signedRK (m : Nat) : List AV → St → KS → OR := fun args st k => two2 args fun s y => asB s fun s => wordsK m y st fun xs => cutS y (tlenK xs) fun v => k (.agg [.b (Bool.rec false (bnot (Nat.beq (tlenK xs) 0)) s), v]) st
theorem signedRK_ok : CallOK Tryz.prog 63 (signedRK 1100000) := fun {args st k r Γ w vs} h hs hc => by
 obtain ⟨s, y, rfl, h0⟩ := two2_spec h
 obtain ⟨vs, v, rfl, hs', hv⟩ := hc.inv2
 obtain ⟨s, rfl, h00⟩ := asB_spec h0
 rw [hs'.inv_b]
 obtain ⟨xs, h1, h2, h3⟩ := wordsK_spec h00 hs hv
 have h2' := h2
 obtain ⟨A, c, rfl, _⟩ := h2'
 have h1' : cutS y (tlenK xs) (fun v => k (.agg [.b (Bool.rec false (bnot (Nat.beq (tlenK xs) 0)) s), v]) st) = some r := h1
 obtain ⟨av, h4, h5⟩ := cutS_spec h1' hv (tlenK_le xs)
 intro R hR
 refine Calls.mono (ref01_signed s (slWords h2 h3)) ?_
 rintro e w' ⟨rfl, hx⟩
 have e1 : (s && decide (0 < (trimL xs).length)) = (Bool.rec false (bnot (Nat.beq (tlenK xs) 0)) s : Bool) := by
  rw [tlen_trim]
  cases s with
  | false => rfl
  | true => cases (trimL xs).length <;> rfl
 rw [e1, ← tlen_trim]
 exact hR _ _ _ w' Γ h4 (Grow.ext hs hx) (.agg (.cons (.b _) (.cons h5 .nil)))
end Go.Proofs.YtceobmnljdhkmaaGreatDoor
