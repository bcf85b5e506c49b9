/- Contracts of the program's words, in the form that the evaluator asks for: trim, signed, fromUint, FromInt, GCD, Valid, Sign, toUint. -/
import Derived.Test.YtmddjbmelajadaaGreatDoorYN
import Derived.Test.YtmddjbmelajadaaGreatDoorYO
namespace Go.Proofs.YtmddjbmelajadaaGreatDoor
open Go Go.RowKit Go.Proofs.YtmddjbmelajadaaGreatDoor.Ev
theorem tlen_trim : ∀ xs : List Nat, tlenK xs = (trimL xs).length
 | [] => rfl
 | x :: xs => by
  have ih := tlen_trim xs
  show tl1 x (tlenK xs) = _
  rw [ih]
  by_cases h : trimL xs = [] ∧ x = 0
  ·rw [trimL_cons_nil h, h.1, h.2]; rfl
  ·rw [trimL_cons h]
   by_cases h0 : trimL xs = []
   ·have hx : x ≠ 0 := fun e => h ⟨h0, e⟩
    rw [h0]
    show (Bool.rec (motive := fun _ => Nat) 1 0 (Nat.beq x 0)) = 1
    cases hb : Nat.beq x 0 with
    | true => exact absurd (Nat.eq_of_beq_eq_true hb) hx
    | false => rfl
   ·cases hl : trimL xs with
    | nil => exact absurd hl h0
    | cons y ys => rfl
theorem valN_val : ∀ xs : List Nat, valN xs = val xs
 | [] => rfl
 | x :: xs => by show x + 4294967296 * valN xs = x + 4294967296 * val xs; rw [valN_val xs]
theorem uLen_limbs {n : Nat} (hn : n < 18446744073709551616) : uLen n = (limbs n).length := by
 unfold uLen
 cases h0 : Nat.beq n 0 with
 | true => obtain rfl := Nat.eq_of_beq_eq_true h0; rw [limbs_zero]; rfl
 | false =>
  have h0 := Nat.ne_of_beq_eq_false h0
  rw [limbs_pos h0]
  cases h1 : Nat.ble n 4294967295 with
  | true =>
   have h1 := Nat.le_of_ble_eq_true h1
   rw [Nat.div_eq_of_lt (by omega), limbs_zero]; rfl
  | false =>
   have h1 : ¬ n ≤ 4294967295 := fun hh => by rw [Nat.ble_eq_true_of_le hh] at h1; cases h1
   rw [limbs_pos (n := n / 4294967296) (by omega), Nat.div_eq_of_lt (a := n / 4294967296) (by omega), limbs_zero]; rfl
/-- A slice of words of the evaluator. -/
theorem slWords {w : World} {v : Value} {xs : List Nat} (h : SlW w v xs) (hm : xs.length ≤ 1000) : Words w v xs := by
 obtain ⟨A, c, rfl, h1, h2, h3⟩ := h
 exact ⟨A, c, rfl, h1, by omega, h2, h3⟩
theorem ev_trim {w : World} {A : Option Addr} {c : Nat} {xs : List Nat} (h : SlW w (.slice A xs.length c) xs) (hm : xs.length ≤ 1000) : Calls Tryz.prog 178 #[.slice A xs.length c] w fun e w' => e = .returned (.slice A (tlenK xs) c) ∧ Below w.heap.size w w' :=
 (int_trim (slWords h hm)).mono fun e w' h => by obtain ⟨rfl, rfl⟩ := h; exact ⟨by rw [tlen_trim], Below.refl _ _⟩
set_option maxHeartbeats 400000 in
theorem int_signedX (neg : Bool) {A : Option Addr} {n c : Nat} {xs : List Nat} {w : World} (h : Words w (.slice A n c) xs) :
  Calls Tryz.prog 163 #[.bool neg, .slice A n c] w (Ret w fun r _ => r = sgnV neg A (trimL xs).length c) := by
 have hlen : (trimL xs).length ≤ 35184372088832 := by
  obtain ⟨_, _, hv, h1, h2, _⟩ := h
  have := trimL_length_le xs; injection hv; omega
 have HT := Lib.hid (fun w1 (hx : Ext w w1) => int_trim (h.ext hx))
 clear h
 generalize (trimL xs).length = k at *
 by_cases hz : k = 0
 ·subst hz
  go_enter Tryz.func163, Tryz.ntmps163
  go_wp2_with fail
  refine (HT.out _ (Ext.alloc _ _)).mono ?_
  rintro e w1 ⟨rfl, rfl⟩
  go_wp2_with fail
  refine bodyPost_ret (v := .agg #[.bool false, .slice none 0 0]) ?_ rfl ⟨_, rfl, rfl, Ext.alloc _ _⟩
  simp [results, Tryz.results163, go_sem]
 ·have hz' : ((k : Int) == 0) = false := by simp; omega
  have HN : Hid (sgnV neg A k c = .agg #[.bool neg, .slice A k c]) := by show _ = _; rw [sgnV, if_neg hz]
  go_enter Tryz.func163, Tryz.ntmps163
  go_wp2_with fail
  refine (HT.out _ (Ext.alloc _ _)).mono ?_
  rintro e w1 ⟨rfl, rfl⟩
  go_wp2_with fail
  refine bodyPost_ret (v := .agg #[.bool neg, .slice A k c]) ?_ rfl ⟨_, rfl, HN.out.symm, Ext.alloc _ _⟩
  simp [results, Tryz.results163, go_sem]
theorem ev_signed {w : World} {s : Bool} {A : Option Addr} {c : Nat} {xs : List Nat} (h : SlW w (.slice A xs.length c) xs) (hm : xs.length ≤ 1000) : Calls Tryz.prog 163 #[.bool s, .slice A xs.length c] w fun e w' => e = .returned (sgnV s A (tlenK xs) c) ∧ Below w.heap.size w w' :=
 (int_signedX s (slWords h hm)).mono fun e w' h => by obtain ⟨v, rfl, rfl, hx⟩ := h; exact ⟨by rw [tlen_trim], hx⟩
theorem ev_Valid {w : World} {s : Bool} {v : Value} {xs : List Nat} (h : SlW w v xs) (hm : xs.length ≤ 1000) : Calls Tryz.prog 122 #[.agg #[.bool s, v]] w fun e w' => e = .returned (.bool (validB s xs)) ∧ Below w.heap.size w w' := by
 have hw := slWords h hm
 obtain ⟨A, c, rfl, _⟩ := h
 refine (int_Valid s hw).mono fun e w' h => ?_
 obtain ⟨rfl, hx⟩ := h
 refine ⟨?_, hx⟩
 congr 2
 unfold validB
 rw [tlen_trim, lenN_eq]
 have e1 : decide ((trimL xs).length = xs.length) = Nat.beq (trimL xs).length xs.length := by
  rw [Bool.eq_iff_iff, decide_eq_true_iff]
  exact ⟨fun h => by rw [h]; exact Nat.beq_refl _, Nat.eq_of_beq_eq_true⟩
 have e2 : decide (0 < xs.length) = bnot (Nat.beq xs.length 0) := by cases xs.length <;> rfl
 rw [e1, e2]
 cases Nat.beq (trimL xs).length xs.length <;> cases s <;> simp
theorem ev_Sign {w : World} {s : Bool} {v : Value} {xs : List Nat} (h : SlW w v xs) (hm : xs.length ≤ 1000) : Calls Tryz.prog 123 #[.agg #[.bool s, v]] w fun e w' => e = .returned (.int .i64 (signZ s (tlenK xs))) ∧ Below w.heap.size w w' := by
 have hw := slWords h hm
 obtain ⟨A, c, rfl, _⟩ := h
 refine (int_Sign s hw).mono fun e w' h => ?_
 obtain ⟨rfl, hx⟩ := h
 refine ⟨?_, hx⟩
 rw [tlen_trim]
 rfl
theorem ev_toUint {w : World} {v : Value} {xs : List Nat} (h : SlW w v xs) (hm : xs.length ≤ 2) : Calls Tryz.prog 180 #[v] w fun e w' => e = .returned (.int .u64 ((valN xs : Nat) : Int)) ∧ Below w.heap.size w w' := by
 have hw := slWords h (by omega)
 obtain ⟨A, c, rfl, _⟩ := h
 refine (int_toUint hw hm).mono fun e w' h => ?_
 obtain ⟨rfl, hx⟩ := h
 exact ⟨by rw [valN_val], hx⟩
-- new words
set_option maxHeartbeats 400000 in
theorem int_fromUintX (n : Nat) (hn : n < 18446744073709551616) (w : World) :
  Calls Tryz.prog 164 #[.int .u64 (n : Int)] w (Ret w fun v w' => OwnU w w' n v ∧ Words w' v (limbs n)) := by
 have hrow : Row (w.alloc (.cells #[.int .u32 ((n : Int) % 4294967296), .int .u32 ((n : Int) / 4294967296)] 118)) w.heap.size [n % 4294967296, n / 4294967296] := by
  unfold Row
  rw [heap_alloc_new]
  simp [wordVs]
 have hW := hrow.words (Limb.cons (by omega) (Limb.cons (by omega) Limb.nil)) (c := 2) (by simp) (by omega)
 have H := Lib.hid (int_trim hW)
 have T := Lib.hid hW.trim
 have HR := Lib.hid hrow
 have HN : Hid (uLen n = (limbs n).length) := uLen_limbs hn
 rw [limbs_two hn] at H T
 clear hrow hW
 go_enter Tryz.func164, Tryz.ntmps164
 go_wp2_with fail
 refine H.out.mono ?_
 rintro e w' ⟨rfl, rfl⟩
 go_wp2_with fail
 go_ret
 refine ⟨_, rfl, ⟨⟨w.heap.size, 118, Nat.le_refl _, ?_, by rw [HN.out]; rfl⟩, T.out⟩, (by repeat first|exact xA _|assumption|refine xB ?_ _|refine xC ?_|refine xD ?_ _|refine xE ?_ (by simp <;> omega) _|refine xF ?_ (by assumption))⟩
 have := HR.out
 unfold Row at this
 simpa [wordVs] using this
theorem ev_fromUint (w : World) (n : Nat) (hn : n < 18446744073709551616) : Calls Tryz.prog 164 #[.int .u64 (n : Int)] w fun e w' => Below w.heap.size w w' ∧ ∃ v, e = .returned v ∧ OwnU w w' n v :=
 (int_fromUintX n hn w).mono fun e w' h => by obtain ⟨v, rfl, ⟨h1, _⟩, hx⟩ := h; exact ⟨hx, v, rfl, h1⟩
end Go.Proofs.YtmddjbmelajadaaGreatDoor
