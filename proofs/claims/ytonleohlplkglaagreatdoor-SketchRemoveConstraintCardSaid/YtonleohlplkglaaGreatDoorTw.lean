/- Contracts: letter, digit, word, IsName of the reference's layer 21. -/
import Derived.Test.YtonleohlplkglaaGreatDoorTv
namespace Go.Proofs.YtonleohlplkglaaGreatDoor
open Go Go.RowKit

def isLetter (z : Int) : Bool := decide (97 ≤ z) && decide (z ≤ 122) || decide (65 ≤ z) && decide (z ≤ 90)
def isDigit (z : Int) : Bool := decide (48 ≤ z) && decide (z ≤ 57)
def isWord (z : Int) : Bool := isLetter z || isDigit z || decide (z = 95)
def byteAt (s : ByteArray) (i : Nat) : Int := if h : i < s.size then (s[i].toNat : Int) else 0
theorem byteAt_eq {s : ByteArray} {i : Nat} (h : i < s.size) : (s[i].toNat : Int) = byteAt s i := by simp [byteAt, h]
/-- Where the letters, digits and underscores from a place on end. -/
def wordEnd (s : ByteArray) (i : Nat) : Nat := if h : i < s.size then if isWord (byteAt s i) then wordEnd s (i + 1) else i else i
termination_by s.size - i
def isName (s : ByteArray) : Bool := decide (s.size ≠ 0) && decide (s.size ≤ 24) && isLetter (byteAt s 0) && decide (wordEnd s 0 = s.size)

theorem ref21_digit (z : Int) (w : World) : Calls Tryz.prog 223 #[.int .u8 z] w fun e w' => e = .returned (.bool (isDigit z)) ∧ w = w' := by
  by_cases h1 : 48 ≤ z
  · have H : Hid (isDigit z = decide (z ≤ 57)) := by show _ = _; simp [isDigit, h1]
    go_enter Tryz.func223, Tryz.ntmps223
    go_wp2_with fail
    refine bodyPost_ret ?_ rfl ⟨by rw [H.out], rfl⟩
    simp [results, Tryz.results223, go_sem]
  · have H : Hid (isDigit z = false) := by show _ = _; simp [isDigit, h1]
    go_enter Tryz.func223, Tryz.ntmps223
    go_wp2_with fail
    refine bodyPost_ret ?_ rfl ⟨by rw [H.out], rfl⟩
    simp [results, Tryz.results223, go_sem]

theorem ref21_letter (z : Int) (w : World) : Calls Tryz.prog 222 #[.int .u8 z] w fun e w' => e = .returned (.bool (isLetter z)) ∧ w = w' := by
  by_cases h1 : 97 ≤ z <;> by_cases h2 : z ≤ 122 <;> by_cases h3 : 65 ≤ z <;> by_cases h4 : z ≤ 90 <;> try (exfalso; omega)
  all_goals
    have H : Hid (isLetter z = (decide (97 ≤ z) && decide (z ≤ 122) || decide (65 ≤ z) && decide (z ≤ 90))) := rfl
    simp only [h1, h2, h3, h4, decide_true, decide_false, Bool.and_self, Bool.and_true, Bool.and_false, Bool.or_true, Bool.or_false, Bool.or_self] at H
    go_enter Tryz.func222, Tryz.ntmps222
    go_wp2_with fail
    refine bodyPost_ret ?_ rfl ⟨by rw [H.out], rfl⟩
    simp [results, Tryz.results222, go_sem]

set_option maxHeartbeats 800000 in
theorem ref21_word {s : ByteArray} {w : World} (h0 : 0 < s.size) (h1 : s.size ≤ 24) : Calls Tryz.prog 210 #[.string s, .int .i64 0] w fun e w' => e = .returned (.int .i64 ((if isLetter (byteAt s 0) then wordEnd s 0 else 0 : Nat) : Int)) ∧ w = w' := by
  have hne : ((0 : Int) == (s.size : Int)) = false := by simp; omega
  have hb := byteAt_eq h0
  generalize (s[0].toNat : Int) = z at hb
  cases hL : isLetter (byteAt s 0) with
  | false =>
    have H := fun w => ref21_letter (s[0].toNat : Int) w
    rw [byteAt_eq h0, hL] at H
    have HL := Lib.hid H
    clear hL H hb
    rw [← byteAt_eq h0] at HL
    go_enter Tryz.func210, Tryz.ntmps210
    go_wp2_with fail
    refine (HL.out _).mono ?_
    rintro e w1 ⟨rfl, rfl⟩
    go_wp2_with fail
    refine bodyPost_ret ?_ rfl ⟨rfl, rfl⟩
    simp [results, Tryz.results210, go_sem]
  | true =>
    have H := fun w => ref21_letter (s[0].toNat : Int) w
    rw [byteAt_eq h0, hL] at H
    have HL := Lib.hid H
    clear hL H hb
    rw [← byteAt_eq h0] at HL
    go_enter Tryz.func210, Tryz.ntmps210
    go_wp2_with fail
    refine (HL.out _).mono ?_
    rintro e w1 ⟨rfl, rfl⟩
    go_wp2_with fail
    go_loopg [1] s.size (fun gk x wr => ∃ p : Nat, x = .int .i64 (p : Int) ∧ p + gk = s.size ∧ Hid (wordEnd s p = wordEnd s 0) ∧ wr = w)
    case atStart => exact ⟨0, rfl, by omega, rfl, rfl⟩
    case round =>
      obtain ⟨p, rfl, hp, HE, rfl⟩ := hrel
      by_cases hps : p < s.size
      · have H1 := Lib.hid (fun w => ref21_letter (s[p].toNat : Int) w)
        have H2 := Lib.hid (fun w => ref21_digit (s[p].toNat : Int) w)
        have hW : wordEnd s p = if isWord (byteAt s p) then wordEnd s (p + 1) else p := by rw [wordEnd, dif_pos hps]
        have hI : isWord (byteAt s p) = (isLetter (s[p].toNat : Int) || isDigit (s[p].toNat : Int) || decide ((s[p].toNat : Int) = 95)) := by rw [isWord, byteAt_eq hps]
        rw [hI] at hW
        have HW := Lib.hid hW
        clear hW hI
        go_wp2_with fail
        refine (H1.out _).mono ?_
        rintro e w1 ⟨rfl, rfl⟩
        cases hl : isLetter (s[p].toNat : Int) with
        | true =>
          have HE' : Hid (wordEnd s (p + 1) = wordEnd s 0) := by have := HW.out; rw [hl] at this; simp at this; exact this.symm.trans HE.out
          clear hl HW
          go_wp2_with fail
          go_roundg (gk - 1)
          case measure => omega
          case rel => exact ⟨p + 1, by simp, by omega, HE', rfl⟩
        | false =>
          rw [hl] at HW
          clear hl
          go_wp2_with fail
          refine (H2.out _).mono ?_
          rintro e w1 ⟨rfl, rfl⟩
          cases hl : isDigit (s[p].toNat : Int) with
          | true =>
            have HE' : Hid (wordEnd s (p + 1) = wordEnd s 0) := by have := HW.out; rw [hl] at this; simp at this; exact this.symm.trans HE.out
            clear hl HW
            go_wp2_with fail
            go_roundg (gk - 1)
            case measure => omega
            case rel => exact ⟨p + 1, by simp, by omega, HE', rfl⟩
          | false =>
            rw [hl] at HW
            clear hl
            by_cases h95 : (s[p].toNat : Int) = 95
            · have HE' : Hid (wordEnd s (p + 1) = wordEnd s 0) := by have := HW.out; rw [decide_eq_true h95] at this; simp at this; exact this.symm.trans HE.out
              clear HW
              have h95' : ((s[p].toNat : Int) == 95) = true := by simpa using h95
              clear h95
              go_wp2_with fail
              go_roundg (gk - 1)
              case measure => omega
              case rel => exact ⟨p + 1, by simp, by omega, HE', rfl⟩
            · have HE' : Hid (p = wordEnd s 0) := by have := HW.out; rw [decide_eq_false h95] at this; simp at this; exact this.symm.trans HE.out
              clear HW
              have h95' : ((s[p].toNat : Int) == 95) = false := by simpa using h95
              clear h95
              go_wp2_with fail
              refine bodyPost_ret (v := .int .i64 (p : Int)) ?_ rfl ⟨by rw [← HE'.out], rfl⟩
              simp [results, Tryz.results210, go_sem]
      · have HE' : Hid (p = wordEnd s 0) := by have := HE.out; rw [wordEnd, dif_neg hps] at this; exact this
        go_wp2_with fail
        refine bodyPost_ret (v := .int .i64 (p : Int)) ?_ rfl ⟨by rw [← HE'.out], rfl⟩
        simp [results, Tryz.results210, go_sem]

theorem ref21_IsName (s : ByteArray) (w : World) (hsz : s.size ≤ 1000000) : Calls Tryz.prog 192 #[.string s] w fun e w' => e = .returned (.bool (isName s)) ∧ w = w' := by
  by_cases h0 : s.size = 0
  · have HE : Hid (isName s = false) := by show _ = _; simp [isName, h0]
    have hse : s.toList.isEmpty = true := by rw [bytes_empty]; simpa using h0
    go_enter Tryz.func192, Tryz.ntmps192
    go_wp2_with fail
    refine bodyPost_ret ?_ rfl ⟨by rw [HE.out], rfl⟩
    simp [results, Tryz.results192, go_sem]
  · have hse : s.toList.isEmpty = false := by rw [bytes_empty]; simpa using h0
    by_cases h1 : s.size ≤ 24
    · have HW := Lib.hid (fun w => ref21_word (w := w) (by omega : 0 < s.size) h1)
      have hN : isName s = (((if isLetter (byteAt s 0) = true then wordEnd s 0 else 0 : Nat) : Int) == (s.size : Int)) := by
        cases hl : isLetter (byteAt s 0) with
        | true =>
          simp only [isName, hl, if_true, ne_eq, h0, not_false_eq_true, decide_true, Bool.true_and, h1]
          apply Bool.eq_iff_iff.2
          simp
          omega
        | false =>
          simp only [isName, hl, Bool.and_false, Bool.false_and, Bool.false_eq_true, if_false]
          symm
          simp
          omega
      have HN := Lib.hid hN
      clear hN
      generalize (if isLetter (byteAt s 0) = true then wordEnd s 0 else 0 : Nat) = z at *
      go_enter Tryz.func192, Tryz.ntmps192
      go_wp2_with fail
      refine (HW.out _).mono ?_
      rintro e w1 ⟨rfl, rfl⟩
      go_wp2_with fail
      refine bodyPost_ret (v := .bool ((z : Int) == (s.size : Int))) ?_ rfl ⟨by rw [HN.out], rfl⟩
      simp [results, Tryz.results192, go_sem]
    · have HE : Hid (isName s = false) := by show _ = _; simp [isName, h1]
      go_enter Tryz.func192, Tryz.ntmps192
      go_wp2_with fail
      refine bodyPost_ret ?_ rfl ⟨by rw [HE.out], rfl⟩
      simp [results, Tryz.results192, go_sem]

end Go.Proofs.YtonleohlplkglaaGreatDoor
