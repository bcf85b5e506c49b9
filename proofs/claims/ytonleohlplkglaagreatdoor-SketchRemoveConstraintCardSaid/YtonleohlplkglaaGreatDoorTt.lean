/- Contract: Decimal of the reference's layer 22. -/
import Derived.Test.YtonleohlplkglaaGreatDoorTs
namespace Go.Proofs.YtonleohlplkglaaGreatDoor
open Go Go.RowKit

def decLen (n p : Nat) : Nat := max (max 1 (ndig n)) (p + 1) + (if p = 0 then 0 else 1)
def decFrom : Nat → Nat → Nat → Nat → Bool
  | 0, _, _, _ => false
  | r + 1, p, n, d => if d = 1 then decide (decLen n p ≤ 40) else decFrom r (p + 1) (n * (10 / Nat.gcd 10 d)) (d / Nat.gcd 10 d)
def QI.dec (q : QI) : Bool := q.ok && decide (0 ≤ q.num.sgn) && decFrom 41 0 (val q.num.mag) (val q.den.mag)

theorem ndig_le {n k : Nat} (h : n < 10 ^ k) : ndig n ≤ k := by
  induction k generalizing n with
  | zero => have : n = 0 := by simpa using h
            subst this; rw [ndig_zero]; omega
  | succ k ih =>
    by_cases h0 : n = 0
    · subst h0; rw [ndig_zero]; omega
    · rw [ndig_pos h0]
      have : n / 10 < 10 ^ k := by rw [Nat.pow_succ] at h; omega
      have := ih this; omega
theorem ndig_limbs (n : Nat) : ndig n ≤ 10 * (limbs n).length := by
  apply ndig_le
  have h1 := val_lt (limb_limbs n)
  rw [val_limbs] at h1
  calc n < 4294967296 ^ (limbs n).length := h1
    _ ≤ (10 ^ 10) ^ (limbs n).length := Nat.pow_le_pow_left (by decide) _
    _ = 10 ^ (10 * (limbs n).length) := by rw [Nat.pow_mul]
theorem limbs_mul_small (n k : Nat) (hk : k < 4294967296) : (limbs (n * k)).length ≤ (limbs n).length + 1 := by
  apply limbs_length_le
  have h1 := val_lt (limb_limbs n)
  rw [val_limbs] at h1
  rw [Nat.pow_succ]
  exact Nat.mul_lt_mul'' h1 hk
theorem ten_div (d : Nat) : 0 < 10 / Nat.gcd 10 d ∧ 10 / Nat.gcd 10 d ≤ 10 := by
  have h1 := Nat.gcd_le_left d (show 0 < 10 by omega)
  have h2 := Nat.gcd_pos_of_pos_left d (show 0 < 10 by omega)
  exact ⟨Nat.div_pos h1 h2, Nat.div_le_self _ _⟩
theorem den_div {d : Nat} (hd : 0 < d) : 0 < d / Nat.gcd 10 d ∧ d / Nat.gcd 10 d ≤ d :=
  ⟨Nat.div_pos (Nat.gcd_le_right 10 hd) (Nat.gcd_pos_of_pos_right 10 hd), Nat.div_le_self _ _⟩

/-- ref02.Mul by 10. -/
theorem mul_ten {u v u' v' : Value} {a d : Nat} {w : World} (h1 : Words w u (limbs a)) (h2 : Words w v (limbs d)) (h3 : Words w u' (limbs 10)) (h4 : Words w v' (limbs 1)) (hd : 1 < d) (ha : 0 < a) (hl : (limbs a).length ≤ 100000) (hl' : (limbs d).length ≤ 100000) :
    Calls Tryz.prog 209 #[.agg #[.bool false, u, .bool false, v], .agg #[.bool false, u', .bool false, v']] w
      (Ret w fun r w' => ∃ u v, r = .agg #[.bool false, u, .bool false, v] ∧ Words w' u (limbs (a * (10 / Nat.gcd 10 d))) ∧ Words w' v (limbs (d / Nat.gcd 10 d))) := by
  obtain ⟨A1, c1, rfl, -, -⟩ := h1.form
  obtain ⟨A2, c2, rfl, -, -⟩ := h2.form
  obtain ⟨A3, c3, rfl, -, -⟩ := h3.form
  obtain ⟨A4, c4, rfl, -, -⟩ := h4.form
  have e1 : (limbs 10).length ≤ 100000 := by have := limbs_length_le (n := 10) (k := 1) (by omega); omega
  have e2 : (limbs 1).length ≤ 100000 := by have := limbs_length_le (n := 1) (k := 1) (by omega); omega
  have := ref02_Mul h1 h2 h3 h4 hd ha (by omega) hl hl' e1 e2
  simp only [Nat.gcd_one_right, Nat.div_one, Nat.mul_one] at this
  exact this

end Go.Proofs.YtonleohlplkglaaGreatDoor
