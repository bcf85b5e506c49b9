/- Plain arithmetic of long division, digit by digit (no program in sight). -/
namespace Go.Proofs.YtonleohlplkglaaGreatDoor

/-- The quotient of the highest parts is at least the quotient's digit. -/
theorem digit_upper {U V t h B q : Nat} (hU : U / B = t) (hV : h * B ≤ V) (hB : 0 < B) (hh : 0 < h) (hq : q * V ≤ U) : q ≤ t / h := by
  rw [Nat.le_div_iff_mul_le hh, ← hU, Nat.le_div_iff_mul_le hB]
  calc q * h * B = q * (h * B) := Nat.mul_assoc ..
    _ ≤ q * V := Nat.mul_le_mul_left _ hV
    _ ≤ U := hq

/-- A digit whose product with the divisor's highest part exceeds that of the dividend is too great. -/
theorem digit_too_great {U V U2 V2 B q d : Nat} (hU : U / B = U2) (hV : V2 * B ≤ V) (hB : 0 < B) (hq : q * V ≤ U) (h : U2 < d * V2) : q < d := by
  rcases Nat.lt_or_ge q d with h1 | h1
  · exact h1
  · exfalso
    have h2 : d * V2 ≤ U2 := by
      rw [← hU, Nat.le_div_iff_mul_le hB]
      calc d * V2 * B = d * (V2 * B) := Nat.mul_assoc ..
        _ ≤ d * V := Nat.mul_le_mul_left _ hV
        _ ≤ q * V := Nat.mul_le_mul_right _ h1
        _ ≤ U := hq
    omega

/-- A digit whose product with the divisor's highest part fits is at most one too great. -/
theorem digit_near {U V U2 V2 B q d C : Nat} (hU : U2 * B ≤ U) (hV : V < (V2 + 1) * B) (hd : d * B ≤ C) (hC : C ≤ V) (hq : U < (q + 1) * V) (h : d * V2 ≤ U2) : d ≤ q + 1 := by
  rcases Nat.lt_or_ge (q + 1) d with h1 | h1
  · exfalso
    have e1 : (q + 2) * V ≤ d * V := Nat.mul_le_mul_right _ h1
    have e2 : d * V ≤ d * ((V2 + 1) * B) := Nat.mul_le_mul_left _ (Nat.le_of_lt hV)
    have e3 : d * ((V2 + 1) * B) = d * V2 * B + d * B := by rw [Nat.add_mul, Nat.mul_add, Nat.one_mul, Nat.mul_assoc]
    have e4 : d * V2 * B ≤ U2 * B := Nat.mul_le_mul_right _ h
    have e5 : (q + 2) * V = (q + 1) * V + V := by rw [Nat.add_mul, Nat.add_mul]; omega
    omega
  · exact h1

/-- A digit that leaves at least the base as the rest of the highest parts is not too great. -/
theorem digit_low {U V t h B q d b : Nat} (hU : t * B ≤ U) (hV : V ≤ (h + 1) * B) (hd : d ≤ b) (hr : d * h + b ≤ t) (hq : U < (q + 1) * V) : d ≤ q := by
  rcases Nat.lt_or_ge q d with h1 | h1
  · exfalso
    have e1 : (q + 1) * V ≤ d * V := Nat.mul_le_mul_right _ h1
    have e2 : d * V ≤ d * ((h + 1) * B) := Nat.mul_le_mul_left _ hV
    have e3 : d * ((h + 1) * B) = (d * h + d) * B := by rw [← Nat.mul_assoc, Nat.mul_add, Nat.mul_one]
    have e4 : (d * h + d) * B ≤ t * B := Nat.mul_le_mul_right _ (by omega)
    omega
  · exact h1

end Go.Proofs.YtonleohlplkglaaGreatDoor
