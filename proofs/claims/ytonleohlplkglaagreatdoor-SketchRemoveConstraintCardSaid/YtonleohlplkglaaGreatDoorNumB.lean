/- Plain arithmetic: shifts, differences and products of lists of words, step by step. -/
import Derived.Test.YtonleohlplkglaaGreatDoorNum
namespace Go.Proofs.YtonleohlplkglaaGreatDoor

theorem val_set {xs : List Nat} {j : Nat} (hj : j < xs.length) (y : Nat) : val (xs.set j y) + 4294967296 ^ j * xs.getD j 0 = val xs + 4294967296 ^ j * y := by
  have e1 : (xs.set j y).take j = xs.take j := by rw [List.take_set_of_le (by omega)]
  have e2 : (xs.set j y).drop j = y :: xs.drop (j + 1) := by
    rw [drop_getD _ (by simp; omega), List.drop_set, if_pos (by omega)]
    congr 1
    rw [List.getD_eq_getElem?_getD, List.getElem?_set_self (by omega)]; rfl
  rw [val_split (xs.set j y) j (by simp; omega), e1, e2, val_split xs j (by omega), val_drop xs hj, val]
  rw [Nat.mul_add, Nat.mul_add]
  omega
theorem getD_set_self {xs : List Nat} {j : Nat} (hj : j < xs.length) (y : Nat) : (xs.set j y).getD j 0 = y := by
  rw [List.getD_eq_getElem?_getD, List.getElem?_set_self (by omega)]; rfl
theorem getD_set_ne {xs : List Nat} {i j : Nat} (h : i ≠ j) (y : Nat) : (xs.set i y).getD j 0 = xs.getD j 0 := by
  rw [List.getD_eq_getElem?_getD, List.getElem?_set_ne h, List.getD_eq_getElem?_getD]
theorem getD_replicate (n j : Nat) : (List.replicate n 0).getD j 0 = 0 := by
  rw [List.getD_eq_getElem?_getD, List.getElem?_replicate]; split <;> rfl
theorem val_replicate (n : Nat) : val (List.replicate n 0) = 0 := by
  induction n with
  | zero => rfl
  | succ n ih => rw [List.replicate_succ, val, ih]
theorem getD_take {xs : List Nat} {i j : Nat} (h : j < i) : (xs.take i).getD j 0 = xs.getD j 0 := by
  rw [List.getD_eq_getElem?_getD, List.getElem?_take, if_pos h, List.getD_eq_getElem?_getD]
theorem getD_of_le {xs : List Nat} {j : Nat} (h : xs.length ≤ j) : xs.getD j 0 = 0 := by
  rw [List.getD_eq_getElem?_getD, List.getElem?_eq_none h]; rfl

/-- The number of binary digits. -/
def blen (x : Nat) : Nat := if h : x = 0 then 0 else blen (x / 2) + 1
termination_by x
decreasing_by omega
theorem blen_zero : blen 0 = 0 := by rw [blen]; simp
theorem blen_pos {x : Nat} (h : x ≠ 0) : blen x = blen (x / 2) + 1 := by rw [blen]; simp [h]
theorem lt_two_pow_blen (x : Nat) : x < 2 ^ blen x := by
  induction x using Nat.strongRecOn with
  | _ x ih =>
    by_cases h : x = 0
    · rw [h, blen_zero]; simp
    · have := ih (x / 2) (by omega)
      rw [blen_pos h, Nat.pow_succ]; omega
theorem two_pow_blen_le {x : Nat} (h : x ≠ 0) : 2 ^ (blen x - 1) ≤ x := by
  induction x using Nat.strongRecOn with
  | _ x ih =>
    rw [blen_pos h, Nat.add_sub_cancel]
    by_cases h2 : x / 2 = 0
    · rw [h2, blen_zero]; simp; omega
    · have := ih (x / 2) (by omega) h2
      rw [blen_pos h2] at this ⊢
      rw [Nat.add_sub_cancel] at this
      rw [Nat.pow_succ]; omega
theorem blen_le {x k : Nat} (h : x < 2 ^ k) : blen x ≤ k := by
  by_cases h0 : x = 0
  · rw [h0, blen_zero]; omega
  · rcases Nat.lt_or_ge k (blen x) with h1 | h1
    · have h2 := two_pow_blen_le h0
      have h3 : 2 ^ k ≤ 2 ^ (blen x - 1) := Nat.pow_le_pow_right (by omega) (by omega)
      omega
    · exact h1

/-- 2^32 parts at s. -/
theorem two_pow_split {s : Nat} (hs : s ≤ 32) : 2 ^ s * 2 ^ (32 - s) = 4294967296 := by
  rw [← Nat.pow_add, show s + (32 - s) = 32 by omega]

/-- One word of a shift to the left: the carry that came in fills the low bits, the high ones go out. -/
theorem shl_step {x c s : Nat} (hs : s < 32) (hx : x < 4294967296) (hc : c < 2 ^ s) :
    c + (x * 2 ^ s) % 4294967296 < 4294967296 ∧ (x * 2 ^ s) / 4294967296 < 2 ^ s ∧ c + (x * 2 ^ s) % 4294967296 + 4294967296 * ((x * 2 ^ s) / 4294967296) = c + x * 2 ^ s := by
  have hp := two_pow_split (s := s) (by omega)
  have h0 : 0 < 2 ^ s := Nat.pow_pos (by omega)
  have e : (x * 2 ^ s) % 4294967296 = 2 ^ s * (x % 2 ^ (32 - s)) := by
    rw [← hp, Nat.mul_comm x, Nat.mul_mod_mul_left]
  have h1 : x % 2 ^ (32 - s) < 2 ^ (32 - s) := Nat.mod_lt _ (Nat.pow_pos (by omega))
  refine ⟨?_, ?_, by omega⟩
  · rw [e]
    have h2 : 2 ^ s * (x % 2 ^ (32 - s) + 1) ≤ 2 ^ s * 2 ^ (32 - s) := Nat.mul_le_mul_left _ h1
    rw [Nat.mul_add] at h2
    omega
  · apply Nat.div_lt_of_lt_mul
    rw [Nat.mul_comm 4294967296, Nat.mul_comm x]
    exact Nat.mul_lt_mul_of_pos_left hx h0
theorem shl_or {x c s : Nat} (hs : s < 32) (hc : c < 2 ^ s) : c ||| (x * 2 ^ s) % 4294967296 = c + (x * 2 ^ s) % 4294967296 := by
  have hp := two_pow_split (s := s) (by omega)
  have e : (x * 2 ^ s) % 4294967296 = 2 ^ s * (x % 2 ^ (32 - s)) := by
    rw [← hp, Nat.mul_comm x, Nat.mul_mod_mul_left]
  rw [e, Nat.or_comm, ← Nat.two_pow_add_eq_or_of_lt hc, Nat.add_comm]

/-- The words of a list divided by 2^s. -/
def backAt (xs : List Nat) (s j : Nat) : Nat := ((xs.getD j 0 + 4294967296 * xs.getD (j + 1) 0) / 2 ^ s) % 4294967296
def backL (s : Nat) : List Nat → List Nat
  | [] => []
  | x :: xs => ((x + 4294967296 * xs.getD 0 0) / 2 ^ s) % 4294967296 :: backL s xs
theorem backL_length (s : Nat) (xs : List Nat) : (backL s xs).length = xs.length := by
  induction xs with
  | nil => rfl
  | cons x xs ih => simp [backL, ih]
theorem backL_getD (s : Nat) (xs : List Nat) : ∀ j, j < xs.length → (backL s xs).getD j 0 = backAt xs s j := by
  induction xs with
  | nil => intro j h; simp at h
  | cons x xs ih =>
    intro j h
    cases j with
    | zero => simp [backL, backAt]
    | succ j =>
      have := ih j (by simpa using h)
      simp only [backL, List.getD_cons_succ, this, backAt]
theorem limb_backL (s : Nat) (xs : List Nat) : Limb (backL s xs) := by
  induction xs with
  | nil => exact Limb.nil
  | cons x xs ih => exact Limb.cons (Nat.mod_lt _ (by omega)) ih
theorem val_backL {s : Nat} (hs : s < 32) {xs : List Nat} (h : Limb xs) : val (backL s xs) = val xs / 2 ^ s := by
  have hp := two_pow_split (s := s) (by omega)
  have h0 : 0 < 2 ^ s := Nat.pow_pos (by omega)
  induction xs with
  | nil => simp [backL, val]
  | cons x xs ih =>
    have hx := h.head
    have ih := ih h.tail
    simp only [backL, val, ih]
    generalize hP : 2 ^ s = P at *
    generalize hQ : 2 ^ (32 - s) = Q at *
    have hQ0 : 0 < Q := by rw [← hQ]; exact Nat.pow_pos (by omega)
    have e1 : ∀ y, (x + 4294967296 * y) / P = x / P + Q * y := fun y => by
      rw [← hp, Nat.mul_assoc, Nat.add_mul_div_left _ _ h0]
    have hxP : x / P < Q := Nat.div_lt_of_lt_mul (by rw [hp]; exact hx)
    have e2 : (x / P + Q * xs.getD 0 0) % 4294967296 = x / P + Q * (xs.getD 0 0 % P) := by
      have e3 : Q * xs.getD 0 0 = 4294967296 * (xs.getD 0 0 / P) + Q * (xs.getD 0 0 % P) := by
        have h3 := Nat.div_add_mod (xs.getD 0 0) P
        generalize xs.getD 0 0 / P = A at *
        generalize xs.getD 0 0 % P = B at *
        rw [← h3, ← hp, Nat.mul_add, ← Nat.mul_assoc, Nat.mul_comm Q P]
      have h4 : Q * (xs.getD 0 0 % P) + Q ≤ 4294967296 := by
        have h5 : xs.getD 0 0 % P + 1 ≤ P := Nat.mod_lt _ h0
        have h6 := Nat.mul_le_mul_left Q h5
        rw [Nat.mul_add, Nat.mul_one, Nat.mul_comm Q P, hp] at h6
        exact h6
      rw [e3]
      generalize x / P = a at *
      generalize xs.getD 0 0 / P = g at *
      generalize Q * (xs.getD 0 0 % P) = i at *
      omega
    have e4 : val xs % P = xs.getD 0 0 % P := by
      cases xs with
      | nil => simp [val]
      | cons y ys => simp only [val, List.getD_cons_zero]; rw [← hp, Nat.mul_assoc, Nat.add_mul_mod_self_left]
    rw [e1, e1, e2, ← e4]
    have h3 := Nat.div_add_mod (val xs) P
    generalize val xs / P = A at *
    generalize val xs % P = B at *
    rw [← h3, ← hp, Nat.mul_add, ← Nat.mul_assoc, Nat.mul_comm Q P]
    omega

/-- Two lists of one length that agree at every place are one. -/
theorem ext_getD {xs ys : List Nat} (hl : xs.length = ys.length) (h : ∀ j, j < xs.length → xs.getD j 0 = ys.getD j 0) : xs = ys := by
  apply List.ext_getElem hl
  intro j h1 h2
  have := h j h1
  rwa [List.getD_eq_getElem?_getD, List.getElem?_eq_getElem h1, List.getD_eq_getElem?_getD, List.getElem?_eq_getElem h2] at this

theorem val_take_of_le {xs : List Nat} {k : Nat} (h : xs.length ≤ k) : val (xs.take k) = val xs := by rw [List.take_of_length_le h]
/-- The next word of a list, or 0 behind its end. -/
theorem val_take_next (ys : List Nat) (k : Nat) : val (ys.take (k + 1)) = val (ys.take k) + 4294967296 ^ k * ys.getD k 0 := by
  by_cases h : k < ys.length
  · exact val_take_succ ys h
  · rw [val_take_of_le (by omega), val_take_of_le (by omega), getD_of_le (by omega)]; omega
theorem limb_take_set {zs : List Nat} {k y : Nat} (hk : k < zs.length) : val ((zs.set k y).take (k + 1)) = val (zs.take k) + 4294967296 ^ k * y := by
  rw [val_take_next, getD_set_self hk, List.take_set_of_le (by omega)]

end Go.Proofs.YtonleohlplkglaaGreatDoor
