/- Plain arithmetic of long division on lists of words (no program in sight). -/
import Derived.Test.YtonleohlplkglaaGreatDoorNumB
import Derived.Test.YtonleohlplkglaaGreatDoorDiv
namespace Go.Proofs.YtonleohlplkglaaGreatDoor

theorem pow_pos' (k : Nat) : 0 < 4294967296 ^ k := Nat.pow_pos (by omega)

theorem val_ge_word (l : List Nat) (j : Nat) : 4294967296 ^ j * l.getD j 0 ≤ val l := by
  by_cases h : j < l.length
  · rw [val_split l j (by omega), val_drop l h, Nat.mul_add]; omega
  · rw [getD_of_le (by omega)]; omega
theorem zero_of_val_lt {l : List Nat} {m j : Nat} (h : val l < 4294967296 ^ m) (hj : m ≤ j) : l.getD j 0 = 0 := by
  rcases Nat.eq_zero_or_pos (l.getD j 0) with h0 | h0
  · exact h0
  · exfalso
    have h1 := val_ge_word l j
    have h2 : 4294967296 ^ m ≤ 4294967296 ^ j := Nat.pow_le_pow_right (by omega) hj
    have h3 : 4294967296 ^ j * 1 ≤ 4294967296 ^ j * l.getD j 0 := Nat.mul_le_mul_left _ h0
    omega
theorem val_zero {l : List Nat} (h : ∀ j, l.getD j 0 = 0) : val l = 0 := by
  induction l with
  | nil => rfl
  | cons x l ih =>
    have h0 := h 0
    simp only [List.getD_cons_zero] at h0
    rw [val, h0, ih fun j => by simpa using h (j + 1)]
theorem val_congr {l l' : List Nat} (h : ∀ j, l.getD j 0 = l'.getD j 0) : val l = val l' := by
  induction l generalizing l' with
  | nil => rw [val_zero (l := l') fun j => by rw [← h j]; rfl]; rfl
  | cons x l ih =>
    cases l' with
    | nil => rw [val_zero (l := x :: l) fun j => by rw [h j]; rfl]; rfl
    | cons y l' =>
      have h0 := h 0
      simp only [List.getD_cons_zero] at h0
      rw [val, val, h0, ih fun j => by simpa using h (j + 1)]
theorem getD_drop (l : List Nat) (i j : Nat) : (l.drop i).getD j 0 = l.getD (i + j) 0 := by
  rw [List.getD_eq_getElem?_getD, List.getElem?_drop, List.getD_eq_getElem?_getD]
theorem val_take_of_lt {l : List Nat} {m : Nat} (h : val l < 4294967296 ^ m) : val (l.take m) = val l := by
  apply val_congr
  intro j
  by_cases hj : j < m
  · exact getD_take hj
  · rw [zero_of_val_lt h (by omega), getD_of_le (by rw [List.length_take]; omega)]

/-- What the loop of a long division keeps, the digits from k on being done. -/
def DivInv (X V k : Nat) (xs qs : List Nat) : Prop := X = V * (4294967296 ^ k * val (qs.drop k)) + val xs ∧ val (xs.drop k) < V

theorem div_init {X V k n : Nat} {xs : List Nat} (hX : val xs = X) (hk : k ≤ xs.length) (h : X < 4294967296 ^ k * V) : DivInv X V k xs (List.replicate n 0) := by
  refine ⟨?_, ?_⟩
  · rw [List.drop_replicate, val_replicate, hX]; simp
  · rw [← hX, val_split xs k hk] at h
    apply Nat.lt_of_mul_lt_mul_left (a := 4294967296 ^ k)
    omega

theorem div_part_lt {X V i : Nat} {xs qs : List Nat} (hL : Limb xs) (hi : i < xs.length) (h : DivInv X V (i + 1) xs qs) : val (xs.drop i) < V * 4294967296 := by
  have h1 := h.2
  have h2 := hL.getD i
  rw [val_drop xs hi]
  have h3 : 4294967296 * (val (xs.drop (i + 1)) + 1) ≤ 4294967296 * V := Nat.mul_le_mul_left _ h1
  rw [Nat.mul_comm V]
  omega

theorem div_round {X V i : Nat} {xs qs us : List Nat} (h : DivInv X V (i + 1) xs qs) (hq : i < qs.length) (hi : i < xs.length) (hl : us.length = xs.length) (ht : us.take i = xs.take i)
    (hd : val (us.drop i) = val (xs.drop i) % V) (hV : 0 < V) : DivInv X V i us (qs.set i (val (xs.drop i) / V)) := by
  refine ⟨?_, by rw [hd]; exact Nat.mod_lt _ hV⟩
  have e1 : (qs.set i (val (xs.drop i) / V)).drop i = (val (xs.drop i) / V) :: qs.drop (i + 1) := by
    rw [drop_getD _ (by simp; omega), List.drop_set, if_pos (by omega), getD_set_self hq]
  rw [h.1, e1, val, val_split us i (by omega), ht, hd, val_split xs i (by omega), Nat.pow_succ]
  have h2 := Nat.div_add_mod (val (xs.drop i)) V
  generalize val (xs.drop i) / V = Q at *
  generalize val (xs.drop i) % V = R at *
  rw [← h2]
  generalize 4294967296 ^ i = B at *
  generalize val (qs.drop (i + 1)) = D at *
  simp only [Nat.mul_add]
  have e2 : V * (B * 4294967296 * D) = V * (B * (4294967296 * D)) := by rw [Nat.mul_assoc]
  have e3 : B * (V * Q) = V * (B * Q) := by rw [Nat.mul_left_comm]
  rw [e2, e3]
  omega

theorem div_end {X V : Nat} {xs qs : List Nat} (h : DivInv X V 0 xs qs) : val qs = X / V ∧ val xs = X % V := by
  obtain ⟨h1, h2⟩ := h
  simp only [List.drop_zero, Nat.pow_zero, Nat.one_mul] at h1 h2
  have hV : 0 < V := by omega
  rw [h1, Nat.mul_add_div hV, Nat.div_eq_of_lt h2, Nat.mul_add_mod, Nat.mod_eq_of_lt h2]
  exact ⟨by omega, rfl⟩

/-- The shift by which the divisor's highest bit is set. -/
theorem norm_shift {b m : Nat} (hm : (limbs b).length = m + 1) : ∃ s, s < 32 ∧ 32 * (m + 1) - (32 * m + blen ((limbs b).getD m 0)) = s ∧ blen ((limbs b).getD m 0) ≤ 32 ∧ 4294967296 ^ m * 2147483648 ≤ b * 2 ^ s ∧ b * 2 ^ s < 4294967296 ^ (m + 1) := by
  have hL := limb_limbs b
  have htop : (limbs b).getD m 0 ≠ 0 := by
    intro h0
    have h1 : val (limbs b) < 4294967296 ^ m := by
      rw [val_split (limbs b) m (by omega), val_drop (limbs b) (by omega), List.drop_of_length_le (by omega), h0]
      have := val_lt (hL.take m)
      rw [List.length_take, Nat.min_eq_left (by omega)] at this
      simpa [val] using this
    rw [val_limbs] at h1
    have := limbs_length_le h1
    omega
  have hlt := hL.getD m
  have e : b = val ((limbs b).take m) + 4294967296 ^ m * (limbs b).getD m 0 := by
    have := val_split (limbs b) m (by omega)
    rw [val_limbs, val_drop (limbs b) (by omega), List.drop_of_length_le (by omega)] at this
    simpa [val] using this
  have hlow : val ((limbs b).take m) < 4294967296 ^ m := by
    have := val_lt (hL.take m)
    rwa [List.length_take, Nat.min_eq_left (by omega)] at this
  generalize (limbs b).getD m 0 = t at *
  have h1 := lt_two_pow_blen t
  have h2 := two_pow_blen_le htop
  have h3 := blen_le (k := 32) (x := t) (by omega)
  have h4 : 1 ≤ blen t := by rw [blen_pos htop]; omega
  refine ⟨32 - blen t, by omega, by omega, h3, ?_, ?_⟩
  · have e2 : 2 ^ (blen t - 1) * 2 ^ (32 - blen t) = 2147483648 := by rw [← Nat.pow_add, show blen t - 1 + (32 - blen t) = 31 by omega]
    rw [e]
    calc 4294967296 ^ m * 2147483648 = 4294967296 ^ m * (2 ^ (blen t - 1) * 2 ^ (32 - blen t)) := by rw [e2]
      _ = (4294967296 ^ m * 2 ^ (blen t - 1)) * 2 ^ (32 - blen t) := by rw [Nat.mul_assoc]
      _ ≤ (4294967296 ^ m * t) * 2 ^ (32 - blen t) := Nat.mul_le_mul_right _ (Nat.mul_le_mul_left _ h2)
      _ ≤ _ := Nat.mul_le_mul_right _ (by omega)
  · have e2 : 2 ^ blen t * 2 ^ (32 - blen t) = 4294967296 := by rw [← Nat.pow_add, show blen t + (32 - blen t) = 32 by omega]
    have h5 : b < 4294967296 ^ m * 2 ^ blen t := by
      have : 4294967296 ^ m * (t + 1) ≤ 4294967296 ^ m * 2 ^ blen t := Nat.mul_le_mul_left _ h1
      rw [Nat.mul_add] at this
      omega
    calc b * 2 ^ (32 - blen t) < (4294967296 ^ m * 2 ^ blen t) * 2 ^ (32 - blen t) := Nat.mul_lt_mul_of_pos_right h5 (Nat.pow_pos (by omega))
      _ = 4294967296 ^ m * (2 ^ blen t * 2 ^ (32 - blen t)) := by rw [Nat.mul_assoc]
      _ = 4294967296 ^ (m + 1) := by rw [e2, Nat.pow_succ]

/-- At the start the dividend's part above the first digit is below the divisor. -/
theorem norm_start {a b m n s : Nat} (hn : (limbs a).length = n) (hmn : m + 1 ≤ n) (hs : s < 32) (hV : 4294967296 ^ m * 2147483648 ≤ b * 2 ^ s) : a * 2 ^ s < 4294967296 ^ (n - m) * (b * 2 ^ s) := by
  have h1 : a < 4294967296 ^ n := by
    have := val_lt (limb_limbs a)
    rwa [val_limbs, hn] at this
  have h2 : 2 ^ s ≤ 2 ^ 31 := Nat.pow_le_pow_right (by omega) (by omega)
  calc a * 2 ^ s < 4294967296 ^ n * 2 ^ s := Nat.mul_lt_mul_of_pos_right h1 (Nat.pow_pos (by omega))
    _ ≤ 4294967296 ^ n * 2147483648 := Nat.mul_le_mul_left _ (by omega)
    _ = 4294967296 ^ (n - m) * (4294967296 ^ m * 2147483648) := by rw [← Nat.mul_assoc, ← Nat.pow_add, show n - m + m = n by omega]
    _ ≤ _ := Nat.mul_le_mul_left _ hV

theorem limbs_length_eq {V m : Nat} (h1 : 4294967296 ^ m ≤ V) (h2 : V < 4294967296 ^ (m + 1)) : (limbs V).length = m + 1 := by
  have := limbs_length_le h2
  have := limbs_length_gt h1
  omega

end Go.Proofs.YtonleohlplkglaaGreatDoor
