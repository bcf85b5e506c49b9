/- Plain arithmetic on lists of words to the base 2^32 (no program in sight). -/
namespace Go.Proofs.YtonleohlplkglaaGreatDoor

/-- The number that a list of words stands for, the lowest word first. -/
def val : List Nat → Nat
  | [] => 0
  | x :: xs => x + 4294967296 * val xs

/-- All words are below 2^32. -/
def Limb (xs : List Nat) : Prop := ∀ x ∈ xs, x < 4294967296

/-- A list without zeros at its end. -/
def trimL : List Nat → List Nat
  | [] => []
  | x :: xs => if trimL xs = [] ∧ x = 0 then [] else x :: trimL xs

/-- The words of a number, without zeros at the end. -/
def limbs (n : Nat) : List Nat := if h : n = 0 then [] else (n % 4294967296) :: limbs (n / 4294967296)
termination_by n
decreasing_by omega

theorem limbs_zero : limbs 0 = [] := by rw [limbs]; simp
theorem limbs_pos {n : Nat} (h : n ≠ 0) : limbs n = (n % 4294967296) :: limbs (n / 4294967296) := by rw [limbs]; simp [h]

theorem Limb.nil : Limb [] := by intro x hx; cases hx
theorem Limb.cons {x : Nat} {xs : List Nat} (h : x < 4294967296) (hs : Limb xs) : Limb (x :: xs) := by
  intro y hy
  rcases List.mem_cons.1 hy with rfl | hy
  · exact h
  · exact hs y hy
theorem Limb.head {x : Nat} {xs : List Nat} (h : Limb (x :: xs)) : x < 4294967296 := h x (List.mem_cons_self ..)
theorem Limb.tail {x : Nat} {xs : List Nat} (h : Limb (x :: xs)) : Limb xs := fun y hy => h y (List.mem_cons_of_mem _ hy)
theorem Limb.append {xs ys : List Nat} (h : Limb xs) (k : Limb ys) : Limb (xs ++ ys) := by
  intro y hy
  rcases List.mem_append.1 hy with hy | hy
  · exact h y hy
  · exact k y hy
theorem Limb.take {xs : List Nat} (h : Limb xs) (k : Nat) : Limb (xs.take k) := fun y hy => h y (List.mem_of_mem_take hy)
theorem Limb.drop {xs : List Nat} (h : Limb xs) (k : Nat) : Limb (xs.drop k) := fun y hy => h y (List.mem_of_mem_drop hy)
theorem Limb.get {xs : List Nat} (h : Limb xs) {k : Nat} (hk : k < xs.length) : xs[k] < 4294967296 := h _ (List.getElem_mem hk)
theorem Limb.getD {xs : List Nat} (h : Limb xs) (k : Nat) : xs.getD k 0 < 4294967296 := by
  by_cases hk : k < xs.length
  · rw [List.getD_eq_getElem?_getD, List.getElem?_eq_getElem hk]; exact h.get hk
  · rw [List.getD_eq_getElem?_getD, List.getElem?_eq_none (by omega)]; simp

theorem limb_limbs (n : Nat) : Limb (limbs n) := by
  induction n using Nat.strongRecOn with
  | _ n ih =>
    by_cases h : n = 0
    · subst h; rw [limbs_zero]; exact Limb.nil
    · rw [limbs_pos h]; exact Limb.cons (by omega) (ih _ (by omega))

theorem val_limbs (n : Nat) : val (limbs n) = n := by
  induction n using Nat.strongRecOn with
  | _ n ih =>
    by_cases h : n = 0
    · subst h; rw [limbs_zero]; rfl
    · rw [limbs_pos h, val, ih _ (by omega)]; omega

theorem val_trimL (xs : List Nat) : val (trimL xs) = val xs := by
  induction xs with
  | nil => rfl
  | cons x xs ih =>
    unfold trimL
    by_cases h : trimL xs = [] ∧ x = 0
    · rw [if_pos h]; rw [h.1] at ih; simp [val] at ih ⊢; omega
    · rw [if_neg h]; simp [val, ih]

theorem trimL_eq_limbs {xs : List Nat} (h : Limb xs) : trimL xs = limbs (val xs) := by
  induction xs with
  | nil => simp [trimL, val, limbs_zero]
  | cons x xs ih =>
    have hx := h.head
    have ih := ih h.tail
    unfold trimL
    by_cases hc : trimL xs = [] ∧ x = 0
    · rw [if_pos hc]
      have h0 : val xs = 0 := by have := val_trimL xs; rw [hc.1] at this; simp [val] at this; omega
      simp [val, h0, hc.2, limbs_zero]
    · rw [if_neg hc]
      have hn : val (x :: xs) ≠ 0 := by
        intro e
        apply hc
        simp only [val] at e
        have h0 : val xs = 0 := by omega
        exact ⟨by rw [ih, h0, limbs_zero], by omega⟩
      rw [limbs_pos hn, ih]
      have e1 : val (x :: xs) % 4294967296 = x := by simp only [val]; omega
      have e2 : val (x :: xs) / 4294967296 = val xs := by simp only [val]; omega
      rw [e1, e2]

theorem limbs_val_of_trim {xs : List Nat} (h : Limb xs) (ht : trimL xs = xs) : limbs (val xs) = xs := by rw [← trimL_eq_limbs h, ht]

theorem val_append (xs ys : List Nat) : val (xs ++ ys) = val xs + 4294967296 ^ xs.length * val ys := by
  induction xs with
  | nil => simp [val]
  | cons x xs ih => simp only [List.cons_append, val, ih, List.length_cons, Nat.pow_succ]; rw [Nat.mul_add, Nat.mul_comm (4294967296 ^ xs.length) 4294967296, Nat.mul_assoc]; omega

theorem val_lt {xs : List Nat} (h : Limb xs) : val xs < 4294967296 ^ xs.length := by
  induction xs with
  | nil => simp [val]
  | cons x xs ih =>
    have hx := h.head
    have ih := ih h.tail
    simp only [val, List.length_cons, Nat.pow_succ]
    have : 4294967296 * (val xs + 1) ≤ 4294967296 * 4294967296 ^ xs.length := Nat.mul_le_mul_left _ ih
    rw [Nat.mul_comm (4294967296 ^ xs.length)]
    omega

theorem trimL_length_le (xs : List Nat) : (trimL xs).length ≤ xs.length := by
  induction xs with
  | nil => simp [trimL]
  | cons x xs ih => unfold trimL; split <;> simp <;> omega

theorem limb_trimL {xs : List Nat} (h : Limb xs) : Limb (trimL xs) := by rw [trimL_eq_limbs h]; exact limb_limbs _

/-- One word at the end: a zero is dropped, anything else ends the list. -/
theorem trimL_snoc_zero (xs : List Nat) : trimL (xs ++ [0]) = trimL xs := by
  induction xs with
  | nil => simp [trimL]
  | cons x xs ih => simp only [List.cons_append, trimL, ih]
theorem trimL_snoc_pos (xs : List Nat) {x : Nat} (h : x ≠ 0) : trimL (xs ++ [x]) = xs ++ [x] := by
  induction xs with
  | nil => simp [trimL, h]
  | cons y xs ih => simp only [List.cons_append, trimL, ih]; simp

theorem trimL_cons_nil {x : Nat} {xs : List Nat} (h : trimL xs = [] ∧ x = 0) : trimL (x :: xs) = [] := by show (if trimL xs = [] ∧ x = 0 then [] else x :: trimL xs) = []; rw [if_pos h]
theorem trimL_cons {x : Nat} {xs : List Nat} (h : ¬ (trimL xs = [] ∧ x = 0)) : trimL (x :: xs) = x :: trimL xs := by show (if trimL xs = [] ∧ x = 0 then [] else x :: trimL xs) = _; rw [if_neg h]

theorem trimL_idem (xs : List Nat) : trimL (trimL xs) = trimL xs := by
  induction xs with
  | nil => rfl
  | cons x xs ih =>
    by_cases h : trimL xs = [] ∧ x = 0
    · rw [trimL_cons_nil h]; rfl
    · rw [trimL_cons h, trimL_cons (by rw [ih]; exact h), ih]

theorem trimL_prefix (xs : List Nat) : trimL xs = xs.take (trimL xs).length := by
  induction xs with
  | nil => rfl
  | cons x xs ih =>
    by_cases h : trimL xs = [] ∧ x = 0
    · rw [trimL_cons_nil h]; rfl
    · rw [trimL_cons h]; simp only [List.length_cons, List.take_succ_cons]; rw [← ih]

theorem trimL_limbs (n : Nat) : trimL (limbs n) = limbs n := by rw [trimL_eq_limbs (limb_limbs n), val_limbs]

theorem limbs_eq_nil {n : Nat} : limbs n = [] ↔ n = 0 := by
  constructor
  · intro h
    have := val_limbs n
    rw [h] at this
    simpa [val] using this.symm
  · intro h; rw [h, limbs_zero]

theorem limbs_inj {m n : Nat} (h : limbs m = limbs n) : m = n := by rw [← val_limbs m, h, val_limbs]

/-- The length of a trimmed list bounds the number from both sides. -/
theorem limbs_length_le {n k : Nat} (h : n < 4294967296 ^ k) : (limbs n).length ≤ k := by
  induction k generalizing n with
  | zero => have : n = 0 := by simpa using h
            rw [this, limbs_zero]; simp
  | succ k ih =>
    by_cases hn : n = 0
    · rw [hn, limbs_zero]; simp
    · rw [limbs_pos hn, List.length_cons]
      have : n / 4294967296 < 4294967296 ^ k := by
        rw [Nat.pow_succ, Nat.mul_comm] at h
        exact Nat.div_lt_of_lt_mul h
      have := ih this
      omega

theorem limbs_length_gt {n k : Nat} (h : 4294967296 ^ k ≤ n) : k < (limbs n).length := by
  induction k generalizing n with
  | zero =>
    have hn : n ≠ 0 := by
      intro e; rw [e] at h; simp at h
    rw [limbs_pos hn]; simp
  | succ k ih =>
    have hp : 0 < 4294967296 ^ k := Nat.pow_pos (by omega)
    have hn : n ≠ 0 := by
      intro e; rw [e] at h
      have := Nat.pow_pos (n := k + 1) (show 0 < 4294967296 by omega); omega
    rw [limbs_pos hn, List.length_cons]
    have : 4294967296 ^ k ≤ n / 4294967296 := by
      rw [Nat.le_div_iff_mul_le (by omega)]
      rw [Nat.pow_succ] at h; exact h
    have := ih this
    omega

theorem lt_of_limbs_length_lt {m n : Nat} (h : (limbs m).length < (limbs n).length) : m < n := by
  rcases Nat.lt_or_ge m n with h1 | h1
  · exact h1
  · exfalso
    by_cases hn : n = 0
    · rw [hn, limbs_zero] at h; simp at h
    · have h3 : 4294967296 ^ ((limbs n).length - 1) ≤ n := by
        rcases Nat.lt_or_ge n (4294967296 ^ ((limbs n).length - 1)) with h2 | h2
        · have := limbs_length_le h2
          omega
        · exact h2
      have := limbs_length_gt (Nat.le_trans h3 h1)
      omega

theorem take_snocD (xs : List Nat) {k : Nat} (hk : k < xs.length) : xs.take (k + 1) = xs.take k ++ [xs.getD k 0] := by
  rw [List.take_succ_eq_append_getElem hk, List.getD_eq_getElem?_getD, List.getElem?_eq_getElem hk]; rfl
theorem trim_step_zero {xs : List Nat} {k : Nat} (hk : k < xs.length) (h : xs.getD k 0 = 0) : trimL (xs.take (k + 1)) = trimL (xs.take k) := by
  rw [take_snocD xs hk, h, trimL_snoc_zero]
theorem trim_step_pos {xs : List Nat} {k : Nat} (hk : k < xs.length) (h : xs.getD k 0 ≠ 0) : (trimL (xs.take (k + 1))).length = k + 1 := by
  rw [take_snocD xs hk, trimL_snoc_pos _ h, List.length_append, List.length_take]; simp; omega
theorem val_take_succ (xs : List Nat) {k : Nat} (hk : k < xs.length) : val (xs.take (k + 1)) = val (xs.take k) + 4294967296 ^ k * xs.getD k 0 := by
  rw [take_snocD xs hk, val_append, List.length_take, Nat.min_eq_left (by omega)]; simp [val]

theorem val_drop (xs : List Nat) {j : Nat} (hj : j < xs.length) : val (xs.drop j) = xs.getD j 0 + 4294967296 * val (xs.drop (j + 1)) := by
  rw [List.drop_eq_getElem_cons hj, val, List.getD_eq_getElem?_getD, List.getElem?_eq_getElem hj]; rfl
theorem val_drop_lt {xs : List Nat} (h : Limb xs) (j : Nat) : val (xs.drop j) < 4294967296 ^ (xs.length - j) := by
  have := val_lt (h.drop j)
  rwa [List.length_drop] at this
theorem val_drop_lt1 {xs : List Nat} (h : Limb xs) {j : Nat} (hj : xs.length ≤ j + 1) : val (xs.drop j) < 4294967296 := by
  have := val_drop_lt h j
  have h2 : xs.length - j ≤ 1 := by omega
  rcases Nat.lt_or_ge (xs.length - j) 1 with h3 | h3
  · have h4 : xs.length - j = 0 := by omega
    rw [h4] at this; simp at this; omega
  · have h4 : xs.length - j = 1 := by omega
    rw [h4] at this; simpa using this

theorem drop_getD (xs : List Nat) {j : Nat} (hj : j < xs.length) : xs.drop j = xs.getD j 0 :: xs.drop (j + 1) := by
  rw [List.drop_eq_getElem_cons hj, List.getD_eq_getElem?_getD, List.getElem?_eq_getElem hj]; rfl
theorem val_split (xs : List Nat) (j : Nat) (hj : j ≤ xs.length) : val xs = val (xs.take j) + 4294967296 ^ j * val (xs.drop j) := by
  have := val_append (xs.take j) (xs.drop j)
  rw [List.take_append_drop, List.length_take, Nat.min_eq_left hj] at this
  exact this
/-- Lists of one length that agree above a place and differ there: the lower word there makes the lower number. -/
theorem val_lt_of_word {xs ys : List Nat} (hx : Limb xs) {j : Nat} (hl : xs.length = ys.length) (hj : j < xs.length) (hd : xs.drop (j + 1) = ys.drop (j + 1)) (hlt : xs.getD j 0 < ys.getD j 0) : val xs < val ys := by
  rw [val_split xs j (by omega), val_split ys j (by omega), val_drop xs hj, val_drop ys (by omega), hd]
  have h1 : val (xs.take j) < 4294967296 ^ j := by
    have := val_lt (hx.take j)
    rwa [List.length_take, Nat.min_eq_left (by omega)] at this
  have h2 : 4294967296 ^ j * (xs.getD j 0 + 1 + 4294967296 * val (ys.drop (j + 1))) ≤ 4294967296 ^ j * (ys.getD j 0 + 4294967296 * val (ys.drop (j + 1))) := Nat.mul_le_mul_left _ (by omega)
  have h3 : 4294967296 ^ j * (xs.getD j 0 + 1 + 4294967296 * val (ys.drop (j + 1))) = 4294967296 ^ j * (xs.getD j 0 + 4294967296 * val (ys.drop (j + 1))) + 4294967296 ^ j := by
    rw [show xs.getD j 0 + 1 + 4294967296 * val (ys.drop (j + 1)) = (xs.getD j 0 + 4294967296 * val (ys.drop (j + 1))) + 1 by omega, Nat.mul_add, Nat.mul_one]
  omega

/-- What comparing two lists comes to: first the lengths, then the numbers. -/
def cmpW (xs ys : List Nat) : Int := if xs.length < ys.length then -1 else if ys.length < xs.length then 1 else if val xs < val ys then -1 else if val ys < val xs then 1 else 0
theorem cmpW_short {xs ys : List Nat} (h : xs.length < ys.length) : cmpW xs ys = -1 := by unfold cmpW; rw [if_pos h]
theorem cmpW_long {xs ys : List Nat} (h : ys.length < xs.length) : cmpW xs ys = 1 := by unfold cmpW; rw [if_neg (by omega), if_pos h]
theorem cmpW_less {xs ys : List Nat} (hx : Limb xs) {j : Nat} (hl : xs.length = ys.length) (hj : j < xs.length) (hd : xs.drop (j + 1) = ys.drop (j + 1)) (hlt : xs.getD j 0 < ys.getD j 0) : cmpW xs ys = -1 := by
  have := val_lt_of_word hx hl hj hd hlt
  unfold cmpW; rw [if_neg (by omega), if_neg (by omega), if_pos this]
theorem cmpW_more {xs ys : List Nat} (hy : Limb ys) {j : Nat} (hl : xs.length = ys.length) (hj : j < xs.length) (hd : xs.drop (j + 1) = ys.drop (j + 1)) (hlt : ys.getD j 0 < xs.getD j 0) : cmpW xs ys = 1 := by
  have := val_lt_of_word hy hl.symm (by omega) hd.symm hlt
  unfold cmpW; rw [if_neg (by omega), if_neg (by omega), if_neg (by omega), if_pos this]
theorem cmpW_same (xs : List Nat) : cmpW xs xs = 0 := by unfold cmpW; simp
theorem cmpW_limbs (m n : Nat) : cmpW (limbs m) (limbs n) = if m < n then -1 else if n < m then 1 else 0 := by
  unfold cmpW
  rw [val_limbs, val_limbs]
  by_cases h1 : (limbs m).length < (limbs n).length
  · rw [if_pos h1, if_pos (lt_of_limbs_length_lt h1)]
  · rw [if_neg h1]
    by_cases h2 : (limbs n).length < (limbs m).length
    · have := lt_of_limbs_length_lt h2
      rw [if_pos h2, if_neg (by omega), if_pos this]
    · rw [if_neg h2]

end Go.Proofs.YtonleohlplkglaaGreatDoor
