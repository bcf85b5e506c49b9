/- Plain arithmetic on lists of words to the base 2^32 (no program in sight). -/
import Derived.Below
import Derived.Laws.OwnMore
import Derived.Deep.Draws
import Derived.WalkKit
import Derived.Outline
import Derived.Deep.QuietTactic
import Derived.BigQuiet
import Derived.Lib.Hide
import Derived.Deep.DeepCutAuto
import Derived.Deep.LoopGhost
import Derived.Test.YtceobmnljdhkmaaGreatDoorProg
import Derived.Laws.BitsAllLaws
import Derived.Laws.BitsLemmas
import Derived.Laws.MakeOwn
import Derived.Deep.RegionWith
namespace Go.Proofs.YtceobmnljdhkmaaGreatDoor
/-- The number that a list of words stands for, the lowest word first. -/
def val : List Nat → Nat
 | [] => 0
 | x :: xs => x + 4294967296 * val xs
/-- All words are below 2^32. -/
def Limb (xs : List Nat) : Prop := ∀ x ∈ xs, x < 4294967296
/-- A list without zeros at its end. -/
def trimL : List Nat → List Nat
 | [] => []
 | x :: xs => if trimL xs = [] ∧ x = 0 then [] else x :: trimL xs
/-- The words of a number, without zeros at the end. -/
def limbs (n : Nat) : List Nat := if h : n = 0 then [] else (n % 4294967296) :: limbs (n / 4294967296)
termination_by n
decreasing_by omega
theorem limbs_zero : limbs 0 = [] := by rw [limbs]; simp
theorem limbs_pos {n : Nat} (h : n ≠ 0) : limbs n = (n % 4294967296) :: limbs (n / 4294967296) := by rw [limbs]; simp [h]
theorem Limb.nil : Limb [] := by intro x hx; cases hx
theorem Limb.cons {x : Nat} {xs : List Nat} (h : x < 4294967296) (hs : Limb xs) : Limb (x :: xs) := by
 intro y hy
 rcases List.mem_cons.1 hy with rfl | hy
 ·exact h
 ·exact hs y hy
theorem Limb.head {x : Nat} {xs : List Nat} (h : Limb (x :: xs)) : x < 4294967296 := h x (List.mem_cons_self ..)
theorem Limb.tail {x : Nat} {xs : List Nat} (h : Limb (x :: xs)) : Limb xs := fun y hy => h y (List.mem_cons_of_mem _ hy)
theorem Limb.append {xs ys : List Nat} (h : Limb xs) (k : Limb ys) : Limb (xs ++ ys) := by
 intro y hy
 rcases List.mem_append.1 hy with hy | hy
 ·exact h y hy
 ·exact k y hy
theorem Limb.take {xs : List Nat} (h : Limb xs) (k : Nat) : Limb (xs.take k) := fun y hy => h y (List.mem_of_mem_take hy)
theorem Limb.drop {xs : List Nat} (h : Limb xs) (k : Nat) : Limb (xs.drop k) := fun y hy => h y (List.mem_of_mem_drop hy)
theorem Limb.get {xs : List Nat} (h : Limb xs) {k : Nat} (hk : k < xs.length) : xs[k] < 4294967296 := h _ (List.getElem_mem hk)
theorem Limb.getD {xs : List Nat} (h : Limb xs) (k : Nat) : xs.getD k 0 < 4294967296 := by
 by_cases hk : k < xs.length
 ·rw [List.getD_eq_getElem?_getD, List.getElem?_eq_getElem hk]; exact h.get hk
 ·rw [List.getD_eq_getElem?_getD, List.getElem?_eq_none (by omega)]; simp
theorem limb_limbs (n : Nat) : Limb (limbs n) := by
 induction n using Nat.strongRecOn with
 | _ n ih =>
  by_cases h : n = 0
  ·subst h; rw [limbs_zero]; exact Limb.nil
  ·rw [limbs_pos h]; exact Limb.cons (by omega) (ih _ (by omega))
theorem val_limbs (n : Nat) : val (limbs n) = n := by
 induction n using Nat.strongRecOn with
 | _ n ih =>
  by_cases h : n = 0
  ·subst h; rw [limbs_zero]; rfl
  ·rw [limbs_pos h, val, ih _ (by omega)]; omega
theorem val_trimL (xs : List Nat) : val (trimL xs) = val xs := by
 induction xs with
 | nil => rfl
 | cons x xs ih =>
  unfold trimL
  by_cases h : trimL xs = [] ∧ x = 0
  ·rw [if_pos h]; rw [h.1] at ih; simp [val] at ih ⊢; omega
  ·rw [if_neg h]; simp [val, ih]
theorem trimL_eq_limbs {xs : List Nat} (h : Limb xs) : trimL xs = limbs (val xs) := by
 induction xs with
 | nil => simp [trimL, val, limbs_zero]
 | cons x xs ih =>
  have hx := h.head
  have ih := ih h.tail
  unfold trimL
  by_cases hc : trimL xs = [] ∧ x = 0
  ·rw [if_pos hc]
   have h0 : val xs = 0 := by have := val_trimL xs; rw [hc.1] at this; simp [val] at this; omega
   simp [val, h0, hc.2, limbs_zero]
  ·rw [if_neg hc]
   have hn : val (x :: xs) ≠ 0 := by
    intro e
    apply hc
    simp only [val] at e
    have h0 : val xs = 0 := by omega
    exact ⟨by rw [ih, h0, limbs_zero], by omega⟩
   rw [limbs_pos hn, ih]
   have e1 : val (x :: xs) % 4294967296 = x := by simp only [val]; omega
   have e2 : val (x :: xs) / 4294967296 = val xs := by simp only [val]; omega
   rw [e1, e2]
theorem limbs_val_of_trim {xs : List Nat} (h : Limb xs) (ht : trimL xs = xs) : limbs (val xs) = xs := by rw [← trimL_eq_limbs h, ht]
theorem val_append (xs ys : List Nat) : val (xs ++ ys) = val xs + 4294967296 ^ xs.length * val ys := by
 induction xs with
 | nil => simp [val]
 | cons x xs ih => simp only [List.cons_append, val, ih, List.length_cons, Nat.pow_succ]; rw [Nat.mul_add, Nat.mul_comm (4294967296 ^ xs.length) 4294967296, Nat.mul_assoc]; omega
theorem val_lt {xs : List Nat} (h : Limb xs) : val xs < 4294967296 ^ xs.length := by
 induction xs with
 | nil => simp [val]
 | cons x xs ih =>
  have hx := h.head
  have ih := ih h.tail
  simp only [val, List.length_cons, Nat.pow_succ]
  have : 4294967296 * (val xs + 1) ≤ 4294967296 * 4294967296 ^ xs.length := Nat.mul_le_mul_left _ ih
  rw [Nat.mul_comm (4294967296 ^ xs.length)]
  omega
theorem trimL_length_le (xs : List Nat) : (trimL xs).length ≤ xs.length := by
 induction xs with
 | nil => simp [trimL]
 | cons x xs ih => unfold trimL; split <;> simp <;> omega
theorem limb_trimL {xs : List Nat} (h : Limb xs) : Limb (trimL xs) := by rw [trimL_eq_limbs h]; exact limb_limbs _
/-- One word at the end: a zero is dropped, anything else ends the list. -/
theorem trimL_snoc_zero (xs : List Nat) : trimL (xs ++ [0]) = trimL xs := by
 induction xs with
 | nil => simp [trimL]
 | cons x xs ih => simp only [List.cons_append, trimL, ih]
theorem trimL_snoc_pos (xs : List Nat) {x : Nat} (h : x ≠ 0) : trimL (xs ++ [x]) = xs ++ [x] := by
 induction xs with
 | nil => simp [trimL, h]
 | cons y xs ih => simp only [List.cons_append, trimL, ih]; simp
theorem trimL_cons_nil {x : Nat} {xs : List Nat} (h : trimL xs = [] ∧ x = 0) : trimL (x :: xs) = [] := by show (if trimL xs = [] ∧ x = 0 then [] else x :: trimL xs) = []; rw [if_pos h]
theorem trimL_cons {x : Nat} {xs : List Nat} (h : ¬ (trimL xs = [] ∧ x = 0)) : trimL (x :: xs) = x :: trimL xs := by show (if trimL xs = [] ∧ x = 0 then [] else x :: trimL xs) = _; rw [if_neg h]
theorem trimL_prefix (xs : List Nat) : trimL xs = xs.take (trimL xs).length := by
 induction xs with
 | nil => rfl
 | cons x xs ih =>
  by_cases h : trimL xs = [] ∧ x = 0
  ·rw [trimL_cons_nil h]; rfl
  ·rw [trimL_cons h]; simp only [List.length_cons, List.take_succ_cons]; rw [← ih]
theorem trimL_limbs (n : Nat) : trimL (limbs n) = limbs n := by rw [trimL_eq_limbs (limb_limbs n), val_limbs]
theorem limbs_eq_nil {n : Nat} : limbs n = [] ↔ n = 0 := by
 constructor
 ·intro h
  have := val_limbs n
  rw [h] at this
  simpa [val] using this.symm
 ·intro h; rw [h, limbs_zero]
/-- The length of a trimmed list bounds the number from both sides. -/
theorem limbs_length_le {n k : Nat} (h : n < 4294967296 ^ k) : (limbs n).length ≤ k := by
 induction k generalizing n with
 | zero => have : n = 0 := by simpa using h
           rw [this, limbs_zero]; simp
 | succ k ih =>
  by_cases hn : n = 0
  ·rw [hn, limbs_zero]; simp
  ·rw [limbs_pos hn, List.length_cons]
   have : n / 4294967296 < 4294967296 ^ k := by
    rw [Nat.pow_succ, Nat.mul_comm] at h
    exact Nat.div_lt_of_lt_mul h
   have := ih this
   omega
theorem limbs_length_gt {n k : Nat} (h : 4294967296 ^ k ≤ n) : k < (limbs n).length := by
 induction k generalizing n with
 | zero =>
  have hn : n ≠ 0 := by
   intro e; rw [e] at h; simp at h
  rw [limbs_pos hn]; simp
 | succ k ih =>
  have hp : 0 < 4294967296 ^ k := Nat.pow_pos (by omega)
  have hn : n ≠ 0 := by
   intro e; rw [e] at h
   have := Nat.pow_pos (n := k + 1) (show 0 < 4294967296 by omega); omega
  rw [limbs_pos hn, List.length_cons]
  have : 4294967296 ^ k ≤ n / 4294967296 := by
   rw [Nat.le_div_iff_mul_le (by omega)]
   rw [Nat.pow_succ] at h; exact h
  have := ih this
  omega
theorem lt_of_limbs_length_lt {m n : Nat} (h : (limbs m).length < (limbs n).length) : m < n := by
 rcases Nat.lt_or_ge m n with h1 | h1
 ·exact h1
 ·exfalso
  by_cases hn : n = 0
  ·rw [hn, limbs_zero] at h; simp at h
  ·have h3 : 4294967296 ^ ((limbs n).length - 1) ≤ n := by
    rcases Nat.lt_or_ge n (4294967296 ^ ((limbs n).length - 1)) with h2 | h2
    ·have := limbs_length_le h2
     omega
    ·exact h2
   have := limbs_length_gt (Nat.le_trans h3 h1)
   omega
theorem take_snocD (xs : List Nat) {k : Nat} (hk : k < xs.length) : xs.take (k + 1) = xs.take k ++ [xs.getD k 0] := by
 rw [List.take_succ_eq_append_getElem hk, List.getD_eq_getElem?_getD, List.getElem?_eq_getElem hk]; rfl
theorem trim_step_zero {xs : List Nat} {k : Nat} (hk : k < xs.length) (h : xs.getD k 0 = 0) : trimL (xs.take (k + 1)) = trimL (xs.take k) := by
 rw [take_snocD xs hk, h, trimL_snoc_zero]
theorem trim_step_pos {xs : List Nat} {k : Nat} (hk : k < xs.length) (h : xs.getD k 0 ≠ 0) : (trimL (xs.take (k + 1))).length = k + 1 := by
 rw [take_snocD xs hk, trimL_snoc_pos _ h, List.length_append, List.length_take]; simp; omega
theorem val_take_succ (xs : List Nat) {k : Nat} (hk : k < xs.length) : val (xs.take (k + 1)) = val (xs.take k) + 4294967296 ^ k * xs.getD k 0 := by
 rw [take_snocD xs hk, val_append, List.length_take, Nat.min_eq_left (by omega)]; simp [val]
theorem val_drop (xs : List Nat) {j : Nat} (hj : j < xs.length) : val (xs.drop j) = xs.getD j 0 + 4294967296 * val (xs.drop (j + 1)) := by
 rw [List.drop_eq_getElem_cons hj, val, List.getD_eq_getElem?_getD, List.getElem?_eq_getElem hj]; rfl
theorem val_drop_lt {xs : List Nat} (h : Limb xs) (j : Nat) : val (xs.drop j) < 4294967296 ^ (xs.length - j) := by
 have := val_lt (h.drop j)
 rwa [List.length_drop] at this
theorem val_drop_lt1 {xs : List Nat} (h : Limb xs) {j : Nat} (hj : xs.length ≤ j + 1) : val (xs.drop j) < 4294967296 := by
 have := val_drop_lt h j
 have h2 : xs.length - j ≤ 1 := by omega
 rcases Nat.lt_or_ge (xs.length - j) 1 with h3 | h3
 ·have h4 : xs.length - j = 0 := by omega
  rw [h4] at this; simp at this; omega
 ·have h4 : xs.length - j = 1 := by omega
  rw [h4] at this; simpa using this
theorem drop_getD (xs : List Nat) {j : Nat} (hj : j < xs.length) : xs.drop j = xs.getD j 0 :: xs.drop (j + 1) := by
 rw [List.drop_eq_getElem_cons hj, List.getD_eq_getElem?_getD, List.getElem?_eq_getElem hj]; rfl
theorem val_split (xs : List Nat) (j : Nat) (hj : j ≤ xs.length) : val xs = val (xs.take j) + 4294967296 ^ j * val (xs.drop j) := by
 have := val_append (xs.take j) (xs.drop j)
 rw [List.take_append_drop, List.length_take, Nat.min_eq_left hj] at this
 exact this
/-- Lists of one length that agree above a place and differ there: the lower word there makes the lower number. -/
theorem val_lt_of_word {xs ys : List Nat} (hx : Limb xs) {j : Nat} (hl : xs.length = ys.length) (hj : j < xs.length) (hd : xs.drop (j + 1) = ys.drop (j + 1)) (hlt : xs.getD j 0 < ys.getD j 0) : val xs < val ys := by
 rw [val_split xs j (by omega), val_split ys j (by omega), val_drop xs hj, val_drop ys (by omega), hd]
 have h1 : val (xs.take j) < 4294967296 ^ j := by
  have := val_lt (hx.take j)
  rwa [List.length_take, Nat.min_eq_left (by omega)] at this
 have h2 : 4294967296 ^ j * (xs.getD j 0 + 1 + 4294967296 * val (ys.drop (j + 1))) ≤ 4294967296 ^ j * (ys.getD j 0 + 4294967296 * val (ys.drop (j + 1))) := Nat.mul_le_mul_left _ (by omega)
 have h3 : 4294967296 ^ j * (xs.getD j 0 + 1 + 4294967296 * val (ys.drop (j + 1))) = 4294967296 ^ j * (xs.getD j 0 + 4294967296 * val (ys.drop (j + 1))) + 4294967296 ^ j := by
  rw [show xs.getD j 0 + 1 + 4294967296 * val (ys.drop (j + 1)) = (xs.getD j 0 + 4294967296 * val (ys.drop (j + 1))) + 1 by omega, Nat.mul_add, Nat.mul_one]
 omega
/-- What comparing two lists comes to: first the lengths, then the numbers. -/
def cmpW (xs ys : List Nat) : Int := if xs.length < ys.length then -1 else if ys.length < xs.length then 1 else if val xs < val ys then -1 else if val ys < val xs then 1 else 0
theorem cmpW_short {xs ys : List Nat} (h : xs.length < ys.length) : cmpW xs ys = -1 := by unfold cmpW; rw [if_pos h]
theorem cmpW_long {xs ys : List Nat} (h : ys.length < xs.length) : cmpW xs ys = 1 := by unfold cmpW; rw [if_neg (by omega), if_pos h]
theorem cmpW_less {xs ys : List Nat} (hx : Limb xs) {j : Nat} (hl : xs.length = ys.length) (hj : j < xs.length) (hd : xs.drop (j + 1) = ys.drop (j + 1)) (hlt : xs.getD j 0 < ys.getD j 0) : cmpW xs ys = -1 := by
 have := val_lt_of_word hx hl hj hd hlt
 unfold cmpW; rw [if_neg (by omega), if_neg (by omega), if_pos this]
theorem cmpW_more {xs ys : List Nat} (hy : Limb ys) {j : Nat} (hl : xs.length = ys.length) (hj : j < xs.length) (hd : xs.drop (j + 1) = ys.drop (j + 1)) (hlt : ys.getD j 0 < xs.getD j 0) : cmpW xs ys = 1 := by
 have := val_lt_of_word hy hl.symm (by omega) hd.symm hlt
 unfold cmpW; rw [if_neg (by omega), if_neg (by omega), if_neg (by omega), if_pos this]
theorem cmpW_same (xs : List Nat) : cmpW xs xs = 0 := by unfold cmpW; simp
theorem cmpW_limbs (m n : Nat) : cmpW (limbs m) (limbs n) = if m < n then -1 else if n < m then 1 else 0 := by
 unfold cmpW
 rw [val_limbs, val_limbs]
 by_cases h1 : (limbs m).length < (limbs n).length
 ·rw [if_pos h1, if_pos (lt_of_limbs_length_lt h1)]
 ·rw [if_neg h1]
  by_cases h2 : (limbs n).length < (limbs m).length
  ·have := lt_of_limbs_length_lt h2
   rw [if_pos h2, if_neg (by omega), if_pos this]
  ·rw [if_neg h2]
end Go.Proofs.YtceobmnljdhkmaaGreatDoor
namespace Go.Proofs.YtceobmnljdhkmaaGreatDoor
open Go Go.RowKit
/-- The call returned a value of which R holds, and nothing that was there has changed. -/
def Ret (w : World) (R : Value → World → Prop) (e : Ending) (w' : World) : Prop := ∃ v, e = .returned v ∧ R v w' ∧ Below w.heap.size w w'
/-- Everything that was there is still there. -/
abbrev Ext (w w' : World) : Prop := Below w.heap.size w w'
theorem Ext.refl (w : World) : Ext w w := Below.refl _ _
theorem Ext.trans {a b c : World} (h : Ext a b) (k : Ext b c) : Ext a c := Below.trans h (k.mono h.size)
theorem Ext.drew (w : World) : Ext w w.drew := (Below.refl _ _).drew
theorem Ext.drewN (w : World) (n : Nat) : Ext w (w.drewN n) := ⟨rfl, rfl, rfl, Nat.le_refl _, fun _ _ => rfl⟩
theorem Ext.alloc (w : World) (o : Obj) : Ext w (w.alloc o) := (Below.refl _ _).alloc (Nat.le_refl _) o
theorem Ext.grown {w w' : World} (h : w.grownBy w' none) : Ext w w' := ⟨h.os, h.tape, h.output, h.size, fun k hk => h.block k hk (by simp)⟩
theorem Ext.pdrew {w a : World} (h : Ext w a) : Ext w a.drew := h.trans (Ext.drew a)
theorem Ext.pdrewN {w a : World} (h : Ext w a) (n : Nat) : Ext w (a.drewN n) := h.trans (Ext.drewN a n)
theorem Ext.palloc {w a : World} (h : Ext w a) (o : Obj) : Ext w (a.alloc o) := h.trans (Ext.alloc a o)
theorem Ext.pset {w a : World} (h : Ext w a) {p : Addr} (hp : w.heap.size ≤ p.block) (u : Value) : Ext w (a.setCell p u) := Below.setCell h hp u
theorem Ext.cell {w w' : World} (h : Ext w w') {p : Addr} (hp : p.block < w.heap.size) : w'.cell? p = w.cell? p := Below.cell h hp
theorem Below.heap_new (w : World) (o : Obj) : (w.alloc o).heap[w.heap.size]? = some o := by
 show (w.heap.push o)[w.heap.size]? = _
 simp
/-- A slice of elements of 'sz' cells each: it lies in one block, and each element's cells read by R. -/
def SliceAt {α : Type} (sz : Nat) (R : World → List Value → α → Prop) (w : World) (v : Value) (xs : List α) : Prop :=
 ∃ (A : Option Addr) (c : Nat), v = .slice A xs.length c ∧ xs.length ≤ c ∧ c ≤ maxLen ∧
  (xs ≠ [] → ∃ b off : Nat, A = some ⟨b, off, none⟩ ∧ b < w.heap.size ∧
   ∀ k x, xs[k]? = some x → ∃ cs : List Value, cs.length = sz ∧ (∀ j u, cs[j]? = some u → w.cell? ⟨b, off + (k * sz + j), none⟩ = some u) ∧ R w cs x)
/-- What R says is kept by whatever changes no block that was there. -/
def Stable {α : Type} (R : World → List Value → α → Prop) : Prop := ∀ w w' cs x, Ext w w' → R w cs x → R w' cs x
theorem SliceAt.ext {α : Type} {sz : Nat} {R : World → List Value → α → Prop} (hR : Stable R) {w w' : World} {v : Value} {xs : List α} (h : SliceAt sz R w v xs) (hx : Ext w w') : SliceAt sz R w' v xs := by
 obtain ⟨A, c, hv, hl, hm, hc⟩ := h
 refine ⟨A, c, hv, hl, hm, fun hne => ?_⟩
 obtain ⟨b, off, hA, hb, hk⟩ := hc hne
 refine ⟨b, off, hA, Nat.lt_of_lt_of_le hb hx.size, fun k x hkx => ?_⟩
 obtain ⟨cs, hcs, hcell, hr⟩ := hk k x hkx
 exact ⟨cs, hcs, fun j u hj => (hx.cell (p := ⟨b, off + (k * sz + j), none⟩) hb).trans (hcell j u hj), hR _ _ _ _ hx hr⟩
/-- One word. -/
def WordR (_ : World) (cs : List Value) (x : Nat) : Prop := cs = [.int .u32 (x : Int)] ∧ x < 4294967296
theorem WordR.stable : Stable WordR := fun _ _ _ _ _ h => h
/-- A slice of words. -/
def Words (w : World) (v : Value) (xs : List Nat) : Prop :=
 ∃ (A : Option Addr) (c : Nat), v = .slice A xs.length c ∧ xs.length ≤ c ∧ xs.length ≤ 35184372088832 ∧ Limb xs ∧
  (0 < xs.length → ∃ b off : Nat, A = some ⟨b, off, none⟩ ∧ b < w.heap.size ∧ ∀ k, k < xs.length → w.cell? ⟨b, off + k, none⟩ = some (.int .u32 ((xs.getD k 0 : Nat) : Int)))
theorem Words.ext {w w' : World} {v : Value} {xs : List Nat} (h : Words w v xs) (hx : Ext w w') : Words w' v xs := by
 obtain ⟨A, c, hv, hl, hm, hL, hc⟩ := h
 refine ⟨A, c, hv, hl, hm, hL, fun hne => ?_⟩
 obtain ⟨b, off, hA, hb, hk⟩ := hc hne
 exact ⟨b, off, hA, Nat.lt_of_lt_of_le hb hx.size, fun k hkx => (hx.cell (p := ⟨b, off + k, none⟩) hb).trans (hk k hkx)⟩
theorem Words.limb {w : World} {v : Value} {xs : List Nat} (h : Words w v xs) : Limb xs := by
 obtain ⟨_, _, _, _, _, hL, _⟩ := h; exact hL
theorem Words.nil (w : World) : Words w (.slice none 0 0) [] := ⟨none, 0, rfl, Nat.le_refl _, by simp, Limb.nil, fun h => by simp at h⟩
/-- A slice whose array lies in no block below B. -/
def FreshV (B : Nat) (v : Value) : Prop := ∀ a n c, v = .slice (some a) n c → B ≤ a.block
theorem FreshV.mono {B B' : Nat} {v : Value} (h : FreshV B v) (hB : B' ≤ B) : FreshV B' v := fun a n c e => Nat.le_trans hB (h a n c e)
theorem FreshV.mk (B : Nat) {g off n c : Nat} (h : B ≤ g) : FreshV B (.slice (some ⟨g, off, none⟩) n c) := fun a n' c' e => by injection e with e1 _ _; injection e1 with e1; rw [← e1]; exact h
/-- The values of a list of words. -/
def wordVs (xs : List Nat) : List Value := xs.map fun (x : Nat) => Value.int .u32 (x : Int)
/-- A block of the call's own that holds just these words. -/
def Row (w : World) (g : Nat) (xs : List Nat) : Prop := w.heap[g]? = some (.cells (wordVs xs).toArray 164 (0, 0))
section
variable {w w' : World} {g : Nat} {xs : List Nat}
theorem Row.lt (h : Row w g xs) : g < w.heap.size := by
 rcases Nat.lt_or_ge g w.heap.size with hlt | hge
 ·exact hlt
 ·unfold Row at h; rw [Array.getElem?_eq_none hge] at h; cases h
theorem Row.cell (h : Row w g xs) {k : Nat} (hk : k < xs.length) : w.cell? ⟨g, k, none⟩ = some (.int .u32 ((xs.getD k 0 : Nat) : Int)) := by
 unfold Row at h
 simp only [World.cell?, h, Option.isSome_none, Bool.false_eq_true, if_false]
 simp [wordVs, List.getElem?_eq_getElem hk]
theorem Row.frozen (h : Row w g xs) (k : Nat) : w.frozen? ⟨g, k, none⟩ = false := by
 unfold Row at h
 simp [World.frozen?, h]
theorem Row.alloc (h : Row w g xs) (o : Obj) : Row (w.alloc o) g xs := (Below.heap_alloc w o g h.lt).trans h
theorem Row.drewN (h : Row w g xs) (n : Nat) : Row (w.drewN n) g xs := h
theorem Row.ext (h : Row w g xs) (hx : Ext w w') : Row w' g xs := (hx.block g h.lt).trans h
theorem Row.set_ (h : Row w g xs) (k x : Nat) : Row (w.setCell ⟨g, k, none⟩ (.int .u32 (x : Int))) g (xs.set k x) := by
 unfold Row at h ⊢
 simp [World.setCell, Array.getElem?_modify, h, wordVs, List.map_set]
theorem Row.far (h : Row w g xs) {p : Addr} (hp : g ≠ p.block) (u : Value) : Row (w.setCell p u) g xs := (Below.heap_setCell w p u g hp).trans h
theorem Row.words (h : Row w g xs) (hL : Limb xs) {c : Nat} (hc : xs.length ≤ c) (hm : c ≤ 35184372088832) : Words w (.slice (some ⟨g, 0, none⟩) xs.length c) xs :=
 ⟨_, _, rfl, hc, by omega, hL, fun _ => ⟨g, 0, rfl, h.lt, fun k hk => by rw [Nat.zero_add]; exact h.cell hk⟩⟩
end
theorem Words.set_ {w : World} {A : Option Addr} {n c : Nat} {xs : List Nat} (h : Words w (.slice A n c) xs) {p : Addr} (hp : ∀ a, A = some a → a.block ≠ p.block) (u : Value) : Words (w.setCell p u) (.slice A n c) xs := by
 obtain ⟨A', c', hv, hl, hm, hL, hc⟩ := h
 obtain ⟨rfl, rfl, rfl⟩ : A = A' ∧ n = xs.length ∧ c = c' := by injection hv with h1 h2 h3; exact ⟨h1, h2, h3⟩
 refine ⟨A, c, rfl, hl, hm, hL, fun h0 => ?_⟩
 obtain ⟨b, off, rfl, hb, hcell⟩ := hc h0
 refine ⟨b, off, rfl, by simpa [World.setCell] using hb, fun k hk => ?_⟩
 rw [World.cell?_setCell_other]
 ·exact hcell k hk
 ·intro e; exact hp _ rfl (by rw [e])
/-- A block in which no word lies: a box for a struct of bools and slices. -/
def NoWord (w : World) (g : Nat) : Prop := ∀ j n, w.cell? ⟨g, j, none⟩ ≠ some (.int .u32 n)
theorem Words.box {w : World} {v : Value} {xs : List Nat} (h : Words w v xs) {g : Nat} (hg : NoWord w g) (i : Nat) (u : Value) : Words (w.setCell ⟨g, i, none⟩ u) v xs := by
 obtain ⟨A, c, hv, hl, hm, hL, hc⟩ := h
 refine ⟨A, c, hv, hl, hm, hL, fun h0 => ?_⟩
 obtain ⟨b, off, rfl, hb, hcell⟩ := hc h0
 refine ⟨b, off, rfl, by simpa [World.setCell] using hb, fun k hk => ?_⟩
 rw [World.cell?_setCell_other]
 ·exact hcell k hk
 ·intro e
  injection e with e1 _ _
  exact hg _ _ (e1 ▸ hcell 0 h0)
theorem NoWord.set_ {w : World} {g : Nat} (hg : NoWord w g) (i : Nat) {u : Value} (hu : ∀ n, u ≠ .int .u32 n) : NoWord (w.setCell ⟨g, i, none⟩ u) g := by
 intro j n e
 by_cases hij : i = j
 ·subst hij
  cases hc : w.cell? ⟨g, i, none⟩ with
  | none =>
   have : (w.setCell ⟨g, i, none⟩ u).cell? ⟨g, i, none⟩ = none := by
    unfold World.cell? at hc ⊢
    simp only [World.setCell, Array.getElem?_modify] at hc ⊢
    cases hh : w.heap[g]? with
    | none => simp
    | some o => cases o <;> simp_all
   rw [this] at e; cases e
  | some x =>
   rw [World.cell?_setCell_same _ _ _ hc] at e
   injection e with e
   exact hu n e
 ·rw [World.cell?_setCell_other w ⟨g, i, none⟩ ⟨g, j, none⟩ u (by intro e'; injection e' with _ e2 _; exact hij e2)] at e
  exact hg j n e
theorem NoWord.ext {w w' : World} {g : Nat} (hg : NoWord w g) (hlt : g < w.heap.size) (hx : Ext w w') : NoWord w' g := fun j n => by
 rw [hx.cell (p := ⟨g, j, none⟩) hlt]; exact hg j n
theorem NoWord.new (w : World) (cs : Array Value) (t : TypeId) (h : ∀ u ∈ cs, ∀ n, u ≠ .int .u32 n) : NoWord (w.alloc (.cells cs t)) w.heap.size := by
 intro j n e
 have h1 : (w.alloc (.cells cs t)).heap[w.heap.size]? = some (.cells cs t) := Below.heap_new w _
 simp only [World.cell?, h1, Option.isSome_none, Bool.false_eq_true, if_false] at e
 exact h _ (Array.mem_of_getElem? e) n rfl
/-- A part of a row. -/
theorem Row.part {w : World} {g : Nat} {xs : List Nat} (h : Row w g xs) (hL : Limb xs) {i n c : Nat} (hn : i + n ≤ xs.length) (hc : n ≤ c) (hm : c ≤ 35184372088832) : Words w (.slice (some ⟨g, i, none⟩) n c) ((xs.drop i).take n) := by
 have hl : ((xs.drop i).take n).length = n := by rw [List.length_take, List.length_drop]; omega
 refine ⟨some ⟨g, i, none⟩, c, by rw [hl], by omega, by omega, (hL.drop i).take n, fun _ => ⟨g, i, rfl, h.lt, fun k hk => ?_⟩⟩
 rw [h.cell (k := i + k) (by omega)]
 congr 3
 rw [List.getD_eq_getElem?_getD, List.getD_eq_getElem?_getD, List.getElem?_take, if_pos (by omega), List.getElem?_drop]
theorem Words.at_ {w : World} {A : Option Addr} {n c : Nat} {xs : List Nat} (h : Words w (.slice A n c) xs) {k : Nat} (hk : k < n) :
  ∃ b off, A = some ⟨b, off, none⟩ ∧ b < w.heap.size ∧ n = xs.length ∧ ∀ j, j < n → w.cell? ⟨b, off + j, none⟩ = some (.int .u32 ((xs.getD j 0 : Nat) : Int)) := by
 obtain ⟨A', c', hv, hl, hm, hL, hc⟩ := h
 obtain ⟨rfl, rfl, rfl⟩ : A = A' ∧ n = xs.length ∧ c = c' := by injection hv with h1 h2 h3; exact ⟨h1, h2, h3⟩
 obtain ⟨b, off, rfl, hb, hcell⟩ := hc (by omega)
 exact ⟨b, off, rfl, hb, rfl, hcell⟩
theorem Words.len {w : World} {A : Option Addr} {n c : Nat} {xs : List Nat} (h : Words w (.slice A n c) xs) : n = xs.length ∧ n ≤ c ∧ n ≤ 35184372088832 := by
 obtain ⟨A', c', hv, hl, hm, hL, hc⟩ := h
 obtain ⟨rfl, rfl, rfl⟩ : A = A' ∧ n = xs.length ∧ c = c' := by injection hv with h1 h2 h3; exact ⟨h1, h2, h3⟩
 exact ⟨rfl, hl, hm⟩
theorem Row.made (w : World) (n : Nat) : Row (w.alloc (.cells (madeCells #[.int .u32 0] n) 164)) w.heap.size (List.replicate n 0) := by
 unfold Row
 have : madeCells #[.int .u32 0] n = (wordVs (List.replicate n 0)).toArray := by
  apply Array.ext'
  rw [toList_madeCells_one]; simp [wordVs]
 rw [this]
 exact heap_alloc_new w _
theorem xA (w : World) : Ext w w := Ext.refl w
theorem xB {w a : World} (h : Ext w a) (n : Nat) : Ext w (a.drewN n) := Ext.pdrewN h n
theorem xC {w a : World} (h : Ext w a) : Ext w a.drew := Ext.pdrew h
theorem xD {w a : World} (h : Ext w a) (o : Obj) : Ext w (a.alloc o) := Ext.palloc h o
theorem xE {w a : World} (h : Ext w a) {p : Addr} (hp : w.heap.size ≤ p.block) (u : Value) : Ext w (a.setCell p u) := Ext.pset h hp u
theorem xF {a b c : World} (h : Ext a b) (k : Ext b c) : Ext a c := Ext.trans h k
end Go.Proofs.YtceobmnljdhkmaaGreatDoor
namespace Go.Proofs.YtceobmnljdhkmaaGreatDoor
open Go Go.RowKit
def lenOf' : Value → Nat | .slice _ n _ => n | _ => 0
set_option maxHeartbeats 400000 in
theorem ref01_trim {A : Option Addr} {n c : Nat} {xs : List Nat} {w : World} (h : Words w (.slice A n c) xs) :
  Calls Tryz.prog 90 #[.slice A n c] w fun e w' => e = .returned (.slice A (trimL xs).length c) ∧ w = w' := by
 obtain ⟨A', c', hv, hl, hm, hL, hc⟩ := h
 obtain ⟨rfl, rfl, rfl⟩ : A = A' ∧ n = xs.length ∧ c = c' := by injection hv with h1 h2 h3; exact ⟨h1, h2, h3⟩
 clear hv
 go_enter Tryz.func90, Tryz.ntmps90
 go_wp2
 go_loop [0] (fun m => ∃ n : Nat, n ≤ xs.length ∧ m = .slice A n c ∧ Hid (trimL (xs.take n) = trimL xs)) (fun m => lenOf' m)
 case atStart => exact ⟨xs.length, Nat.le_refl _, rfl, by rw [List.take_length]; rfl⟩
 case round =>
  obtain ⟨n, hn, rfl, HT⟩ := hrel
  by_cases h0 : 0 < n
  ·obtain ⟨b, off, rfl, hb, hcell⟩ := hc (by omega)
   obtain ⟨k, rfl⟩ : ∃ k, n = k + 1 := ⟨n - 1, by omega⟩
   have hk := hcell k (by omega)
   have hxk := hL.getD k
   clear hc hcell
   have H0 : Hid (xs.getD k 0 = 0 → trimL (xs.take k) = trimL xs) := fun h => (trim_step_zero (by omega) h).symm.trans HT
   have H1 : Hid (xs.getD k 0 ≠ 0 → (trimL xs).length = k + 1) := fun h => HT ▸ trim_step_pos (by omega) h
   generalize xs.getD k 0 = x at *
   by_cases hz : x = 0
   ·subst hz
    go_wp2
    go_round
    case rel => exact ⟨k, by omega, by simp, H0.out rfl⟩
    case measure => simp [lenOf']
   ·have hz' : ((x : Int) == 0) = false := by simp; omega
    go_wp2
    go_ret
    exact ⟨by rw [H1.out hz]; rfl, rfl⟩
  ·obtain rfl : n = 0 := by omega
   go_wp2
   go_ret
   exact ⟨by rw [← HT.out]; rfl, rfl⟩
end Go.Proofs.YtceobmnljdhkmaaGreatDoor
namespace Go.Proofs.YtceobmnljdhkmaaGreatDoor
open Go
theorem ofInt_u64 (a : Nat) (ha : a < 18446744073709551616) : (BitVec.ofInt 64 (a : Int)).toNat = a := by
 rw [BitVec.ofInt_natCast, BitVec.toNat_ofNat]; exact Nat.mod_eq_of_lt (by omega)
theorem u64_or_nat (a b : Nat) (ha : a < 18446744073709551616) (hb : b < 18446744073709551616) : bits .or .u64 (a : Int) (b : Int) = ((a ||| b : Nat) : Int) := by
 have hx : a ||| b < 2 ^ 64 := Nat.or_lt_two_pow (by omega) (by omega)
 show IntKind.u64.wrap ((BitVec.ofInt 64 (a : Int) ||| BitVec.ofInt 64 (b : Int)).toNat : Int) = _
 rw [BitVec.toNat_or, ofInt_u64 a ha, ofInt_u64 b hb, IntKind.wrap_u64]
 omega
theorem u64_or_hi (a b : Nat) (ha : a < 4294967296) (hb : b < 4294967296) : bits .or .u64 ((a : Int) * 4294967296) (b : Int) = ((b + 4294967296 * a : Nat) : Int) := by
 have h1 : (a : Int) * 4294967296 = ((a * 4294967296 : Nat) : Int) := by omega
 rw [h1, u64_or_nat _ _ (by omega) (by omega)]
 have h2 := Nat.two_pow_add_eq_or_of_lt (i := 32) (b := b) (by omega) a
 have h3 : a * 4294967296 = 2 ^ 32 * a := by omega
 rw [h3, ← h2]
 omega
theorem u64_or_lo (a b : Nat) (ha : a < 4294967296) (hb : b < 4294967296) : bits .or .u64 (b : Int) ((a : Int) * 4294967296) = ((b + 4294967296 * a : Nat) : Int) := by
 have h1 : (a : Int) * 4294967296 = ((a * 4294967296 : Nat) : Int) := by omega
 rw [h1, u64_or_nat _ _ (by omega) (by omega)]
 have h2 := Nat.two_pow_add_eq_or_of_lt (i := 32) (b := b) (by omega) a
 have h3 : a * 4294967296 = 2 ^ 32 * a := by omega
 rw [Nat.or_comm, h3, ← h2]
 omega
theorem div_pow_cast (x s : Nat) : (x : Int) / 2 ^ s % 4294967296 = ((x / 2 ^ s % 4294967296 : Nat) : Int) := by
 rw [Int.natCast_emod, Int.natCast_ediv, Int.natCast_pow]; rfl
end Go.Proofs.YtceobmnljdhkmaaGreatDoor
namespace Go.Proofs.YtceobmnljdhkmaaGreatDoor
open Go Go.RowKit
theorem bcell {W w1 : World} (hb : Below W.heap.size W w1) : (∀ b o, b < W.heap.size → w1.cell? ⟨b, o, none⟩ = W.cell? ⟨b, o, none⟩) ∧ (∀ b o, b < W.heap.size → w1.frozen? ⟨b, o, none⟩ = W.frozen? ⟨b, o, none⟩) :=
 ⟨fun b o h => hb.cell (p := ⟨b, o, none⟩) h, fun b o h => hb.frozen (p := ⟨b, o, none⟩) h⟩
theorem quiet_left {P : Program} {f : FuncId} {args : Array Value} {w : World} {n : Nat} {v : Value}
  (h : Calls P f args (w.drewN n) fun e w' => e = .returned v ∧ w.drewN n = w') : Calls P f args (w.drewN n) fun e w'' => e = .returned v ∧ ∃ m, w'' = w.drewN m :=
 h.mono fun _ _ ⟨he, hm⟩ => ⟨he, n, hm.symm⟩
theorem Words.form {w : World} {v : Value} {xs : List Nat} (h : Words w v xs) : ∃ A c, v = .slice A xs.length c ∧ xs.length ≤ c ∧ xs.length ≤ 35184372088832 := by
 obtain ⟨A, c, hv, hl, hm, _, _⟩ := h; exact ⟨A, c, hv, hl, hm⟩
theorem Words.trim {w : World} {A : Option Addr} {n c : Nat} {xs : List Nat} (h : Words w (.slice A n c) xs) : Words w (.slice A (trimL xs).length c) (trimL xs) := by
 obtain ⟨A', c', hv, hl, hm, hL, hc⟩ := h
 obtain ⟨rfl, rfl, rfl⟩ : A = A' ∧ n = xs.length ∧ c = c' := by injection hv with h1 h2 h3; exact ⟨h1, h2, h3⟩
 have hle := trimL_length_le xs
 refine ⟨A, c, rfl, by omega, by omega, limb_trimL hL, fun h0 => ?_⟩
 obtain ⟨b, off, hA, hb, hcell⟩ := hc (by omega)
 refine ⟨b, off, hA, hb, fun k hk => ?_⟩
 rw [hcell k (by omega)]
 have : (trimL xs).getD k 0 = xs.getD k 0 := by
  rw [trimL_prefix xs, List.getD_eq_getElem?_getD, List.getD_eq_getElem?_getD, List.getElem?_take, if_pos hk]
 rw [this]
set_option maxHeartbeats 400000 in
theorem ref01_signed (neg : Bool) {A : Option Addr} {n c : Nat} {xs : List Nat} {w : World} (h : Words w (.slice A n c) xs) :
  Calls Tryz.prog 63 #[.bool neg, .slice A n c] w fun e w' => e = .returned (.agg #[.bool (neg && decide (0 < (trimL xs).length)), .slice A (trimL xs).length c]) ∧ Ext w w' := by
 have hlen : (trimL xs).length ≤ 35184372088832 := by
  obtain ⟨_, _, hv, h1, h2, _⟩ := h
  have := trimL_length_le xs; injection hv; omega
 have H := ref01_trim (h.ext (Ext.alloc w (.cells #[.bool false, .slice none 0 0] 55)))
 have H' := Lib.hid H
 clear H h
 generalize (trimL xs).length = k at *
 cases neg
 all_goals
  go_enter Tryz.func63, Tryz.ntmps63
  go_wp2_with (go_at_call 90; refine (H'.out).mono ?_; rintro e w' ⟨rfl, rfl⟩)
  refine bodyPost_ret ?_ rfl ⟨rfl, Ext.alloc _ _⟩
  simp [results, Tryz.results63, go_sem]
set_option maxHeartbeats 400000 in
theorem ref01_Norm (neg : Bool) {A : Option Addr} {n c : Nat} {xs : List Nat} {w : World} (h : Words w (.slice A n c) xs) :
  Calls Tryz.prog 91 #[.agg #[.bool neg, .slice A n c]] w fun e w' => e = .returned (.agg #[.bool (neg && decide (0 < (trimL xs).length)), .slice A (trimL xs).length c]) ∧ Ext w w' := by
 have H := fun w' (hw : Ext w w') => ref01_signed neg (h.ext hw)
 have H' := Lib.hid H
 clear H h
 generalize (trimL xs).length = k at *
 go_enter Tryz.func91, Tryz.ntmps91
 go_wp2_with fail
 refine (H'.out _ ((Ext.alloc _ _).trans (Ext.alloc _ _))).mono ?_
 rintro e w' ⟨rfl, hx⟩
 obtain ⟨hc, hf⟩ := bcell hx
 go_wp2_with fail
 refine bodyPost_ret ?_ rfl ⟨rfl, ?_⟩
 ·simp [results, Tryz.results91, go_sem, hc]
 ·exact ((((Ext.alloc _ _).trans (Ext.alloc _ _)).trans hx).setCell (by simp) _).setCell (by simp) _
set_option maxHeartbeats 400000 in
theorem ref01_Valid (neg : Bool) {A : Option Addr} {n c : Nat} {xs : List Nat} {w : World} (h : Words w (.slice A n c) xs) :
  Calls Tryz.prog 46 #[.agg #[.bool neg, .slice A n c]] w fun e w' => e = .returned (.bool (decide ((trimL xs).length = n) && (!neg || decide (0 < n)))) ∧ Ext w w' := by
 have H := fun w' (hw : Ext w w') => ref01_trim (h.ext hw)
 have H' := Lib.hid H
 clear H h
 generalize (trimL xs).length = k at *
 by_cases h1 : k = n
 ·subst h1
  cases neg
  ·go_enter Tryz.func46, Tryz.ntmps46
   go_wp2_with fail
   go_quiet ((go_at_call 90; exact quiet_left (H'.out _ ((Ext.alloc _ _).trans (Ext.drewN _ _)))))
   go_wp2_with fail
   go_ret
   exact ⟨by simp, (Ext.alloc _ _).trans (Ext.drewN _ _)⟩
  ·go_enter Tryz.func46, Tryz.ntmps46
   go_wp2_with fail
   go_quiet ((go_at_call 90; exact quiet_left (H'.out _ ((Ext.alloc _ _).trans (Ext.drewN _ _)))))
   go_wp2_with fail
   go_ret
   exact ⟨by simp, (Ext.alloc _ _).trans (Ext.drewN _ _)⟩
 ·have h2 : ((k : Int) == (n : Int)) = false := by simp; omega
  have hd : decide (k = n) = false := by simpa using h1
  go_enter Tryz.func46, Tryz.ntmps46
  go_wp2_with fail
  go_quiet ((go_at_call 90; exact quiet_left (H'.out _ ((Ext.alloc _ _).trans (Ext.drewN _ _)))))
  go_wp2_with fail
  go_ret
  exact ⟨by simp [h1], (Ext.alloc _ _).trans (Ext.drewN _ _)⟩
def sgnW (neg : Bool) (k : Nat) : Int := if k = 0 then 0 else if neg then -1 else 1
set_option maxHeartbeats 400000 in
theorem ref01_Sign (neg : Bool) {A : Option Addr} {n c : Nat} {xs : List Nat} {w : World} (h : Words w (.slice A n c) xs) :
  Calls Tryz.prog 47 #[.agg #[.bool neg, .slice A n c]] w fun e w' => e = .returned (.int .i64 (sgnW neg (trimL xs).length)) ∧ Ext w w' := by
 have H := fun w' (hw : Ext w w') => ref01_Norm neg (h.ext hw)
 have H' := Lib.hid H
 clear H h
 generalize (trimL xs).length = k at *
 go_enter Tryz.func47, Tryz.ntmps47
 go_wp2_with fail
 refine (H'.out _ (Ext.alloc _ _)).mono ?_
 rintro e w' ⟨rfl, hx⟩
 obtain ⟨hc, hf⟩ := bcell hx
 by_cases h0 : k = 0
 ·subst h0
  go_wp2_with fail
  go_ret
  exact ⟨rfl, (((Ext.alloc _ _).trans hx).setCell (Nat.le_refl _) _).setCell (Nat.le_refl _) _⟩
 ·have h1 : ((k : Int) == 0) = false := by simp; omega
  have h2 : 0 < k := by omega
  cases neg
  ·go_wp2_with fail
   go_ret
   exact ⟨by simp [sgnW, h0], (((Ext.alloc _ _).trans hx).setCell (Nat.le_refl _) _).setCell (Nat.le_refl _) _⟩
  ·go_wp2_with fail
   go_ret
   exact ⟨by simp [sgnW, h0], (((Ext.alloc _ _).trans hx).setCell (Nat.le_refl _) _).setCell (Nat.le_refl _) _⟩
set_option maxHeartbeats 400000 in
theorem ref01_short {A : Option Addr} {n c : Nat} {xs : List Nat} {w : World} (h : Words w (.slice A n c) xs) (hs : n ≤ 2) :
  Calls Tryz.prog 147 #[.slice A n c] w fun e w' => e = .returned (.int .u64 ((val xs : Nat) : Int)) ∧ w = w' := by
 obtain ⟨A', c', hv, hl, hm, hL, hc⟩ := h
 obtain ⟨rfl, rfl, rfl⟩ : A = A' ∧ n = xs.length ∧ c = c' := by injection hv with h1 h2 h3; exact ⟨h1, h2, h3⟩
 clear hv
 go_enter Tryz.func147, Tryz.ntmps147
 go_wp2
 go_loop [3, 4] (fun n i => ∃ k : Nat, k ≤ xs.length ∧ i = .int .i64 ((k : Int) - 1) ∧ n = .int .u64 ((val (xs.drop k) : Nat) : Int)) (fun _ i => (intOf i + 1).toNat)
 case atStart => exact ⟨xs.length, Nat.le_refl _, rfl, by simp [val]⟩
 case round =>
  obtain ⟨k, hk, rfl, rfl⟩ := hrel
  by_cases h0 : 0 < k
  ·obtain ⟨b, off, rfl, hb, hcell⟩ := hc (by omega)
   obtain ⟨j, rfl⟩ : ∃ j, k = j + 1 := ⟨k - 1, by omega⟩
   have hj := hcell j (by omega)
   have hxj := hL.getD j
   clear hc hcell
   have hlt : val (xs.drop (j + 1)) < 4294967296 := val_drop_lt1 hL (by omega)
   have HV : Hid (val (xs.drop j) = xs.getD j 0 + 4294967296 * val (xs.drop (j + 1))) := val_drop xs (by omega)
   generalize val (xs.drop (j + 1)) = V1 at *
   generalize xs.getD j 0 = x at *
   go_wp2
   refine ⟨⟨j, by omega, rfl, by rw [HV.out, u64_or_hi _ _ hlt hxj]⟩, by simp [intOf]⟩
  ·obtain rfl : k = 0 := by omega
   go_wp2
   go_ret
   exact ⟨by simp, rfl⟩
end Go.Proofs.YtceobmnljdhkmaaGreatDoor
namespace Go.Proofs.YtceobmnljdhkmaaGreatDoor
open Go Go.RowKit
theorem infoU32 : (Tryz.prog.info? 164).map (fun i => (i.zero, i.size, i.bytes)) = some (some (.int .u32 0), 1, 4) := by kernel_rfl
theorem mk_words (n : Nat) (hn : n ≤ 35184372088832) (W : World) :
  (Instr.makeSlice 53 (.int .i64 (n : Int)) (.int .i64 (n : Int))).run Tryz.prog W = .ok (.slice (some ⟨W.heap.size, 0, none⟩) n n) (W.alloc (.cells (madeCells #[.int .u32 0] n) 164)) := by
 obtain ⟨i, hi, hz0, hz1, hz2⟩ := info_parts infoU32
 have hb : (i.bytes : Int) * (n : Int) ≤ 281474976710656 := by rw [hz2]; omega
 have hr := run_make (P := Tryz.prog) W 53 164 i (.int .u32 0) Tryz.underlying53 hi hz0 .i64 .i64 n n (by omega) (by omega) hb (by omega)
 simp only [Int.toNat_natCast, hz1, Nat.mul_one] at hr
 exact hr
theorem limbs_two {n : Nat} (hn : n < 18446744073709551616) : trimL [n % 4294967296, n / 4294967296] = limbs n := by
 rw [trimL_eq_limbs (Limb.cons (by omega) (Limb.cons (by omega) Limb.nil))]
 congr 1
 simp only [val]; omega
set_option maxHeartbeats 400000 in
theorem ref01_words (n : Nat) (hn : n < 18446744073709551616) (w : World) :
  Calls Tryz.prog 64 #[.int .u64 (n : Int)] w (Ret w fun v w' => Words w' v (limbs n)) := by
 have hrow : Row (w.alloc (.cells #[.int .u32 ((n : Int) % 4294967296), .int .u32 ((n : Int) / 4294967296)] 164)) w.heap.size [n % 4294967296, n / 4294967296] := by
  unfold Row
  rw [heap_alloc_new]
  simp [wordVs]
 have hW := hrow.words (Limb.cons (by omega) (Limb.cons (by omega) Limb.nil)) (c := 2) (by simp) (by omega)
 have H := Lib.hid (ref01_trim hW)
 have T := Lib.hid hW.trim
 rw [limbs_two hn] at H T
 clear hrow hW
 go_enter Tryz.func64, Tryz.ntmps64
 go_wp2_with fail
 refine H.out.mono ?_
 rintro e w' ⟨rfl, rfl⟩
 go_wp2_with fail
 go_ret
 exact ⟨_, rfl, T.out, (by repeat first|exact xA _|assumption|refine xB ?_ _|refine xC ?_|refine xD ?_ _|refine xE ?_ (by simp <;> omega) _|refine xF ?_ (by assumption))⟩
set_option maxHeartbeats 400000 in
theorem ref01_compare {A B : Option Addr} {n m c d : Nat} {xs ys : List Nat} {w : World} (h : Words w (.slice A n c) xs) (k : Words w (.slice B m d) ys) :
  Calls Tryz.prog 146 #[.slice A n c, .slice B m d] w fun e w' => e = .returned (.int .i64 (cmpW xs ys)) ∧ Ext w w' := by
 obtain ⟨rfl, hl, hm⟩ := h.len
 obtain ⟨rfl, kl, km⟩ := k.len
 rcases Nat.lt_trichotomy xs.length ys.length with h0 | h0 | h0
 ·have h1 : ((xs.length : Int) != (ys.length : Int)) = true := by simp; omega
  have HC : Hid (cmpW xs ys = -1) := cmpW_short h0
  go_enter Tryz.func146, Tryz.ntmps146
  go_wp2
  go_ret
  exact ⟨by rw [HC.out]; rfl, Ext.refl _⟩
 ·have hL := h.limb
  have kL := k.limb
  have H := Lib.hid h
  have K := Lib.hid k
  clear h k
  have h1 : ((xs.length : Int) != (xs.length : Int)) = false := by simp
  have H0 := Lib.hid h0
  rw [← h0] at K ⊢
  clear h0
  go_enter Tryz.func146, Tryz.ntmps146
  go_wp2
  go_loopw [5] (fun i wr => ∃ k : Nat, k ≤ xs.length ∧ i = .int .i64 ((k : Int) - 1) ∧ Hid (xs.drop k = ys.drop k) ∧ Ext w wr) (fun i _ => (intOf i + 1).toNat)
  case atStart => exact ⟨xs.length, Nat.le_refl _, rfl, by show _ = _; rw [List.drop_length, H0.out, List.drop_length], Ext.refl _⟩
  case round =>
   obtain ⟨k, hk, rfl, HD, hE⟩ := hrel
   by_cases hk0 : 0 < k
   ·obtain ⟨j, rfl⟩ : ∃ j, k = j + 1 := ⟨k - 1, by omega⟩
    obtain ⟨b, off, rfl, hb, -, hcell⟩ := (H.out.ext hE).at_ (k := j) (by omega)
    obtain ⟨b', off', rfl, hb', -, hcell'⟩ := (K.out.ext hE).at_ (k := j) (by omega)
    have g1 := hcell j (by omega)
    have g2 := hcell' j (by omega)
    clear hcell hcell'
    have HL : Hid (xs.getD j 0 < ys.getD j 0 → cmpW xs ys = -1) := fun hlt => cmpW_less hL H0.out (by omega) HD.out hlt
    have HM : Hid (ys.getD j 0 < xs.getD j 0 → cmpW xs ys = 1) := fun hlt => cmpW_more kL H0.out (by omega) HD.out hlt
    have HD' : Hid (xs.getD j 0 = ys.getD j 0 → xs.drop j = ys.drop j) := fun he => by rw [drop_getD xs (by omega), drop_getD ys (by have := H0.out; omega), he, HD.out]
    generalize xs.getD j 0 = x at *
    generalize ys.getD j 0 = y at *
    rcases Nat.lt_trichotomy x y with hxy | hxy | hxy
    ·have hd : decide (x < y) = true := by simpa using hxy
     go_wp2
     go_quiet (fail)
     go_wp2
     go_ret
     exact ⟨by rw [HL.out hxy]; rfl, (by repeat first|exact xA _|assumption|refine xB ?_ _|refine xC ?_|refine xD ?_ _|refine xE ?_ (by simp <;> omega) _|refine xF ?_ (by assumption))⟩
    ·subst hxy
     go_wp2
     go_quiet (fail)
     go_wp2
     go_quiet (fail)
     go_wp2
     exact ⟨⟨j, by omega, rfl, HD'.out trivial, (by repeat first|exact xA _|assumption|refine xB ?_ _|refine xC ?_|refine xD ?_ _|refine xE ?_ (by simp <;> omega) _|refine xF ?_ (by assumption))⟩, by simp [intOf]⟩
    ·have hd : decide (x < y) = false := by simp; omega
     have hd2 : decide (y < x) = true := by simpa using hxy
     go_wp2
     go_quiet (fail)
     go_wp2
     go_quiet (fail)
     go_wp2
     go_ret
     exact ⟨by rw [HM.out hxy]; rfl, (by repeat first|exact xA _|assumption|refine xB ?_ _|refine xC ?_|refine xD ?_ _|refine xE ?_ (by simp <;> omega) _|refine xF ?_ (by assumption))⟩
   ·obtain rfl : k = 0 := by omega
    have HC : Hid (cmpW xs ys = 0) := by
     have := HD.out; simp only [List.drop_zero] at this; rw [this]; exact cmpW_same _
    go_wp2
    go_ret
    exact ⟨by rw [HC.out]; rfl, hE⟩
 ·have h1 : ((xs.length : Int) != (ys.length : Int)) = true := by simp; omega
  have HC : Hid (cmpW xs ys = 1) := cmpW_long h0
  go_enter Tryz.func146, Tryz.ntmps146
  go_wp2
  go_ret
  exact ⟨by rw [HC.out]; rfl, Ext.refl _⟩
theorem by_step {xs zs : List Nat} {n r j : Nat} (hj : j < xs.length) (hl : zs.length = xs.length) (h : val (xs.drop (j + 1)) = n * val (zs.drop (j + 1)) + r) :
  val (xs.drop j) = n * val ((zs.set j ((xs.getD j 0 + 4294967296 * r) / n)).drop j) + (xs.getD j 0 + 4294967296 * r) % n := by
 have e1 : (zs.set j ((xs.getD j 0 + 4294967296 * r) / n)).drop j = ((xs.getD j 0 + 4294967296 * r) / n) :: zs.drop (j + 1) := by
  rw [drop_getD _ (by simp; omega), List.drop_set, if_pos (by omega)]
  congr 1
  rw [List.getD_eq_getElem?_getD, List.getElem?_set_self (by omega)]; rfl
 rw [val_drop xs hj, e1, val, h]
 have := Nat.div_add_mod (xs.getD j 0 + 4294967296 * r) n
 rw [Nat.mul_add, Nat.mul_add, ← Nat.mul_assoc, Nat.mul_comm 4294967296 n, Nat.mul_assoc]
 omega
theorem by_lt {ρ x n : Nat} (hρ : ρ < n) (hx : x < 4294967296) : (x + 4294967296 * ρ) / n < 4294967296 := by
 apply Nat.div_lt_of_lt_mul
 have : 4294967296 * (ρ + 1) ≤ 4294967296 * n := Nat.mul_le_mul_left _ hρ
 rw [Nat.mul_comm n]; omega
theorem by_q {ρ x n : Nat} (hρ : ρ < n) (hn : n < 4294967296) (hx : x < 4294967296) :
  IntKind.u64.wrap ((bits .or .u64 ((ρ : Int) * 4294967296) (x : Int)).tdiv (n : Int)) % 4294967296 = (((x + 4294967296 * ρ) / n : Nat) : Int) := by
 have h := by_lt hρ hx
 rw [u64_or_hi _ _ (by omega) hx, ← Int.ofNat_tdiv, IntKind.wrap_u64]
 generalize (x + 4294967296 * ρ) / n = q at *
 omega
theorem by_r {ρ x n : Nat} (hρ : ρ < n) (hn : n < 4294967296) (hx : x < 4294967296) :
  (bits .or .u64 ((ρ : Int) * 4294967296) (x : Int)).tmod (n : Int) = (((x + 4294967296 * ρ) % n : Nat) : Int) := by
 rw [u64_or_hi _ _ (by omega) hx, ← Int.ofNat_tmod]
theorem limb_set {zs : List Nat} (h : Limb zs) {j y : Nat} (hy : y < 4294967296) : Limb (zs.set j y) := by
 intro x hx
 rcases List.mem_or_eq_of_mem_set hx with hx | rfl
 ·exact h x hx
 ·exact hy
theorem limb_replicate (n : Nat) : Limb (List.replicate n 0) := by
 intro x hx
 rw [List.eq_of_mem_replicate hx]; omega
set_option maxHeartbeats 800000 in
theorem ref01_by {A : Option Addr} {m c : Nat} {xs : List Nat} {n : Nat} {w : World} (h : Words w (.slice A m c) xs) (hn : 0 < n) (hn2 : n < 4294967296) :
  Calls Tryz.prog 148 #[.slice A m c, .int .u32 (n : Int)] w (Ret w fun v w' => ∃ v', v = .tuple #[v', .int .u32 ((val xs % n : Nat) : Int)] ∧ Words w' v' (limbs (val xs / n))) := by
 obtain ⟨rfl, hl, hm⟩ := h.len
 have hL := h.limb
 have H := Lib.hid h
 clear h
 have hmk := mk_words xs.length (by omega)
 go_enter Tryz.func148, Tryz.ntmps148
 go_wp2_with fail
 go_loopw [7, 8] (fun r i wr => ∃ (k ρ : Nat) (zs : List Nat), k ≤ xs.length ∧ i = .int .i64 ((k : Int) - 1) ∧ r = .int .u64 (ρ : Int) ∧ ρ < n ∧ Hid (zs.length = xs.length ∧ Limb zs ∧ Row wr w.heap.size zs ∧ val (xs.drop k) = n * val (zs.drop k) + ρ) ∧ Ext w wr) (fun _ i _ => (intOf i + 1).toNat)
 case atStart =>
  exact ⟨xs.length, 0, List.replicate xs.length 0, Nat.le_refl _, rfl, rfl, hn, ⟨by simp, limb_replicate _, Row.made _ _, by simp [val]⟩, (by repeat first|exact xA _|assumption|refine xB ?_ _|refine xC ?_|refine xD ?_ _|refine xE ?_ (by simp <;> omega) _|refine xF ?_ (by assumption))⟩
 case round =>
  obtain ⟨k, ρ, zs, hk, rfl, rfl, hρ, HZ, hE⟩ := hrel
  by_cases hk0 : 0 < k
  ·obtain ⟨j, rfl⟩ : ∃ j, k = j + 1 := ⟨k - 1, by omega⟩
   obtain ⟨b, off, rfl, hb, -, hcell⟩ := (H.out.ext hE).at_ (k := j) (by omega)
   have g1 := hcell j (by omega)
   clear hcell
   have g2 := HZ.out.2.2.1.cell (k := j) (by have := HZ.out.1; omega)
   have g3 := HZ.out.2.2.1.frozen j
   have hx := hL.getD j
   have HS : Hid (val (xs.drop j) = n * val ((zs.set j ((xs.getD j 0 + 4294967296 * ρ) / n)).drop j) + (xs.getD j 0 + 4294967296 * ρ) % n) := by_step (by omega) HZ.out.1 HZ.out.2.2.2
   generalize xs.getD j 0 = x at *
   go_wp2
   rw [by_r hρ hn2 hx, by_q hρ hn2 hx]
   obtain ⟨z1, z2, z3, z4⟩ := HZ.out
   exact ⟨⟨j, _, zs.set j ((x + 4294967296 * ρ) / n), by omega, rfl, rfl, Nat.mod_lt _ hn, ⟨by simp [z1], limb_set z2 (by_lt hρ hx), z3.set_ _ _, HS.out⟩, (by repeat first|exact xA _|assumption|refine xB ?_ _|refine xC ?_|refine xD ?_ _|refine xE ?_ (by simp <;> omega) _|refine xF ?_ (by assumption))⟩, by simp [intOf]⟩
  ·obtain rfl : k = 0 := by omega
   obtain ⟨z1, z2, z3, z4⟩ := HZ.out
   simp only [List.drop_zero] at z4
   have hW := z3.words z2 (c := xs.length) (by omega) (by omega)
   rw [z1] at hW
   have HT := Lib.hid (ref01_trim hW)
   have TW := Lib.hid hW.trim
   have hq : limbs (val xs / n) = trimL zs := by
    rw [trimL_eq_limbs z2, z4, Nat.mul_add_div hn, Nat.div_eq_of_lt hρ, Nat.add_zero]
   have hr : ρ = val xs % n := by rw [z4, Nat.mul_add_mod, Nat.mod_eq_of_lt hρ]
   have HQ := Lib.hid hq
   have HR := Lib.hid hr
   clear hW hq hr z1 z2 z3 z4
   go_wp2_with fail
   refine HT.out.mono ?_
   rintro e w' ⟨rfl, rfl⟩
   go_wp2_with fail
   go_ret2
   exact ⟨_, rfl, ⟨_, by rw [← HR.out]; rfl, by rw [HQ.out]; exact TW.out⟩, (by repeat first|exact xA _|assumption|refine xB ?_ _|refine xC ?_|refine xD ?_ _|refine xE ?_ (by simp <;> omega) _|refine xF ?_ (by assumption))⟩
end Go.Proofs.YtceobmnljdhkmaaGreatDoor
namespace Go.Proofs.YtceobmnljdhkmaaGreatDoor
theorem val_set {xs : List Nat} {j : Nat} (hj : j < xs.length) (y : Nat) : val (xs.set j y) + 4294967296 ^ j * xs.getD j 0 = val xs + 4294967296 ^ j * y := by
 have e1 : (xs.set j y).take j = xs.take j := by rw [List.take_set_of_le (by omega)]
 have e2 : (xs.set j y).drop j = y :: xs.drop (j + 1) := by
  rw [drop_getD _ (by simp; omega), List.drop_set, if_pos (by omega)]
  congr 1
  rw [List.getD_eq_getElem?_getD, List.getElem?_set_self (by omega)]; rfl
 rw [val_split (xs.set j y) j (by simp; omega), e1, e2, val_split xs j (by omega), val_drop xs hj, val]
 rw [Nat.mul_add, Nat.mul_add]
 omega
theorem getD_set_self {xs : List Nat} {j : Nat} (hj : j < xs.length) (y : Nat) : (xs.set j y).getD j 0 = y := by
 rw [List.getD_eq_getElem?_getD, List.getElem?_set_self (by omega)]; rfl
theorem getD_set_ne {xs : List Nat} {i j : Nat} (h : i ≠ j) (y : Nat) : (xs.set i y).getD j 0 = xs.getD j 0 := by
 rw [List.getD_eq_getElem?_getD, List.getElem?_set_ne h, List.getD_eq_getElem?_getD]
theorem getD_replicate (n j : Nat) : (List.replicate n 0).getD j 0 = 0 := by
 rw [List.getD_eq_getElem?_getD, List.getElem?_replicate]; split <;> rfl
theorem val_replicate (n : Nat) : val (List.replicate n 0) = 0 := by
 induction n with
 | zero => rfl
 | succ n ih => rw [List.replicate_succ, val, ih]
theorem getD_take {xs : List Nat} {i j : Nat} (h : j < i) : (xs.take i).getD j 0 = xs.getD j 0 := by
 rw [List.getD_eq_getElem?_getD, List.getElem?_take, if_pos h, List.getD_eq_getElem?_getD]
theorem getD_of_le {xs : List Nat} {j : Nat} (h : xs.length ≤ j) : xs.getD j 0 = 0 := by
 rw [List.getD_eq_getElem?_getD, List.getElem?_eq_none h]; rfl
/-- The number of binary digits. -/
def blen (x : Nat) : Nat := if h : x = 0 then 0 else blen (x / 2) + 1
termination_by x
decreasing_by omega
theorem blen_zero : blen 0 = 0 := by rw [blen]; simp
theorem blen_pos {x : Nat} (h : x ≠ 0) : blen x = blen (x / 2) + 1 := by rw [blen]; simp [h]
theorem lt_two_pow_blen (x : Nat) : x < 2 ^ blen x := by
 induction x using Nat.strongRecOn with
 | _ x ih =>
  by_cases h : x = 0
  ·rw [h, blen_zero]; simp
  ·have := ih (x / 2) (by omega)
   rw [blen_pos h, Nat.pow_succ]; omega
theorem two_pow_blen_le {x : Nat} (h : x ≠ 0) : 2 ^ (blen x - 1) ≤ x := by
 induction x using Nat.strongRecOn with
 | _ x ih =>
  rw [blen_pos h, Nat.add_sub_cancel]
  by_cases h2 : x / 2 = 0
  ·rw [h2, blen_zero]; simp; omega
  ·have := ih (x / 2) (by omega) h2
   rw [blen_pos h2] at this ⊢
   rw [Nat.add_sub_cancel] at this
   rw [Nat.pow_succ]; omega
theorem blen_le {x k : Nat} (h : x < 2 ^ k) : blen x ≤ k := by
 by_cases h0 : x = 0
 ·rw [h0, blen_zero]; omega
 ·rcases Nat.lt_or_ge k (blen x) with h1 | h1
  ·have h2 := two_pow_blen_le h0
   have h3 : 2 ^ k ≤ 2 ^ (blen x - 1) := Nat.pow_le_pow_right (by omega) (by omega)
   omega
  ·exact h1
/-- 2^32 parts at s. -/
theorem two_pow_split {s : Nat} (hs : s ≤ 32) : 2 ^ s * 2 ^ (32 - s) = 4294967296 := by
 rw [← Nat.pow_add, show s + (32 - s) = 32 by omega]
/-- One word of a shift to the left: the carry that came in fills the low bits, the high ones go out. -/
theorem shl_step {x c s : Nat} (hs : s < 32) (hx : x < 4294967296) (hc : c < 2 ^ s) :
  c + (x * 2 ^ s) % 4294967296 < 4294967296 ∧ (x * 2 ^ s) / 4294967296 < 2 ^ s ∧ c + (x * 2 ^ s) % 4294967296 + 4294967296 * ((x * 2 ^ s) / 4294967296) = c + x * 2 ^ s := by
 have hp := two_pow_split (s := s) (by omega)
 have h0 : 0 < 2 ^ s := Nat.pow_pos (by omega)
 have e : (x * 2 ^ s) % 4294967296 = 2 ^ s * (x % 2 ^ (32 - s)) := by
  rw [← hp, Nat.mul_comm x, Nat.mul_mod_mul_left]
 have h1 : x % 2 ^ (32 - s) < 2 ^ (32 - s) := Nat.mod_lt _ (Nat.pow_pos (by omega))
 refine ⟨?_, ?_, by omega⟩
 ·rw [e]
  have h2 : 2 ^ s * (x % 2 ^ (32 - s) + 1) ≤ 2 ^ s * 2 ^ (32 - s) := Nat.mul_le_mul_left _ h1
  rw [Nat.mul_add] at h2
  omega
 ·apply Nat.div_lt_of_lt_mul
  rw [Nat.mul_comm 4294967296, Nat.mul_comm x]
  exact Nat.mul_lt_mul_of_pos_left hx h0
theorem shl_or {x c s : Nat} (hs : s < 32) (hc : c < 2 ^ s) : c ||| (x * 2 ^ s) % 4294967296 = c + (x * 2 ^ s) % 4294967296 := by
 have hp := two_pow_split (s := s) (by omega)
 have e : (x * 2 ^ s) % 4294967296 = 2 ^ s * (x % 2 ^ (32 - s)) := by
  rw [← hp, Nat.mul_comm x, Nat.mul_mod_mul_left]
 rw [e, Nat.or_comm, ← Nat.two_pow_add_eq_or_of_lt hc, Nat.add_comm]
/-- The words of a list divided by 2^s. -/
def backAt (xs : List Nat) (s j : Nat) : Nat := ((xs.getD j 0 + 4294967296 * xs.getD (j + 1) 0) / 2 ^ s) % 4294967296
def backL (s : Nat) : List Nat → List Nat
 | [] => []
 | x :: xs => ((x + 4294967296 * xs.getD 0 0) / 2 ^ s) % 4294967296 :: backL s xs
theorem backL_length (s : Nat) (xs : List Nat) : (backL s xs).length = xs.length := by
 induction xs with
 | nil => rfl
 | cons x xs ih => simp [backL, ih]
theorem backL_getD (s : Nat) (xs : List Nat) : ∀ j, j < xs.length → (backL s xs).getD j 0 = backAt xs s j := by
 induction xs with
 | nil => intro j h; simp at h
 | cons x xs ih =>
  intro j h
  cases j with
  | zero => simp [backL, backAt]
  | succ j =>
   have := ih j (by simpa using h)
   simp only [backL, List.getD_cons_succ, this, backAt]
theorem limb_backL (s : Nat) (xs : List Nat) : Limb (backL s xs) := by
 induction xs with
 | nil => exact Limb.nil
 | cons x xs ih => exact Limb.cons (Nat.mod_lt _ (by omega)) ih
theorem val_backL {s : Nat} (hs : s < 32) {xs : List Nat} (h : Limb xs) : val (backL s xs) = val xs / 2 ^ s := by
 have hp := two_pow_split (s := s) (by omega)
 have h0 : 0 < 2 ^ s := Nat.pow_pos (by omega)
 induction xs with
 | nil => simp [backL, val]
 | cons x xs ih =>
  have hx := h.head
  have ih := ih h.tail
  simp only [backL, val, ih]
  generalize hP : 2 ^ s = P at *
  generalize hQ : 2 ^ (32 - s) = Q at *
  have hQ0 : 0 < Q := by rw [← hQ]; exact Nat.pow_pos (by omega)
  have e1 : ∀ y, (x + 4294967296 * y) / P = x / P + Q * y := fun y => by
   rw [← hp, Nat.mul_assoc, Nat.add_mul_div_left _ _ h0]
  have hxP : x / P < Q := Nat.div_lt_of_lt_mul (by rw [hp]; exact hx)
  have e2 : (x / P + Q * xs.getD 0 0) % 4294967296 = x / P + Q * (xs.getD 0 0 % P) := by
   have e3 : Q * xs.getD 0 0 = 4294967296 * (xs.getD 0 0 / P) + Q * (xs.getD 0 0 % P) := by
    have h3 := Nat.div_add_mod (xs.getD 0 0) P
    generalize xs.getD 0 0 / P = A at *
    generalize xs.getD 0 0 % P = B at *
    rw [← h3, ← hp, Nat.mul_add, ← Nat.mul_assoc, Nat.mul_comm Q P]
   have h4 : Q * (xs.getD 0 0 % P) + Q ≤ 4294967296 := by
    have h5 : xs.getD 0 0 % P + 1 ≤ P := Nat.mod_lt _ h0
    have h6 := Nat.mul_le_mul_left Q h5
    rw [Nat.mul_add, Nat.mul_one, Nat.mul_comm Q P, hp] at h6
    exact h6
   rw [e3]
   generalize x / P = a at *
   generalize xs.getD 0 0 / P = g at *
   generalize Q * (xs.getD 0 0 % P) = i at *
   omega
  have e4 : val xs % P = xs.getD 0 0 % P := by
   cases xs with
   | nil => simp [val]
   | cons y ys => simp only [val, List.getD_cons_zero]; rw [← hp, Nat.mul_assoc, Nat.add_mul_mod_self_left]
  rw [e1, e1, e2, ← e4]
  have h3 := Nat.div_add_mod (val xs) P
  generalize val xs / P = A at *
  generalize val xs % P = B at *
  rw [← h3, ← hp, Nat.mul_add, ← Nat.mul_assoc, Nat.mul_comm Q P]
  omega
/-- Two lists of one length that agree at every place are one. -/
theorem ext_getD {xs ys : List Nat} (hl : xs.length = ys.length) (h : ∀ j, j < xs.length → xs.getD j 0 = ys.getD j 0) : xs = ys := by
 apply List.ext_getElem hl
 intro j h1 h2
 have := h j h1
 rwa [List.getD_eq_getElem?_getD, List.getElem?_eq_getElem h1, List.getD_eq_getElem?_getD, List.getElem?_eq_getElem h2] at this
theorem val_take_of_le {xs : List Nat} {k : Nat} (h : xs.length ≤ k) : val (xs.take k) = val xs := by rw [List.take_of_length_le h]
/-- The next word of a list, or 0 behind its end. -/
theorem val_take_next (ys : List Nat) (k : Nat) : val (ys.take (k + 1)) = val (ys.take k) + 4294967296 ^ k * ys.getD k 0 := by
 by_cases h : k < ys.length
 ·exact val_take_succ ys h
 ·rw [val_take_of_le (by omega), val_take_of_le (by omega), getD_of_le (by omega)]; omega
theorem limb_take_set {zs : List Nat} {k y : Nat} (hk : k < zs.length) : val ((zs.set k y).take (k + 1)) = val (zs.take k) + 4294967296 ^ k * y := by
 rw [val_take_next, getD_set_self hk, List.take_set_of_le (by omega)]
end Go.Proofs.YtceobmnljdhkmaaGreatDoor
namespace Go.Proofs.YtceobmnljdhkmaaGreatDoor
open Go Go.RowKit
def lenBits (xs : List Nat) : Nat := if xs.length = 0 then 0 else 32 * (xs.length - 1) + blen (xs.getD (xs.length - 1) 0)
set_option maxHeartbeats 400000 in
theorem ref01_length {A : Option Addr} {n c : Nat} {xs : List Nat} {w : World} (h : Words w (.slice A n c) xs) :
  Calls Tryz.prog 149 #[.slice A n c] w fun e w' => e = .returned (.int .i64 ((lenBits xs : Nat) : Int)) ∧ w = w' := by
 obtain ⟨rfl, hl, hm⟩ := h.len
 have hL := h.limb
 by_cases h0 : xs.length = 0
 ·have h1 : ((xs.length : Int) == 0) = true := by simp [h0]
  have HB : Hid (lenBits xs = 0) := by show _ = _; simp [lenBits, h0]
  clear h0
  go_enter Tryz.func149, Tryz.ntmps149
  go_wp2
  go_ret
  exact ⟨by rw [HB.out]; rfl, rfl⟩
 ·have h1 : ((xs.length : Int) == 0) = false := beq_eq_false_iff_ne.2 (by omega)
  obtain ⟨b, off, rfl, hb, -, hcell⟩ := h.at_ (k := xs.length - 1) (by omega)
  have g1 := hcell (xs.length - 1) (by omega)
  have hx := hL.getD (xs.length - 1)
  have HB : Hid (lenBits xs = 32 * (xs.length - 1) + blen (xs.getD (xs.length - 1) 0)) := by show _ = _; simp [lenBits, h0]
  clear hcell h
  generalize xs.getD (xs.length - 1) 0 = x at *
  obtain ⟨k, hk⟩ : ∃ k, xs.length = k + 1 := ⟨xs.length - 1, by omega⟩
  generalize xs.length = n at *
  subst hk
  simp only [Nat.add_sub_cancel] at *
  have hbl := blen_le (k := 32) (x := x) (by omega)
  go_enter Tryz.func149, Tryz.ntmps149
  go_wp2
  go_loop [3, 4] (fun n y => ∃ (i z : Nat), n = .int .i64 (i : Int) ∧ y = .int .u32 (z : Int) ∧ z < 4294967296 ∧ i ≤ 32 ∧ Hid (i + blen z = blen x)) (fun _ y => (intOf y).toNat)
  case atStart => exact ⟨0, x, rfl, rfl, hx, by omega, by show _ = _; omega⟩
  case round =>
   obtain ⟨i, z, rfl, rfl, hz, hi, HI⟩ := hrel
   by_cases hz0 : z = 0
   ·subst hz0
    have hi2 : Hid (i = blen x) := by have := HI.out; rw [blen_zero] at this; exact this
    go_wp2
    go_ret
    exact ⟨by rw [HB.out, ← hi2.out]; go_num, rfl⟩
   ·have h5 : 0 < z := by omega
    have h6 : Hid (i + 1 + blen (z / 2) = blen x) := by have := HI.out; rw [blen_pos hz0] at this; show _ = _; omega
    have h7 : i + 1 ≤ 32 := by have := h6.out; omega
    go_wp2
    exact ⟨⟨i + 1, z / 2, by go_num, by go_num, by omega, h7, h6.out⟩, by simp [intOf]; omega⟩
theorem shl_fits {x s : Nat} (hs : s < 32) (hx : x < 4294967296) : x * 2 ^ s < 18446744073709551616 := by
 have h1 : 2 ^ s ≤ 2 ^ 31 := Nat.pow_le_pow_right (by omega) (by omega)
 have h2 : x * 2 ^ s ≤ 4294967296 * 2 ^ 31 := Nat.mul_le_mul (by omega) h1
 omega
theorem shl_wrap {x s : Nat} (hs : s < 32) (hx : x < 4294967296) : IntKind.u64.wrap ((x : Int) * 2 ^ s) = ((x * 2 ^ s : Nat) : Int) := by
 have h := shl_fits hs hx
 have e : (x : Int) * 2 ^ s = ((x * 2 ^ s : Nat) : Int) := by rw [Int.natCast_mul, Int.natCast_pow]; rfl
 rw [e, IntKind.wrap_u64]
 generalize x * 2 ^ s = y at *
 omega
theorem shl_lo {x s : Nat} (hs : s < 32) (hx : x < 4294967296) : IntKind.u64.wrap ((x : Int) * 2 ^ s) % 4294967296 = ((x * 2 ^ s % 4294967296 : Nat) : Int) := by
 rw [shl_wrap hs hx]; rfl
theorem shl_hi {x s : Nat} (hs : s < 32) (hx : x < 4294967296) : IntKind.u64.wrap ((x : Int) * 2 ^ s) / 4294967296 % 4294967296 = ((x * 2 ^ s / 4294967296 : Nat) : Int) := by
 rw [shl_wrap hs hx]
 have h := shl_fits hs hx
 generalize x * 2 ^ s = y at *
 omega
theorem shl_bits {x s z : Nat} (hs : s < 32) (hx : x < 4294967296) (hz : z < 2 ^ s) :
  bits .or .u32 (z : Int) (IntKind.u64.wrap ((x : Int) * 2 ^ s) % 4294967296) = ((z + x * 2 ^ s % 4294967296 : Nat) : Int) := by
 have h1 : 2 ^ s ≤ 2 ^ 31 := Nat.pow_le_pow_right (by omega) (by omega)
 rw [shl_lo hs hx, u32_or_nat _ _ (by omega) (Nat.mod_lt _ (by omega)), shl_or hs hz]
theorem shl_round {xs zs : List Nat} {k s : Nat} (hs : s < 32) (hk : k < xs.length) (hx : xs.getD k 0 < 4294967296) (h1 : zs.length = xs.length + 1) (h2 : Limb zs) (h4 : zs.getD k 0 < 2 ^ s) (h5 : ∀ j, k < j → zs.getD j 0 = 0) (h6 : val (zs.take (k + 1)) = val (xs.take k) * 2 ^ s) :
  ((zs.set k (zs.getD k 0 + xs.getD k 0 * 2 ^ s % 4294967296)).set (k + 1) (xs.getD k 0 * 2 ^ s / 4294967296)).length = xs.length + 1 ∧
  Limb ((zs.set k (zs.getD k 0 + xs.getD k 0 * 2 ^ s % 4294967296)).set (k + 1) (xs.getD k 0 * 2 ^ s / 4294967296)) ∧
  ((zs.set k (zs.getD k 0 + xs.getD k 0 * 2 ^ s % 4294967296)).set (k + 1) (xs.getD k 0 * 2 ^ s / 4294967296)).getD (k + 1) 0 < 2 ^ s ∧
  (∀ j, k + 1 < j → ((zs.set k (zs.getD k 0 + xs.getD k 0 * 2 ^ s % 4294967296)).set (k + 1) (xs.getD k 0 * 2 ^ s / 4294967296)).getD j 0 = 0) ∧
  val (((zs.set k (zs.getD k 0 + xs.getD k 0 * 2 ^ s % 4294967296)).set (k + 1) (xs.getD k 0 * 2 ^ s / 4294967296)).take (k + 1 + 1)) = val (xs.take (k + 1)) * 2 ^ s := by
 obtain ⟨s1, s2, s3⟩ := shl_step hs hx h4
 have hq : 2 ^ s ≤ 2 ^ 31 := Nat.pow_le_pow_right (by omega) (by omega)
 refine ⟨by simp [h1], limb_set (limb_set h2 s1) (by omega), ?_, fun j hj => ?_, ?_⟩
 ·rw [getD_set_self (by simp [h1]; omega)]; exact s2
 ·rw [getD_set_ne (by omega), getD_set_ne (by omega)]; exact h5 j (by omega)
 ·rw [limb_take_set (by simp [h1]; omega), limb_take_set (by omega), val_take_succ xs hk]
  rw [val_take_succ zs (by omega)] at h6
  rw [Nat.add_mul, ← h6, Nat.pow_succ]
  generalize 4294967296 ^ k = B at *
  generalize xs.getD k 0 = x at *
  generalize zs.getD k 0 = z at *
  have e : B * (z + x * 2 ^ s % 4294967296) + B * 4294967296 * (x * 2 ^ s / 4294967296) = B * (z + x * 2 ^ s) := by
   rw [Nat.mul_assoc, ← Nat.mul_add, s3]
  rw [Nat.add_assoc, e, Nat.mul_add, Nat.mul_assoc]
  omega
set_option maxHeartbeats 800000 in
theorem ref01_shifted {A : Option Addr} {n c s : Nat} {xs : List Nat} {w : World} (h : Words w (.slice A n c) xs) (hs : s < 32) (hn : n < 35184372088832) :
  Calls Tryz.prog 150 #[.slice A n c, .int .i64 (s : Int)] w (Ret w fun v w' => ∃ zs, v = .slice (some ⟨w.heap.size, 0, none⟩) (n + 1) (n + 1) ∧ Row w' w.heap.size zs ∧ Limb zs ∧ zs.length = n + 1 ∧ val zs = val xs * 2 ^ s) := by
 obtain ⟨rfl, hl, hm⟩ := h.len
 have hL := h.limb
 have H := Lib.hid h
 clear h
 have hmk := mk_words (xs.length + 1) (by omega)
 simp only [Int.natCast_add, Int.cast_ofNat_Int] at hmk
 have hp0 : 0 < 2 ^ s := Nat.pow_pos (by omega)
 have HP := Lib.hid hp0
 clear hp0
 go_enter Tryz.func150, Tryz.ntmps150
 go_wp2_with fail
 go_loopw [6] (fun i wr => ∃ (k : Nat) (zs : List Nat), k ≤ xs.length ∧ i = .int .i64 (k : Int) ∧ Hid (zs.length = xs.length + 1 ∧ Limb zs ∧ Row wr w.heap.size zs ∧ zs.getD k 0 < 2 ^ s ∧ (∀ j, k < j → zs.getD j 0 = 0) ∧ val (zs.take (k + 1)) = val (xs.take k) * 2 ^ s) ∧ Ext w wr) (fun i _ => xs.length - (intOf i).toNat)
 case atStart =>
  exact ⟨0, List.replicate (xs.length + 1) 0, by omega, rfl, ⟨by simp, limb_replicate _, Row.made _ _, by rw [getD_replicate]; exact HP.out, fun j _ => getD_replicate _ _, by simp [val, List.replicate_succ]⟩, (by repeat first|exact xA _|assumption|refine xB ?_ _|refine xC ?_|refine xD ?_ _|refine xE ?_ (by simp <;> omega) _|refine xF ?_ (by assumption))⟩
 case round =>
  obtain ⟨k, zs, hk, rfl, HZ, hE⟩ := hrel
  by_cases hk0 : k < xs.length
  ·obtain ⟨b, off, rfl, hb, -, hcell⟩ := (H.out.ext hE).at_ (k := k) (by omega)
   have g1 := hcell k (by omega)
   clear hcell
   have g2 := HZ.out.2.2.1.cell (k := k) (by have := HZ.out.1; omega)
   have g3 := HZ.out.2.2.1.frozen k
   have g4 := HZ.out.2.2.1.cell (k := k + 1) (by have := HZ.out.1; omega)
   have g5 := HZ.out.2.2.1.frozen (k + 1)
   have hx := hL.getD k
   have hz : zs.getD k 0 < 2 ^ s := HZ.out.2.2.2.1
   have HX := Lib.hid hx
   have HZ' := Lib.hid hz
   obtain ⟨z1, z2, z3, z4, z5, z6⟩ := HZ.out
   have HR := Lib.hid (shl_round hs hk0 hx z1 z2 z4 z5 z6)
   have HR2 := Lib.hid ((z3.set_ k (zs.getD k 0 + xs.getD k 0 * 2 ^ s % 4294967296)).set_ (k + 1) (xs.getD k 0 * 2 ^ s / 4294967296))
   clear hz z1 z2 z3 z4 z5 z6
   generalize xs.getD k 0 = x at *
   generalize zs.getD k 0 = z at *
   go_wp2
   rw [shl_bits hs HX.out HZ'.out, shl_hi hs HX.out]
   obtain ⟨r1, r2, r3, r4, r5⟩ := HR.out
   exact ⟨⟨k + 1, _, by omega, by go_num, ⟨r1, r2, HR2.out, r3, r4, r5⟩, (by repeat first|exact xA _|assumption|refine xB ?_ _|refine xC ?_|refine xD ?_ _|refine xE ?_ (by simp <;> omega) _|refine xF ?_ (by assumption))⟩, by simp [intOf]; omega⟩
  ·obtain rfl : k = xs.length := by omega
   obtain ⟨z1, z2, z3, z4, z5, z6⟩ := HZ.out
   rw [List.take_of_length_le (by omega), List.take_length] at z6
   have HF := Lib.hid (And.intro z3 (And.intro z2 (And.intro z1 z6)))
   clear z1 z2 z3 z4 z5 z6
   go_wp2
   go_ret
   exact ⟨_, rfl, ⟨zs, rfl, HF.out⟩, (by repeat first|exact xA _|assumption|refine xB ?_ _|refine xC ?_|refine xD ?_ _|refine xE ?_ (by simp <;> omega) _|refine xF ?_ (by assumption))⟩
end Go.Proofs.YtceobmnljdhkmaaGreatDoor
namespace Go.Proofs.YtceobmnljdhkmaaGreatDoor
open Go Go.RowKit
theorem back_next {xs zs : List Nat} {s k v : Nat} (hk : k < zs.length) (h : ∀ j, j < k → zs.getD j 0 = backAt xs s j) (hv : backAt xs s k = v) : ∀ j, j < k + 1 → (zs.set k v).getD j 0 = backAt xs s j := by
 intro j hj
 by_cases e : j = k
 ·subst e; rw [getD_set_self hk, hv]
 ·rw [getD_set_ne (by omega)]; exact h j (by omega)
set_option maxHeartbeats 800000 in
theorem ref01_back {A : Option Addr} {n c s : Nat} {xs : List Nat} {w : World} (h : Words w (.slice A n c) xs) (hs : s < 32) :
  Calls Tryz.prog 153 #[.slice A n c, .int .i64 (s : Int)] w (Ret w fun v w' => Words w' v (limbs (val xs / 2 ^ s))) := by
 obtain ⟨rfl, hl, hm⟩ := h.len
 have hL := h.limb
 have H := Lib.hid h
 clear h
 have hmk := mk_words xs.length (by omega)
 go_enter Tryz.func153, Tryz.ntmps153
 go_wp2_with fail
 go_loopw [6] (fun i wr => ∃ (k : Nat) (zs : List Nat), k ≤ xs.length ∧ i = .int .i64 (k : Int) ∧ Hid (zs.length = xs.length ∧ Row wr w.heap.size zs ∧ ∀ j, j < k → zs.getD j 0 = backAt xs s j) ∧ Ext w wr) (fun i _ => xs.length - (intOf i).toNat)
 case atStart =>
  exact ⟨0, List.replicate xs.length 0, by omega, rfl, ⟨by simp, Row.made _ _, fun j hj => absurd hj (by omega)⟩, (by repeat first|exact xA _|assumption|refine xB ?_ _|refine xC ?_|refine xD ?_ _|refine xE ?_ (by simp <;> omega) _|refine xF ?_ (by assumption))⟩
 case round =>
  obtain ⟨k, zs, hk, rfl, HZ, hE⟩ := hrel
  by_cases hk0 : k < xs.length
  ·obtain ⟨b, off, rfl, hb, -, hcell⟩ := (H.out.ext hE).at_ (k := k) (by omega)
   have g1 := hcell k (by omega)
   have g2 := HZ.out.2.1.cell (k := k) (by have := HZ.out.1; omega)
   have g3 := HZ.out.2.1.frozen k
   have hx := hL.getD k
   have hx2 := hL.getD (k + 1)
   have HB : Hid (backAt xs s k = ((xs.getD k 0 + 4294967296 * xs.getD (k + 1) 0) / 2 ^ s) % 4294967296) := rfl
   have HN : Hid (xs.length ≤ k + 1 → xs.getD (k + 1) 0 = 0) := fun h => getD_of_le h
   by_cases hk1 : k + 1 < xs.length
   ·have g4 := hcell (k + 1) (by omega)
    clear hcell
    generalize xs.getD k 0 = x at *
    generalize xs.getD (k + 1) 0 = y at *
    go_wp2
    rw [u64_or_lo _ _ hx2 hx, div_pow_cast]
    obtain ⟨z1, z2, z3⟩ := HZ.out
    exact ⟨⟨k + 1, _, by omega, by go_num, ⟨by simp [z1], z2.set_ _ _, back_next (by omega) z3 HB.out⟩, (by repeat first|exact xA _|assumption|refine xB ?_ _|refine xC ?_|refine xD ?_ _|refine xE ?_ (by simp <;> omega) _|refine xF ?_ (by assumption))⟩, by simp [intOf]; omega⟩
   ·clear hcell
    have h0 := HN.out (by omega)
    rw [h0, Nat.mul_zero, Nat.add_zero] at HB
    clear hx2 h0 HN
    generalize xs.getD k 0 = x at *
    go_wp2
    rw [div_pow_cast]
    obtain ⟨z1, z2, z3⟩ := HZ.out
    exact ⟨⟨k + 1, _, by omega, by go_num, ⟨by simp [z1], z2.set_ _ _, back_next (by omega) z3 HB.out⟩, (by repeat first|exact xA _|assumption|refine xB ?_ _|refine xC ?_|refine xD ?_ _|refine xE ?_ (by simp <;> omega) _|refine xF ?_ (by assumption))⟩, by simp [intOf]; omega⟩
  ·obtain rfl : k = xs.length := by omega
   obtain ⟨z1, z2, z3⟩ := HZ.out
   have e : zs = backL s xs := ext_getD (by rw [z1, backL_length]) fun j hj => by rw [z3 j (by omega), backL_getD s xs j (by omega)]
   have zL : Limb zs := by rw [e]; exact limb_backL _ _
   have hW := z2.words zL (c := xs.length) (by omega) (by omega)
   rw [z1] at hW
   have HT := Lib.hid (ref01_trim hW)
   have TW := hW.trim
   rw [trimL_eq_limbs zL, e, val_backL hs hL] at TW
   have TW' := Lib.hid TW
   rw [trimL_eq_limbs zL, e, val_backL hs hL] at HT
   clear hW e zL z1 z2 z3 TW
   go_wp2_with fail
   refine HT.out.mono ?_
   rintro e w' ⟨rfl, rfl⟩
   go_wp2_with fail
   go_ret
   exact ⟨_, rfl, TW'.out, (by repeat first|exact xA _|assumption|refine xB ?_ _|refine xC ?_|refine xD ?_ _|refine xE ?_ (by simp <;> omega) _|refine xF ?_ (by assumption))⟩
/-- What the difference's loop keeps: the words so far, the borrow. -/
theorem minus_step {X Y B x y b d : Nat} {o : Nat} (hx : x < 4294967296) (hy : y < 4294967296) (hb : b ≤ 1) (hd : d = x + 4294967296 - y - b) (ho : o = d % 4294967296) {Z : Nat} (h : Z + Y = X + B * b) :
  Z + B * o + (Y + B * y) = X + B * x + B * 4294967296 * (1 - d / 4294967296) ∧ 1 - d / 4294967296 ≤ 1 := by
 have e : o + y + b = x + 4294967296 * (1 - d / 4294967296) := by omega
 have e2 := congrArg (B * ·) e
 simp only [Nat.mul_add] at e2
 refine ⟨?_, by omega⟩
 rw [Nat.mul_assoc]
 omega
theorem minus_round {xs ys zs : List Nat} {k b : Nat} (hk : k < zs.length) (hx : xs.getD k 0 < 4294967296) (hy : ys.getD k 0 < 4294967296) (hb : b ≤ 1) (h : val (zs.take k) + val (ys.take k) = val (xs.take k) + 4294967296 ^ k * b) :
  val ((zs.set k ((xs.getD k 0 + 4294967296 - ys.getD k 0 - b) % 4294967296)).take (k + 1)) + val (ys.take (k + 1)) = val (xs.take (k + 1)) + 4294967296 ^ (k + 1) * (1 - (xs.getD k 0 + 4294967296 - ys.getD k 0 - b) / 4294967296) := by
 rw [limb_take_set hk, val_take_next, val_take_next, Nat.pow_succ]
 exact (minus_step hx hy hb rfl rfl h).1
set_option maxHeartbeats 800000 in
theorem ref01_minus {A A' : Option Addr} {n m c c' : Nat} {xs ys : List Nat} {w : World} (h : Words w (.slice A n c) xs) (h' : Words w (.slice A' m c') ys) (hle : val ys ≤ val xs) (hmn : m ≤ n) :
  Calls Tryz.prog 152 #[.slice A n c, .slice A' m c'] w (Ret w fun v w' => FreshV w.heap.size v ∧ Words w' v (limbs (val xs - val ys))) := by
 obtain ⟨rfl, hl, hm⟩ := h.len
 obtain ⟨rfl, hl', hm'⟩ := h'.len
 have hL := h.limb
 have hL' := h'.limb
 have H := Lib.hid h
 have H' := Lib.hid h'
 have HLE := Lib.hid hle
 clear h h' hle
 have hmk := mk_words xs.length (by omega)
 go_enter Tryz.func152, Tryz.ntmps152
 go_wp2_with fail
 go_loopw [6, 7] (fun r i wr => ∃ (k b : Nat) (zs : List Nat), k ≤ xs.length ∧ i = .int .i64 (k : Int) ∧ r = .int .u64 (b : Int) ∧ b ≤ 1 ∧ Hid (zs.length = xs.length ∧ Limb zs ∧ Row wr w.heap.size zs ∧ val (zs.take k) + val (ys.take k) = val (xs.take k) + 4294967296 ^ k * b) ∧ Ext w wr) (fun _ i _ => xs.length - (intOf i).toNat)
 case atStart =>
  exact ⟨0, 0, List.replicate xs.length 0, by omega, rfl, rfl, by omega, ⟨by simp, limb_replicate _, Row.made _ _, by simp [val]⟩, (by repeat first|exact xA _|assumption|refine xB ?_ _|refine xC ?_|refine xD ?_ _|refine xE ?_ (by simp <;> omega) _|refine xF ?_ (by assumption))⟩
 case round =>
  obtain ⟨k, b, zs, hk, rfl, rfl, hb1, HZ, hE⟩ := hrel
  by_cases hk0 : k < xs.length
  ·obtain ⟨bb, off, rfl, hb, -, hcell⟩ := (H.out.ext hE).at_ (k := k) (by omega)
   have g1 := hcell k (by omega)
   have g2 := HZ.out.2.2.1.cell (k := k) (by have := HZ.out.1; omega)
   have g3 := HZ.out.2.2.1.frozen k
   have hx := hL.getD k
   have hy := hL'.getD k
   clear hcell
   by_cases hk1 : k < ys.length
   ·obtain ⟨bb', off', rfl, hb', -, hcell'⟩ := (H'.out.ext hE).at_ (k := k) (by omega)
    have g4 := hcell' k (by omega)
    clear hcell'
    obtain ⟨z1, z2, z3, z4⟩ := HZ.out
    have HR := Lib.hid (minus_round (by omega) hx hy hb1 z4)
    have HS := Lib.hid (z3.set_ k ((xs.getD k 0 + 4294967296 - ys.getD k 0 - b) % 4294967296))
    have HQ : Hid (Limb (zs.set k ((xs.getD k 0 + 4294967296 - ys.getD k 0 - b) % 4294967296))) := limb_set z2 (Nat.mod_lt _ (by omega))
    have HN := Lib.hid z1
    clear z1 z2 z3 z4
    generalize xs.getD k 0 = x at *
    generalize ys.getD k 0 = y at *
    go_wp2
    rw [show ((x : Int) + 4294967296 - y - b) % 4294967296 = (((x + 4294967296 - y - b) % 4294967296 : Nat) : Int) by omega,
     show (1 : Int) - ((x : Int) + 4294967296 - y - b) / 4294967296 = ((1 - (x + 4294967296 - y - b) / 4294967296 : Nat) : Int) by omega]
    exact ⟨⟨k + 1, _, _, by omega, by go_num, rfl, by omega, ⟨by simp [HN.out], HQ.out, HS.out, HR.out⟩, (by repeat first|exact xA _|assumption|refine xB ?_ _|refine xC ?_|refine xD ?_ _|refine xE ?_ (by simp <;> omega) _|refine xF ?_ (by assumption))⟩, by simp [intOf]; omega⟩
   ·obtain ⟨z1, z2, z3, z4⟩ := HZ.out
    have hy0 : ys.getD k 0 = 0 := getD_of_le (by omega)
    have HR' := minus_round (zs := zs) (by omega) hx hy hb1 z4
    rw [hy0, Nat.sub_zero] at HR'
    have HR := Lib.hid HR'
    have HS := Lib.hid (z3.set_ k ((xs.getD k 0 + 4294967296 - b) % 4294967296))
    have HQ : Hid (Limb (zs.set k ((xs.getD k 0 + 4294967296 - b) % 4294967296))) := limb_set z2 (Nat.mod_lt _ (by omega))
    have HN := Lib.hid z1
    clear z1 z2 z3 z4 HR' hy0 hy
    generalize xs.getD k 0 = x at *
    go_wp2
    rw [show ((x : Int) + 4294967296 - b) % 4294967296 = (((x + 4294967296 - b) % 4294967296 : Nat) : Int) by omega,
     show (1 : Int) - ((x : Int) + 4294967296 - b) / 4294967296 = ((1 - (x + 4294967296 - b) / 4294967296 : Nat) : Int) by omega]
    exact ⟨⟨k + 1, _, _, by omega, by go_num, rfl, by omega, ⟨by simp [HN.out], HQ.out, HS.out, HR.out⟩, (by repeat first|exact xA _|assumption|refine xB ?_ _|refine xC ?_|refine xD ?_ _|refine xE ?_ (by simp <;> omega) _|refine xF ?_ (by assumption))⟩, by simp [intOf]; omega⟩
  ·obtain rfl : k = xs.length := by omega
   obtain ⟨z1, z2, z3, z4⟩ := HZ.out
   rw [List.take_of_length_le (by omega), List.take_of_length_le hmn, List.take_length] at z4
   have hlt := val_lt z2
   rw [z1] at hlt
   have hle := HLE.out
   have hb0 : b = 0 := by
    rcases Nat.lt_or_ge 0 b with h1 | h1
    ·obtain rfl : b = 1 := by omega
     omega
    ·omega
   rw [hb0, Nat.mul_zero] at z4
   have hv : val zs = val xs - val ys := by omega
   have hW := z3.words z2 (c := xs.length) (by omega) (by omega)
   rw [z1] at hW
   have HT := Lib.hid (ref01_trim hW)
   have TW := hW.trim
   rw [trimL_eq_limbs z2, hv] at TW
   have TW' := Lib.hid TW
   rw [trimL_eq_limbs z2, hv] at HT
   clear hW z1 z2 z3 z4 TW hlt hle hb0 hv
   go_wp2_with fail
   refine HT.out.mono ?_
   rintro e w' ⟨rfl, rfl⟩
   go_wp2_with fail
   go_ret
   exact ⟨_, rfl, ⟨FreshV.mk _ (Nat.le_refl _), TW'.out⟩, (by repeat first|exact xA _|assumption|refine xB ?_ _|refine xC ?_|refine xD ?_ _|refine xE ?_ (by simp <;> omega) _|refine xF ?_ (by assumption))⟩
end Go.Proofs.YtceobmnljdhkmaaGreatDoor
namespace Go.Proofs.YtceobmnljdhkmaaGreatDoor
open Go Go.RowKit
theorem times_bound {c o x y : Nat} (hc : c < 4294967296) (ho : o < 4294967296) (hx : x < 4294967296) (hy : y < 4294967296) : x * y ≤ 18446744065119617025 ∧ c + o + x * y < 18446744073709551616 := by
 have h : x * y ≤ 4294967295 * 4294967295 := Nat.mul_le_mul (by omega) (by omega)
 omega
theorem times_inner {zs ys : List Nat} {i k c x T : Nat} (hk : i + k < zs.length) (h : val zs + 4294967296 ^ (i + k) * c = T + 4294967296 ^ i * x * val (ys.take k)) :
  val (zs.set (i + k) ((c + zs.getD (i + k) 0 + x * ys.getD k 0) % 4294967296)) + 4294967296 ^ (i + (k + 1)) * ((c + zs.getD (i + k) 0 + x * ys.getD k 0) / 4294967296) = T + 4294967296 ^ i * x * val (ys.take (k + 1)) := by
 have h1 := val_set hk ((c + zs.getD (i + k) 0 + x * ys.getD k 0) % 4294967296)
 rw [val_take_next, Nat.mul_add, ← Nat.add_assoc T, ← h]
 have e : 4294967296 ^ i * x * (4294967296 ^ k * ys.getD k 0) = 4294967296 ^ (i + k) * (x * ys.getD k 0) := by
  rw [Nat.pow_add]
  rw [Nat.mul_assoc, Nat.mul_assoc, Nat.mul_left_comm x]
 rw [e, show i + (k + 1) = i + k + 1 by omega, Nat.pow_succ]
 generalize 4294967296 ^ (i + k) = B at *
 generalize x * ys.getD k 0 = p at *
 generalize zs.getD (i + k) 0 = o at *
 have e2 : B * ((c + o + p) % 4294967296) + B * 4294967296 * ((c + o + p) / 4294967296) = B * c + B * o + B * p := by
  rw [Nat.mul_assoc, ← Nat.mul_add, ← Nat.mul_add, ← Nat.mul_add]
  congr 1
  omega
 omega
theorem times_outer {zs xs ys : List Nat} {i c : Nat} (hi : i < xs.length) (hl : zs.length = xs.length + ys.length) (h0 : zs.getD (i + ys.length) 0 = 0)
  (h : val zs + 4294967296 ^ (i + ys.length) * c = val (xs.take i) * val ys + 4294967296 ^ i * xs.getD i 0 * val (ys.take ys.length)) :
  val (zs.set (i + ys.length) c) = val (xs.take (i + 1)) * val ys := by
 have h1 := val_set (xs := zs) (j := i + ys.length) (by omega) c
 rw [h0, Nat.mul_zero, Nat.add_zero, h, List.take_length] at h1
 rw [h1, val_take_succ xs hi, Nat.add_mul]
set_option maxHeartbeats 1600000 in
theorem ref01_times {A A' : Option Addr} {n m c c' : Nat} {xs ys : List Nat} {w : World} (h : Words w (.slice A n c) xs) (h' : Words w (.slice A' m c') ys) (hsz : n + m ≤ 35184372088832) :
  Calls Tryz.prog 195 #[.slice A n c, .slice A' m c'] w (Ret w fun v w' => FreshV w.heap.size v ∧ Words w' v (limbs (val xs * val ys))) := by
 obtain ⟨rfl, hl, hm⟩ := h.len
 obtain ⟨rfl, hl', hm'⟩ := h'.len
 have hL := h.limb
 have hL' := h'.limb
 have H := Lib.hid h
 have H' := Lib.hid h'
 clear h h'
 have hmk := mk_words (xs.length + ys.length) (by omega)
 simp only [Int.natCast_add] at hmk
 go_enter Tryz.func195, Tryz.ntmps195
 go_wp2_with fail
 go_loopw [6] (fun i wr => ∃ (k : Nat) (zs : List Nat), k ≤ xs.length ∧ i = .int .i64 (k : Int) ∧ Hid (zs.length = xs.length + ys.length ∧ Limb zs ∧ Row wr w.heap.size zs ∧ (∀ j, k + ys.length ≤ j → zs.getD j 0 = 0) ∧ val zs = val (xs.take k) * val ys) ∧ Ext w wr) (fun i _ => xs.length - (intOf i).toNat)
 case atStart =>
  exact ⟨0, List.replicate (xs.length + ys.length) 0, by omega, rfl, ⟨by simp, limb_replicate _, Row.made _ _, fun j _ => getD_replicate _ _, by rw [val_replicate]; simp [val]⟩, (by repeat first|exact xA _|assumption|refine xB ?_ _|refine xC ?_|refine xD ?_ _|refine xE ?_ (by simp <;> omega) _|refine xF ?_ (by assumption))⟩
 case round =>
  obtain ⟨i, zs, hi, rfl, HZ, hE⟩ := hrel
  obtain ⟨wo, rfl⟩ : ∃ wo : World, wo = wr := ⟨_, rfl⟩
  by_cases hi0 : i < xs.length
  ·obtain ⟨b, off, rfl, hb, -, hcell⟩ := (H.out.ext hE).at_ (k := i) (by omega)
   have hx := hL.getD i
   have HC := Lib.hid (hcell i (by omega))
   clear hcell
   go_wp2_with fail
   go_loopw [7, 8] (fun r i' wr => ∃ (k cc : Nat) (zs : List Nat), k ≤ ys.length ∧ i' = .int .i64 (k : Int) ∧ r = .int .u64 (cc : Int) ∧ cc < 4294967296 ∧ Hid (zs.length = xs.length + ys.length ∧ Limb zs ∧ Row wr w.heap.size zs ∧ (∀ j, i + ys.length ≤ j → zs.getD j 0 = 0) ∧ val zs + 4294967296 ^ (i + k) * cc = val (xs.take i) * val ys + 4294967296 ^ i * xs.getD i 0 * val (ys.take k)) ∧ Ext w wr) (fun _ i' _ => ys.length - (intOf i').toNat)
   case atStart =>
    obtain ⟨z1, z2, z3, z4, z5⟩ := HZ.out
    exact ⟨0, 0, zs, by omega, rfl, rfl, by omega, ⟨z1, z2, z3, z4, by rw [z5]; simp [val]⟩, hE⟩
   case round =>
    obtain ⟨k, cc, zs', hk, rfl, rfl, hcc, HZ', hE'⟩ := hrel
    by_cases hk0 : k < ys.length
    ·obtain ⟨b', off', rfl, hb', -, hcell'⟩ := (H'.out.ext hE').at_ (k := k) (by omega)
     have g1 : wr.cell? ⟨b, off + i, none⟩ = some (.int .u32 ((xs.getD i 0 : Nat) : Int)) := by
      obtain ⟨b2, off2, e, _, _, hc2⟩ := (H.out.ext hE').at_ (k := i) (by omega)
      obtain ⟨rfl, rfl⟩ : b = b2 ∧ off = off2 := by injection e with e; injection e with e1 e2; exact ⟨e1, e2⟩
      exact hc2 i (by omega)
     have g2 := hcell' k (by omega)
     have g3 := HZ'.out.2.2.1.cell (k := i + k) (by have := HZ'.out.1; omega)
     have g4 := HZ'.out.2.2.1.frozen (i + k)
     have hy := hL'.getD k
     have hz := HZ'.out.2.1.getD (i + k)
     clear hcell'
     obtain ⟨z1, z2, z3, z4, z5⟩ := HZ'.out
     have HR := Lib.hid (times_inner (by omega) z5)
     have HS := Lib.hid (z3.set_ (i + k) ((cc + zs'.getD (i + k) 0 + xs.getD i 0 * ys.getD k 0) % 4294967296))
     have HQ : Hid (Limb (zs'.set (i + k) ((cc + zs'.getD (i + k) 0 + xs.getD i 0 * ys.getD k 0) % 4294967296))) := limb_set z2 (Nat.mod_lt _ (by omega))
     have HN := Lib.hid z1
     have HF : Hid (∀ j, i + ys.length ≤ j → (zs'.set (i + k) ((cc + zs'.getD (i + k) 0 + xs.getD i 0 * ys.getD k 0) % 4294967296)).getD j 0 = 0) := fun j hj => by rw [getD_set_ne (by omega)]; exact z4 j hj
     obtain ⟨b1, b2⟩ := times_bound hcc hz hx hy
     have hp0 : (0 : Int) ≤ (xs.getD i 0 : Int) * (ys.getD k 0 : Int) := Int.mul_nonneg (Int.natCast_nonneg _) (Int.natCast_nonneg _)
     clear z1 z2 z3 z4 z5
     generalize xs.getD i 0 = x at *
     generalize ys.getD k 0 = y at *
     generalize zs'.getD (i + k) 0 = z at *
     go_wp2
     go_quiet (fail)
     go_wp2
     rw [show ((cc : Int) + z + x * y) % 4294967296 = (((cc + z + x * y) % 4294967296 : Nat) : Int) by rw [Int.natCast_emod, Int.natCast_add, Int.natCast_add, Int.natCast_mul]; rfl,
      show ((cc : Int) + z + x * y) / 4294967296 = (((cc + z + x * y) / 4294967296 : Nat) : Int) by rw [Int.natCast_ediv, Int.natCast_add, Int.natCast_add, Int.natCast_mul]; rfl]
     exact ⟨⟨k + 1, _, _, by omega, by go_num, rfl, by omega, ⟨by simp [HN.out], HQ.out, HS.out, HF.out, HR.out⟩, (by repeat first|exact xA _|assumption|refine xB ?_ _|refine xC ?_|refine xD ?_ _|refine xE ?_ (by simp <;> omega) _|refine xF ?_ (by assumption))⟩, by simp [intOf]; omega⟩
    ·obtain rfl : k = ys.length := by omega
     obtain ⟨z1, z2, z3, z4, z5⟩ := HZ'.out
     have g3 := z3.cell (k := i + ys.length) (by omega)
     have g4 := z3.frozen (i + ys.length)
     have HR := Lib.hid (times_outer hi0 z1 (z4 _ (Nat.le_refl _)) z5)
     have HS := Lib.hid (z3.set_ (i + ys.length) cc)
     have HQ : Hid (Limb (zs'.set (i + ys.length) cc)) := limb_set z2 hcc
     have HN := Lib.hid z1
     have HF : Hid (∀ j, i + 1 + ys.length ≤ j → (zs'.set (i + ys.length) cc).getD j 0 = 0) := fun j hj => by rw [getD_set_ne (by omega)]; exact z4 j (by omega)
     clear z1 z2 z3 z4 z5
     generalize zs'.getD (i + ys.length) 0 = z at *
     go_wp2
     exact ⟨⟨i + 1, _, by omega, by go_num, ⟨by simp [HN.out], HQ.out, HS.out, HF.out, HR.out⟩, (by repeat first|exact xA _|assumption|refine xB ?_ _|refine xC ?_|refine xD ?_ _|refine xE ?_ (by simp <;> omega) _|refine xF ?_ (by assumption))⟩, by simp [intOf]; omega⟩
  ·obtain rfl : i = xs.length := by omega
   obtain ⟨z1, z2, z3, z4, z5⟩ := HZ.out
   rw [List.take_length] at z5
   have hW := z3.words z2 (c := xs.length + ys.length) (by omega) (by omega)
   rw [z1] at hW
   have HT := Lib.hid (ref01_trim hW)
   have TW := hW.trim
   rw [trimL_eq_limbs z2, z5] at TW
   have TW' := Lib.hid TW
   rw [trimL_eq_limbs z2, z5] at HT
   clear hW z1 z2 z3 z4 z5 TW
   go_wp2_with fail
   refine HT.out.mono ?_
   rintro e w' ⟨rfl, rfl⟩
   go_wp2_with fail
   go_ret
   exact ⟨_, rfl, ⟨FreshV.mk _ (Nat.le_refl _), TW'.out⟩, (by repeat first|exact xA _|assumption|refine xB ?_ _|refine xC ?_|refine xD ?_ _|refine xE ?_ (by simp <;> omega) _|refine xF ?_ (by assumption))⟩
end Go.Proofs.YtceobmnljdhkmaaGreatDoor
namespace Go.Proofs.YtceobmnljdhkmaaGreatDoor
/-- The quotient of the highest parts is at least the quotient's digit. -/
theorem digit_upper {U V t h B q : Nat} (hU : U / B = t) (hV : h * B ≤ V) (hB : 0 < B) (hh : 0 < h) (hq : q * V ≤ U) : q ≤ t / h := by
 rw [Nat.le_div_iff_mul_le hh, ← hU, Nat.le_div_iff_mul_le hB]
 calc q * h * B = q * (h * B) := Nat.mul_assoc ..
  _ ≤ q * V := Nat.mul_le_mul_left _ hV
  _ ≤ U := hq
/-- A digit whose product with the divisor's highest part exceeds that of the dividend is too great. -/
theorem digit_too_great {U V U2 V2 B q d : Nat} (hU : U / B = U2) (hV : V2 * B ≤ V) (hB : 0 < B) (hq : q * V ≤ U) (h : U2 < d * V2) : q < d := by
 rcases Nat.lt_or_ge q d with h1 | h1
 ·exact h1
 ·exfalso
  have h2 : d * V2 ≤ U2 := by
   rw [← hU, Nat.le_div_iff_mul_le hB]
   calc d * V2 * B = d * (V2 * B) := Nat.mul_assoc ..
    _ ≤ d * V := Nat.mul_le_mul_left _ hV
    _ ≤ q * V := Nat.mul_le_mul_right _ h1
    _ ≤ U := hq
  omega
/-- A digit whose product with the divisor's highest part fits is at most one too great. -/
theorem digit_near {U V U2 V2 B q d C : Nat} (hU : U2 * B ≤ U) (hV : V < (V2 + 1) * B) (hd : d * B ≤ C) (hC : C ≤ V) (hq : U < (q + 1) * V) (h : d * V2 ≤ U2) : d ≤ q + 1 := by
 rcases Nat.lt_or_ge (q + 1) d with h1 | h1
 ·exfalso
  have e1 : (q + 2) * V ≤ d * V := Nat.mul_le_mul_right _ h1
  have e2 : d * V ≤ d * ((V2 + 1) * B) := Nat.mul_le_mul_left _ (Nat.le_of_lt hV)
  have e3 : d * ((V2 + 1) * B) = d * V2 * B + d * B := by rw [Nat.add_mul, Nat.mul_add, Nat.one_mul, Nat.mul_assoc]
  have e4 : d * V2 * B ≤ U2 * B := Nat.mul_le_mul_right _ h
  have e5 : (q + 2) * V = (q + 1) * V + V := by rw [Nat.add_mul, Nat.add_mul]; omega
  omega
 ·exact h1
/-- A digit that leaves at least the base as the rest of the highest parts is not too great. -/
theorem digit_low {U V t h B q d b : Nat} (hU : t * B ≤ U) (hV : V ≤ (h + 1) * B) (hd : d ≤ b) (hr : d * h + b ≤ t) (hq : U < (q + 1) * V) : d ≤ q := by
 rcases Nat.lt_or_ge q d with h1 | h1
 ·exfalso
  have e1 : (q + 1) * V ≤ d * V := Nat.mul_le_mul_right _ h1
  have e2 : d * V ≤ d * ((h + 1) * B) := Nat.mul_le_mul_left _ hV
  have e3 : d * ((h + 1) * B) = (d * h + d) * B := by rw [← Nat.mul_assoc, Nat.mul_add, Nat.mul_one]
  have e4 : (d * h + d) * B ≤ t * B := Nat.mul_le_mul_right _ (by omega)
  omega
 ·exact h1
end Go.Proofs.YtceobmnljdhkmaaGreatDoor
namespace Go.Proofs.YtceobmnljdhkmaaGreatDoor
open Go Go.RowKit
theorem limbs_length_mono {m n : Nat} (h : m ≤ n) : (limbs m).length ≤ (limbs n).length := by
 rcases Nat.lt_or_ge (limbs n).length (limbs m).length with h1 | h1
 ·have := lt_of_limbs_length_lt h1; omega
 ·exact h1
/-- The highest two words of a list, and what is below them. -/
theorem val_top2 {xs : List Nat} {k : Nat} (hl : xs.length = k + 2) (hL : Limb xs) : val xs / 4294967296 ^ k = xs.getD k 0 + 4294967296 * xs.getD (k + 1) 0 := by
 have h0 : 0 < 4294967296 ^ k := Nat.pow_pos (by omega)
 have h1 : val (xs.take k) < 4294967296 ^ k := by
  have := val_lt (hL.take k)
  rwa [List.length_take, Nat.min_eq_left (by omega)] at this
 rw [val_split xs k (by omega), Nat.add_mul_div_left _ _ h0, Nat.div_eq_of_lt h1, Nat.zero_add, val_drop xs (by omega), val_drop xs (by omega), List.drop_of_length_le (by omega)]
 simp [val]
theorem val_top1 {ys : List Nat} {k : Nat} (hl : ys.length = k + 1) : ys.getD k 0 * 4294967296 ^ k ≤ val ys := by
 rw [val_split ys k (by omega), val_drop ys (by omega), List.drop_of_length_le (by omega), Nat.mul_comm]
 simp [val]
theorem val_top1_lt {ys : List Nat} {k : Nat} (hl : ys.length = k + 1) (hL : Limb ys) : val ys < (ys.getD k 0 + 1) * 4294967296 ^ k := by
 have h1 : val (ys.take k) < 4294967296 ^ k := by
  have := val_lt (hL.take k)
  rwa [List.length_take, Nat.min_eq_left (by omega)] at this
 rw [val_split ys k (by omega), val_drop ys (by omega), List.drop_of_length_le (by omega), Nat.add_mul, Nat.one_mul, Nat.mul_comm (ys.getD k 0)]
 simp [val]; omega
theorem top_pos {V k : Nat} (hl : (limbs V).length = k + 1) : 0 < (limbs V).getD k 0 := by
 rcases Nat.lt_or_ge 0 ((limbs V).getD k 0) with h | h
 ·exact h
 ·exfalso
  have h1 := val_top1_lt hl (limb_limbs V)
  have h2 : (limbs V).getD k 0 = 0 := by omega
  rw [h2, val_limbs] at h1
  have := limbs_length_le (n := V) (k := k) (by simpa using h1)
  omega
/-- The first guess of a digit is not too small. -/
theorem guess_upper {xs : List Nat} {V k : Nat} (hl : xs.length = k + 2) (hL : Limb xs) (hk : (limbs V).length = k + 1) :
  val xs / V ≤ (xs.getD k 0 + 4294967296 * xs.getD (k + 1) 0) / (limbs V).getD k 0 := by
 have h1 := val_top1 hk
 rw [val_limbs] at h1
 exact digit_upper (val_top2 hl hL) h1 (Nat.pow_pos (by omega)) (top_pos hk) (Nat.div_mul_le_self _ _)
set_option maxHeartbeats 1600000 in
theorem ref01_digit {A A' : Option Addr} {c c' V k : Nat} {xs : List Nat} {w : World} (h : Words w (.slice A (k + 2) c) xs) (h' : Words w (.slice A' (k + 1) c') (limbs V)) (hlt : val xs < V * 4294967296) (hk : k + 2 ≤ 35184372088832) :
  Calls Tryz.prog 151 #[.slice A (k + 2) c, .slice A' (k + 1) c'] w (Ret w fun v w' => ∃ v', v = .tuple #[.int .u32 ((val xs / V : Nat) : Int), v'] ∧ FreshV w.heap.size v' ∧ Words w' v' (limbs (val xs / V * V))) := by
 obtain ⟨hxl, hl, hm⟩ := h.len
 obtain ⟨hyl, hl', hm'⟩ := h'.len
 have hL := h.limb
 have HG := Lib.hid (guess_upper hxl.symm hL hyl.symm)
 have HLT := Lib.hid hlt
 have ht := top_pos hyl.symm
 have HX := Lib.hid hxl
 have HY := Lib.hid hyl
 obtain ⟨b, off, rfl, hb, -, hcell⟩ := h.at_ (k := 0) (by omega)
 obtain ⟨b', off', rfl, hb', -, hcell'⟩ := h'.at_ (k := 0) (by omega)
 have g1 := hcell (k + 1) (by omega)
 have g2 := hcell k (by omega)
 have g3 := hcell' k (by omega)
 have hx1 := hL.getD (k + 1)
 have hx0 := hL.getD k
 have hy0 := (limb_limbs V).getD k
 have H := Lib.hid h
 have H' := Lib.hid h'
 clear h h' hlt hcell hcell' hxl hyl
 generalize xs.getD (k + 1) 0 = x1 at *
 generalize xs.getD k 0 = x0 at *
 generalize (limbs V).getD k 0 = y at *
 go_enter Tryz.func151, Tryz.ntmps151
 go_wp2_with fail
 go_quiet (fail)
 go_upto_if 32 with fail
 go_cut [7] (fun s7 wx => ∃ Q : Nat, s7 = .int .u64 (Q : Int) ∧ Q < 4294967296 ∧ Hid (val xs / V ≤ Q) ∧ Ext w wx)
 case first =>
  have hq : IntKind.u64.wrap ((bits BinOp.or IntKind.u64 ((x1 : Int) * 4294967296) (x0 : Int)).tdiv (y : Int)) = (((x0 + 4294967296 * x1) / y : Nat) : Int) := by
   rw [u64_or_hi _ _ hx1 hx0, ← Int.ofNat_tdiv, IntKind.wrap_u64]
   have := Nat.div_le_self (x0 + 4294967296 * x1) y
   generalize (x0 + 4294967296 * x1) / y = q at *
   omega
  rw [hq]
  generalize (x0 + 4294967296 * x1) / y = G at *
  by_cases hG : 4294967295 < G
  ·clear hq
   go_wp2_with fail
   go_meet
   exact ⟨4294967295, rfl, by omega, by
    have h1 : val xs / V < 4294967296 := Nat.div_lt_of_lt_mul HLT.out
    show _ ≤ _; omega, (by repeat first|exact xA _|assumption|refine xB ?_ _|refine xC ?_|refine xD ?_ _|refine xE ?_ (by simp <;> omega) _|refine xF ?_ (by assumption))⟩
  ·clear hq
   go_wp2_with fail
   go_meet
   exact ⟨G, rfl, by omega, HG.out, (by repeat first|exact xA _|assumption|refine xB ?_ _|refine xC ?_|refine xD ?_ _|refine xE ?_ (by simp <;> omega) _|refine xF ?_ (by assumption))⟩
 case rest =>
  obtain ⟨Q, rfl, hQ, HQ, hE⟩ := hcut
  have hrow : Row (wc.alloc (.cells #[.int .u32 (Q : Int)] 164)) wc.heap.size [Q] := by
   unfold Row
   rw [heap_alloc_new]
   simp [wordVs]
  have hW := hrow.words (Limb.cons hQ Limb.nil) (c := 1) (by simp) (by omega)
  have HT := ref01_times ((H'.out.ext hE).ext (Ext.alloc wc _)) hW (by simp; omega)
  rw [show val [Q] = Q by simp [val], val_limbs, Nat.mul_comm] at HT
  have HT' := Lib.hid HT
  clear hrow hW HT
  go_wp2_with fail
  refine HT'.out.mono ?_
  rintro e w1 ⟨v, rfl, ⟨hfr, hv⟩, hx⟩
  have HV := Lib.hid (And.intro (hfr.mono (B' := w.heap.size) (by have := hE.size; simp; omega)) hv)
  have HE1 : Ext w w1 := hE.trans ((Ext.alloc wc _).trans hx)
  clear hv hfr HT' hx g1 g2 g3 HG
  go_wp2_with fail
  go_loopw [7, 8] (fun q p wr => ∃ Q : Nat, q = .int .u64 (Q : Int) ∧ Q < 4294967296 ∧ Hid (val xs / V ≤ Q) ∧ Hid (FreshV w.heap.size p ∧ Words wr p (limbs (Q * V))) ∧ Ext w wr) (fun q _ _ => (intOf q).toNat)
  case atStart => exact ⟨Q, rfl, hQ, HQ, HV, HE1⟩
  case round =>
   obtain ⟨Q1, rfl, hQ1, HQ1, HP, hE1⟩ := hrel
   obtain ⟨A2, c2, rfl, hl2, hm2⟩ := HP.out.2.form
   have hx1' := H.out.ext hE1
   have HT1 := Lib.hid (ref01_trim hx1')
   have hT := hx1'.trim
   have hC := ref01_compare hT HP.out.2
   rw [trimL_eq_limbs hL, cmpW_limbs] at hC
   rw [trimL_eq_limbs hL] at HT1
   have HC := Lib.hid hC
   clear hx1' hT hC
   by_cases hless : val xs < Q1 * V
   ·rw [if_pos hless] at HC
    go_wp2_with fail
    refine HT1.out.mono ?_
    rintro e w2 ⟨rfl, rfl⟩
    go_wp2_with fail
    refine HC.out.mono ?_
    rintro e w2 ⟨rfl, hx2⟩
    have hV0 : 0 < V := by
     rcases Nat.eq_zero_or_pos V with h0 | h0
     ·rw [h0] at hless; simp at hless
     ·exact h0
    have hQ0 : 0 < Q1 := by
     rcases Nat.eq_zero_or_pos Q1 with h0 | h0
     ·rw [h0] at hless; simp at hless
     ·exact h0
    have hQV : V ≤ Q1 * V := Nat.le_mul_of_pos_left V hQ0
    have e1 : Q1 * V - V = (Q1 - 1) * V := by rw [Nat.sub_mul, Nat.one_mul]
    have HQ2 : Hid (val xs / V ≤ Q1 - 1) := by
     have : val xs / V < Q1 := (Nat.div_lt_iff_lt_mul hV0).2 hless
     show _ ≤ _; omega
    have HM := ref01_minus (HP.out.2.ext hx2) ((H'.out.ext hE1).ext hx2) (by rw [val_limbs, val_limbs]; exact hQV) (by rw [HY.out]; exact limbs_length_mono hQV)
    rw [val_limbs, val_limbs, e1] at HM
    have HM' := Lib.hid HM
    clear HM e1 hQV hless HC HT1 HP
    go_wp2_with fail
    refine HM'.out.mono ?_
    rintro e w3 ⟨v3, rfl, ⟨hfr3, hv3⟩, hx3⟩
    have HV3 := Lib.hid (And.intro (hfr3.mono (B' := w.heap.size) (Nat.le_trans hE1.size hx2.size)) hv3)
    clear hv3 hfr3
    go_wp2_with fail
    refine ⟨⟨Q1 - 1, ?_, by omega, HQ2, HV3, (by repeat first|exact xA _|assumption|refine xB ?_ _|refine xC ?_|refine xD ?_ _|refine xE ?_ (by simp <;> omega) _|refine xF ?_ (by assumption))⟩, ?_⟩
    ·rw [Int.natCast_sub (by omega)]; rfl
    ·simp [intOf]; omega
   ·have hV0 : 0 < V := by
     rcases Nat.eq_zero_or_pos V with h0 | h0
     ·have := HY.out; rw [h0, limbs_zero] at this; simp at this
     ·exact h0
    have HF : Hid (val xs / V = Q1) := by
     have h1 := HQ1.out
     have h2 : Q1 ≤ val xs / V := (Nat.le_div_iff_mul_le hV0).2 (by omega)
     show _ = _; omega
    rw [if_neg hless] at HC
    by_cases hc2 : Q1 * V < val xs
    all_goals
     simp only [hc2, if_true, if_false] at HC
     clear hless hc2
     go_wp2_with fail
     refine HT1.out.mono ?_
     rintro e w2 ⟨rfl, rfl⟩
     go_wp2_with fail
     refine HC.out.mono ?_
     rintro e w2 ⟨rfl, hx2⟩
     have HW := Lib.hid (And.intro HP.out.1 (HP.out.2.ext hx2))
     clear HP
     go_wp2_with fail
     go_ret2
     exact ⟨_, rfl, ⟨_, by rw [HF.out]; rfl, by rw [HF.out]; exact HW.out⟩, (by repeat first|exact xA _|assumption|refine xB ?_ _|refine xC ?_|refine xD ?_ _|refine xE ?_ (by simp <;> omega) _|refine xF ?_ (by assumption))⟩
end Go.Proofs.YtceobmnljdhkmaaGreatDoor
namespace Go.Proofs.YtceobmnljdhkmaaGreatDoor
theorem pow_pos' (k : Nat) : 0 < 4294967296 ^ k := Nat.pow_pos (by omega)
theorem val_ge_word (l : List Nat) (j : Nat) : 4294967296 ^ j * l.getD j 0 ≤ val l := by
 by_cases h : j < l.length
 ·rw [val_split l j (by omega), val_drop l h, Nat.mul_add]; omega
 ·rw [getD_of_le (by omega)]; omega
theorem zero_of_val_lt {l : List Nat} {m j : Nat} (h : val l < 4294967296 ^ m) (hj : m ≤ j) : l.getD j 0 = 0 := by
 rcases Nat.eq_zero_or_pos (l.getD j 0) with h0 | h0
 ·exact h0
 ·exfalso
  have h1 := val_ge_word l j
  have h2 : 4294967296 ^ m ≤ 4294967296 ^ j := Nat.pow_le_pow_right (by omega) hj
  have h3 : 4294967296 ^ j * 1 ≤ 4294967296 ^ j * l.getD j 0 := Nat.mul_le_mul_left _ h0
  omega
theorem val_zero {l : List Nat} (h : ∀ j, l.getD j 0 = 0) : val l = 0 := by
 induction l with
 | nil => rfl
 | cons x l ih =>
  have h0 := h 0
  simp only [List.getD_cons_zero] at h0
  rw [val, h0, ih fun j => by simpa using h (j + 1)]
theorem val_congr {l l' : List Nat} (h : ∀ j, l.getD j 0 = l'.getD j 0) : val l = val l' := by
 induction l generalizing l' with
 | nil => rw [val_zero (l := l') fun j => by rw [← h j]; rfl]; rfl
 | cons x l ih =>
  cases l' with
  | nil => rw [val_zero (l := x :: l) fun j => by rw [h j]; rfl]; rfl
  | cons y l' =>
   have h0 := h 0
   simp only [List.getD_cons_zero] at h0
   rw [val, val, h0, ih fun j => by simpa using h (j + 1)]
theorem getD_drop (l : List Nat) (i j : Nat) : (l.drop i).getD j 0 = l.getD (i + j) 0 := by
 rw [List.getD_eq_getElem?_getD, List.getElem?_drop, List.getD_eq_getElem?_getD]
theorem val_take_of_lt {l : List Nat} {m : Nat} (h : val l < 4294967296 ^ m) : val (l.take m) = val l := by
 apply val_congr
 intro j
 by_cases hj : j < m
 ·exact getD_take hj
 ·rw [zero_of_val_lt h (by omega), getD_of_le (by rw [List.length_take]; omega)]
/-- What the loop of a long division keeps, the digits from k on being done. -/
def DivInv (X V k : Nat) (xs qs : List Nat) : Prop := X = V * (4294967296 ^ k * val (qs.drop k)) + val xs ∧ val (xs.drop k) < V
theorem div_init {X V k n : Nat} {xs : List Nat} (hX : val xs = X) (hk : k ≤ xs.length) (h : X < 4294967296 ^ k * V) : DivInv X V k xs (List.replicate n 0) := by
 refine ⟨?_, ?_⟩
 ·rw [List.drop_replicate, val_replicate, hX]; simp
 ·rw [← hX, val_split xs k hk] at h
  apply Nat.lt_of_mul_lt_mul_left (a := 4294967296 ^ k)
  omega
theorem div_part_lt {X V i : Nat} {xs qs : List Nat} (hL : Limb xs) (hi : i < xs.length) (h : DivInv X V (i + 1) xs qs) : val (xs.drop i) < V * 4294967296 := by
 have h1 := h.2
 have h2 := hL.getD i
 rw [val_drop xs hi]
 have h3 : 4294967296 * (val (xs.drop (i + 1)) + 1) ≤ 4294967296 * V := Nat.mul_le_mul_left _ h1
 rw [Nat.mul_comm V]
 omega
theorem div_round {X V i : Nat} {xs qs us : List Nat} (h : DivInv X V (i + 1) xs qs) (hq : i < qs.length) (hi : i < xs.length) (hl : us.length = xs.length) (ht : us.take i = xs.take i)
  (hd : val (us.drop i) = val (xs.drop i) % V) (hV : 0 < V) : DivInv X V i us (qs.set i (val (xs.drop i) / V)) := by
 refine ⟨?_, by rw [hd]; exact Nat.mod_lt _ hV⟩
 have e1 : (qs.set i (val (xs.drop i) / V)).drop i = (val (xs.drop i) / V) :: qs.drop (i + 1) := by
  rw [drop_getD _ (by simp; omega), List.drop_set, if_pos (by omega), getD_set_self hq]
 rw [h.1, e1, val, val_split us i (by omega), ht, hd, val_split xs i (by omega), Nat.pow_succ]
 have h2 := Nat.div_add_mod (val (xs.drop i)) V
 generalize val (xs.drop i) / V = Q at *
 generalize val (xs.drop i) % V = R at *
 rw [← h2]
 generalize 4294967296 ^ i = B at *
 generalize val (qs.drop (i + 1)) = D at *
 simp only [Nat.mul_add]
 have e2 : V * (B * 4294967296 * D) = V * (B * (4294967296 * D)) := by rw [Nat.mul_assoc]
 have e3 : B * (V * Q) = V * (B * Q) := by rw [Nat.mul_left_comm]
 rw [e2, e3]
 omega
theorem div_end {X V : Nat} {xs qs : List Nat} (h : DivInv X V 0 xs qs) : val qs = X / V ∧ val xs = X % V := by
 obtain ⟨h1, h2⟩ := h
 simp only [List.drop_zero, Nat.pow_zero, Nat.one_mul] at h1 h2
 have hV : 0 < V := by omega
 rw [h1, Nat.mul_add_div hV, Nat.div_eq_of_lt h2, Nat.mul_add_mod, Nat.mod_eq_of_lt h2]
 exact ⟨by omega, rfl⟩
/-- The shift by which the divisor's highest bit is set. -/
theorem norm_shift {b m : Nat} (hm : (limbs b).length = m + 1) : ∃ s, s < 32 ∧ 32 * (m + 1) - (32 * m + blen ((limbs b).getD m 0)) = s ∧ blen ((limbs b).getD m 0) ≤ 32 ∧ 4294967296 ^ m * 2147483648 ≤ b * 2 ^ s ∧ b * 2 ^ s < 4294967296 ^ (m + 1) := by
 have hL := limb_limbs b
 have htop : (limbs b).getD m 0 ≠ 0 := by
  intro h0
  have h1 : val (limbs b) < 4294967296 ^ m := by
   rw [val_split (limbs b) m (by omega), val_drop (limbs b) (by omega), List.drop_of_length_le (by omega), h0]
   have := val_lt (hL.take m)
   rw [List.length_take, Nat.min_eq_left (by omega)] at this
   simpa [val] using this
  rw [val_limbs] at h1
  have := limbs_length_le h1
  omega
 have hlt := hL.getD m
 have e : b = val ((limbs b).take m) + 4294967296 ^ m * (limbs b).getD m 0 := by
  have := val_split (limbs b) m (by omega)
  rw [val_limbs, val_drop (limbs b) (by omega), List.drop_of_length_le (by omega)] at this
  simpa [val] using this
 have hlow : val ((limbs b).take m) < 4294967296 ^ m := by
  have := val_lt (hL.take m)
  rwa [List.length_take, Nat.min_eq_left (by omega)] at this
 generalize (limbs b).getD m 0 = t at *
 have h1 := lt_two_pow_blen t
 have h2 := two_pow_blen_le htop
 have h3 := blen_le (k := 32) (x := t) (by omega)
 have h4 : 1 ≤ blen t := by rw [blen_pos htop]; omega
 refine ⟨32 - blen t, by omega, by omega, h3, ?_, ?_⟩
 ·have e2 : 2 ^ (blen t - 1) * 2 ^ (32 - blen t) = 2147483648 := by rw [← Nat.pow_add, show blen t - 1 + (32 - blen t) = 31 by omega]
  rw [e]
  calc 4294967296 ^ m * 2147483648 = 4294967296 ^ m * (2 ^ (blen t - 1) * 2 ^ (32 - blen t)) := by rw [e2]
   _ = (4294967296 ^ m * 2 ^ (blen t - 1)) * 2 ^ (32 - blen t) := by rw [Nat.mul_assoc]
   _ ≤ (4294967296 ^ m * t) * 2 ^ (32 - blen t) := Nat.mul_le_mul_right _ (Nat.mul_le_mul_left _ h2)
   _ ≤ _ := Nat.mul_le_mul_right _ (by omega)
 ·have e2 : 2 ^ blen t * 2 ^ (32 - blen t) = 4294967296 := by rw [← Nat.pow_add, show blen t + (32 - blen t) = 32 by omega]
  have h5 : b < 4294967296 ^ m * 2 ^ blen t := by
   have : 4294967296 ^ m * (t + 1) ≤ 4294967296 ^ m * 2 ^ blen t := Nat.mul_le_mul_left _ h1
   rw [Nat.mul_add] at this
   omega
  calc b * 2 ^ (32 - blen t) < (4294967296 ^ m * 2 ^ blen t) * 2 ^ (32 - blen t) := Nat.mul_lt_mul_of_pos_right h5 (Nat.pow_pos (by omega))
   _ = 4294967296 ^ m * (2 ^ blen t * 2 ^ (32 - blen t)) := by rw [Nat.mul_assoc]
   _ = 4294967296 ^ (m + 1) := by rw [e2, Nat.pow_succ]
/-- At the start the dividend's part above the first digit is below the divisor. -/
theorem norm_start {a b m n s : Nat} (hn : (limbs a).length = n) (hmn : m + 1 ≤ n) (hs : s < 32) (hV : 4294967296 ^ m * 2147483648 ≤ b * 2 ^ s) : a * 2 ^ s < 4294967296 ^ (n - m) * (b * 2 ^ s) := by
 have h1 : a < 4294967296 ^ n := by
  have := val_lt (limb_limbs a)
  rwa [val_limbs, hn] at this
 have h2 : 2 ^ s ≤ 2 ^ 31 := Nat.pow_le_pow_right (by omega) (by omega)
 calc a * 2 ^ s < 4294967296 ^ n * 2 ^ s := Nat.mul_lt_mul_of_pos_right h1 (Nat.pow_pos (by omega))
  _ ≤ 4294967296 ^ n * 2147483648 := Nat.mul_le_mul_left _ (by omega)
  _ = 4294967296 ^ (n - m) * (4294967296 ^ m * 2147483648) := by rw [← Nat.mul_assoc, ← Nat.pow_add, show n - m + m = n by omega]
  _ ≤ _ := Nat.mul_le_mul_left _ hV
theorem limbs_length_eq {V m : Nat} (h1 : 4294967296 ^ m ≤ V) (h2 : V < 4294967296 ^ (m + 1)) : (limbs V).length = m + 1 := by
 have := limbs_length_le h2
 have := limbs_length_gt h1
 omega
end Go.Proofs.YtceobmnljdhkmaaGreatDoor
namespace Go.Proofs.YtceobmnljdhkmaaGreatDoor
open Go Go.RowKit
/-- What a division leaves: the quotient's and the remainder's words. -/
def DivRes (a b : Nat) (v : Value) (w' : World) : Prop := ∃ v1 v2, v = .tuple #[v1, v2] ∧ Words w' v1 (limbs (a / b)) ∧ Words w' v2 (limbs (a % b))
set_option maxHeartbeats 800000 in
theorem ref01_divide_less {A A' : Option Addr} {n m c c' a b : Nat} {w : World} (h : Words w (.slice A n c) (limbs a)) (h' : Words w (.slice A' m c') (limbs b)) (hab : a < b) :
  Calls Tryz.prog 92 #[.slice A n c, .slice A' m c'] w (Ret w (DivRes a b)) := by
 have hC := ref01_compare h h'
 rw [cmpW_limbs, if_pos hab] at hC
 have HC := Lib.hid hC
 have H := Lib.hid h
 clear hC h h'
 go_enter Tryz.func92, Tryz.ntmps92
 go_wp2_with fail
 refine HC.out.mono ?_
 rintro e w1 ⟨rfl, hx⟩
 have HW := Lib.hid (H.out.ext hx)
 go_wp2_with fail
 go_ret2
 exact ⟨_, rfl, ⟨_, _, rfl, by rw [Nat.div_eq_of_lt hab, limbs_zero]; exact Words.nil _, by rw [Nat.mod_eq_of_lt hab]; exact HW.out⟩, (by repeat first|exact xA _|assumption|refine xB ?_ _|refine xC ?_|refine xD ?_ _|refine xE ?_ (by simp <;> omega) _|refine xF ?_ (by assumption))⟩
set_option maxRecDepth 100000 in
set_option maxHeartbeats 1600000 in
theorem ref01_divide_small {A A' : Option Addr} {n m c c' a b : Nat} {w : World} (h : Words w (.slice A n c) (limbs a)) (h' : Words w (.slice A' m c') (limbs b)) (hab : b ≤ a) (hb : 0 < b) (hn : n ≤ 2) :
  Calls Tryz.prog 92 #[.slice A n c, .slice A' m c'] w (Ret w (DivRes a b)) := by
 have hC := ref01_compare h h'
 rw [cmpW_limbs, if_neg (by omega)] at hC
 obtain ⟨r, hr, hr0⟩ : ∃ r : Int, (if b < a then (1 : Int) else 0) = r ∧ 0 ≤ r := ⟨_, rfl, by split <;> omega⟩
 rw [hr] at hC
 have HC := Lib.hid hC
 have hl := h.len
 have hl' := h'.len
 have hm : m ≤ 2 := by have := limbs_length_mono hab; omega
 have hs := fun w' (hx : Ext w w') => ref01_short (h.ext hx) hn
 have hs' := fun w' (hx : Ext w w') => ref01_short (h'.ext hx) hm
 rw [val_limbs] at hs hs'
 have HS := Lib.hid hs
 have HS' := Lib.hid hs'
 have ha2 : a < 18446744073709551616 := by
  have h1 := val_lt (limb_limbs a)
  rw [val_limbs] at h1
  have h2 : 4294967296 ^ (limbs a).length ≤ 4294967296 ^ 2 := Nat.pow_le_pow_right (by omega) (by omega)
  omega
 clear hC hr h h' hs hs' hl hl' hm
 go_enter Tryz.func92, Tryz.ntmps92
 go_wp2_with fail
 refine HC.out.mono ?_
 rintro e w1 ⟨rfl, hx⟩
 go_wp2_with fail
 refine (HS.out _ hx).mono ?_
 rintro e w2 ⟨rfl, rfl⟩
 go_wp2_with fail
 refine (HS'.out _ hx).mono ?_
 rintro e w2 ⟨rfl, rfl⟩
 go_wp2_with fail
 have hb0 : ¬ ((b : Int) = 0) := by omega
 have hb1 : ((b : Int) == 0) = false := by simp; omega
 have hq : ∀ W, Calls Tryz.prog 64 #[.int .u64 (IntKind.u64.wrap ((a : Int) / (b : Int)))] W (Ret W fun v w' => Words w' v (limbs (a / b))) := fun W => by
  have h1 : a / b ≤ a := Nat.div_le_self _ _
  have e : IntKind.u64.wrap ((a : Int) / (b : Int)) = ((a / b : Nat) : Int) := by
   rw [← Int.natCast_ediv, IntKind.wrap_u64]
   generalize a / b = q at *
   omega
  rw [e]
  exact ref01_words (a / b) (by omega) W
 have hr : ∀ (x : Int) W, x = ((a % b : Nat) : Int) → Calls Tryz.prog 64 #[.int .u64 x] W (Ret W fun v w' => Words w' v (limbs (a % b))) := fun x W hx => by
  have h1 : a % b ≤ a := Nat.mod_le _ _
  rw [hx]
  exact ref01_words (a % b) (by omega) W
 have HQ := Lib.hid hq
 have HR := Lib.hid hr
 clear ha2 hq hr HC HS HS'
 go_region_with (first
  | (go_at_call_of 64 (IntKind.u64.wrap ((a : Int) / (b : Int))); refine (HQ.out _).mono ?_; rintro e w2 ⟨v, rfl, hv, hx2⟩)
  | (go_at_call_of 64 ((a : Int) % (b : Int)); refine (HR.out _ _ (Int.natCast_emod a b).symm).mono ?_; rintro e w3 ⟨v', rfl, hv', hx3⟩)
  | (go_at_call_of 64 ((a : Int).tmod (b : Int)); refine (HR.out _ _ (Int.ofNat_tmod a b).symm).mono ?_; rintro e w3 ⟨v', rfl, hv', hx3⟩))
 all_goals
  go_wp2_with fail
  go_ret2
  exact ⟨_, rfl, ⟨_, _, rfl, hv.ext hx3, hv'⟩, (by repeat first|exact xA _|assumption|refine xB ?_ _|refine xC ?_|refine xD ?_ _|refine xE ?_ (by simp <;> omega) _|refine xF ?_ (by assumption))⟩
set_option maxRecDepth 100000 in
set_option maxHeartbeats 1600000 in
theorem ref01_divide_word {A A' : Option Addr} {n c c' a b : Nat} {w : World} (h : Words w (.slice A n c) (limbs a)) (h' : Words w (.slice A' 1 c') (limbs b)) (hn : 2 < n) :
  Calls Tryz.prog 92 #[.slice A n c, .slice A' 1 c'] w (Ret w (DivRes a b)) := by
 have hl := h.len
 have hl' := h'.len
 have hba : b < a := lt_of_limbs_length_lt (by omega)
 have hC := ref01_compare h h'
 rw [cmpW_limbs, if_neg (by omega), if_pos hba] at hC
 have HC := Lib.hid hC
 have hb2 : b < 4294967296 := by
  have h1 := val_lt (limb_limbs b)
  rw [val_limbs, ← hl'.1] at h1
  simpa using h1
 have hb0 : 0 < b := by
  rcases Nat.eq_zero_or_pos b with h0 | h0
  ·have := hl'.1; rw [h0, limbs_zero] at this; simp at this
  ·exact h0
 have hbl : (limbs b).getD 0 0 = b := by
  have := val_limbs b
  match hm : limbs b, hl'.1 with
  | [x], _ => rw [hm] at this; simpa [val] using this
 obtain ⟨bb, off, rfl, hbb, -, hcell⟩ := h'.at_ (k := 0) (by omega)
 have g1 := hcell 0 (by omega)
 rw [hbl, Nat.add_zero] at g1
 have hby := fun w' (hx : Ext w w') => ref01_by (h.ext hx) hb0 hb2
 rw [val_limbs] at hby
 have HB := Lib.hid hby
 have hwd := fun W => ref01_words (a % b) (Nat.lt_trans (Nat.mod_lt a hb0) (by omega)) W
 have HWD := Lib.hid hwd
 have hlc : n ≤ 35184372088832 := by omega
 have hmod := Nat.mod_lt a hb0
 have hl1 := hl'.2.1
 clear hC h h' hl hl' hby hwd hba hcell hbl
 go_enter Tryz.func92, Tryz.ntmps92
 go_wp2_with fail
 refine HC.out.mono ?_
 rintro e w1 ⟨rfl, hx⟩
 have g2 : w1.cell? ⟨bb, off, none⟩ = some (.int .u32 (b : Int)) := (hx.cell (p := ⟨bb, off, none⟩) hbb).trans g1
 clear g1
 go_wp2_with fail
 refine (HB.out _ hx).mono ?_
 rintro e w2 ⟨v, rfl, ⟨v1, rfl, hv1⟩, hx2⟩
 have HV1 := Lib.hid hv1
 clear hv1 HC HB g2
 generalize hr : a % b = r at *
 have HR := Lib.hid hr
 clear hr
 go_wp2_with fail
 refine (HWD.out _).mono ?_
 rintro e w3 ⟨v2, rfl, hv2, hx3⟩
 have HV2 := Lib.hid hv2
 clear hv2
 go_wp2_with fail
 go_ret2
 exact ⟨_, rfl, ⟨_, _, rfl, HV1.out.ext hx3, by rw [HR.out]; exact HV2.out⟩, (by repeat first|exact xA _|assumption|refine xB ?_ _|refine xC ?_|refine xD ?_ _|refine xE ?_ (by simp <;> omega) _|refine xF ?_ (by assumption))⟩
end Go.Proofs.YtceobmnljdhkmaaGreatDoor
namespace Go.Proofs.YtceobmnljdhkmaaGreatDoor
open Go Go.RowKit
theorem setCell_same (w : World) (p : Addr) (u v : Value) : (w.setCell p u).setCell p v = w.setCell p v := by
 have e : ∀ (h : Array Obj) (b : Nat) (f g k : Obj → Obj), (∀ o, g (f o) = k o) → (h.modify b f).modify b g = h.modify b k := fun h b f g k hfg => by
  apply Array.ext
  ·simp
  ·intro i h1 h2
   simp only [Array.getElem_modify]
   split <;> simp_all
 simp only [World.setCell]
 congr 1
 apply e
 intro o
 cases o <;> simp
 split <;> simp
theorem inner_next {us xs ds : List Nat} {j p n y : Nat} (hl : us.length = n + 1) (hjp : j + p < n + 1) (h4 : ∀ t, t < p → us.getD (j + t) 0 = ds.getD t 0) (h5 : ∀ t, (t < j ∨ j + p ≤ t) → us.getD t 0 = xs.getD t 0) (hy : ds.getD p 0 = y) :
  (us.set (j + p) y).length = n + 1 ∧ (∀ t, t < p + 1 → (us.set (j + p) y).getD (j + t) 0 = ds.getD t 0) ∧ (∀ t, (t < j ∨ j + (p + 1) ≤ t) → (us.set (j + p) y).getD t 0 = xs.getD t 0) := by
 refine ⟨by simp [hl], fun t ht => ?_, fun t ht => ?_⟩
 ·by_cases e : t = p
  ·subst e; rw [getD_set_self (by omega), hy]
  ·rw [getD_set_ne (by omega)]; exact h4 t (by omega)
 ·rw [getD_set_ne (by omega)]; exact h5 t (by omega)
set_option maxRecDepth 100000 in
set_option maxHeartbeats 4000000 in
theorem ref01_divide_long {A A' : Option Addr} {n m c c' a b : Nat} {w : World} (h : Words w (.slice A n c) (limbs a)) (h' : Words w (.slice A' (m + 1) c') (limbs b)) (hab : b ≤ a) (hn : 2 < n) (hm1 : 0 < m) (hn2 : n < 35184372088832) :
  Calls Tryz.prog 92 #[.slice A n c, .slice A' (m + 1) c'] w (Ret w (DivRes a b)) := by
 have hl := h.len
 have hl' := h'.len
 obtain ⟨s, hs, hse, hbl, hV1, hV2⟩ := norm_shift hl'.1.symm
 have hmn : m + 1 ≤ n := by have := limbs_length_mono hab; omega
 have hst := norm_start hl.1.symm hmn hs hV1
 have hLV : (limbs (b * 2 ^ s)).length = m + 1 := limbs_length_eq (Nat.le_trans (by omega) hV1) hV2
 have hC := ref01_compare h h'
 rw [cmpW_limbs, if_neg (by omega)] at hC
 obtain ⟨r, hr, hr0⟩ : ∃ r : Int, (if b < a then (1 : Int) else 0) = r ∧ 0 ≤ r := ⟨_, rfl, by split <;> omega⟩
 rw [hr] at hC
 have HC := Lib.hid hC
 have hlen := fun w' (hx : Ext w w') => ref01_length (h'.ext hx)
 have hlb : lenBits (limbs b) = 32 * m + blen ((limbs b).getD m 0) := by
  unfold lenBits; rw [if_neg (by omega), ← hl'.1]; simp
 rw [hlb] at hlen
 generalize blen ((limbs b).getD m 0) = t at *
 have HLN := Lib.hid hlen
 have hsa := fun w' (hx : Ext w w') => ref01_shifted (h.ext hx) hs hn2
 have hsb := fun w' (hx : Ext w w') => ref01_shifted (h'.ext hx) hs (by omega)
 rw [val_limbs] at hsa hsb
 have HSA := Lib.hid hsa
 have HSB := Lib.hid hsb
 have hts : 32 * (m + 1) = s + (32 * m + t) := by omega
 have hmk := mk_words n (by omega)
 have HV := Lib.hid (And.intro hV1 (And.intro hV2 (And.intro hst hLV)))
 have hl1 : n ≤ c ∧ n ≤ 35184372088832 ∧ m + 1 ≤ c' ∧ m + 1 ≤ 35184372088832 := ⟨hl.2.1, hl.2.2, hl'.2.1, hl'.2.2⟩
 obtain ⟨l1, l2, l3, l4⟩ := hl1
 have hs0 : t = 32 - s := by omega
 subst hs0
 clear hC hr h h' hlen hlb hsa hsb hl hl' hV1 hV2 hst hLV hse hbl
 go_enter Tryz.func92, Tryz.ntmps92
 go_wp2_with fail
 refine HC.out.mono ?_
 rintro e w1 ⟨rfl, hx1⟩
 clear HC
 go_wp2_with fail
 refine (HLN.out _ hx1).mono ?_
 rintro e w2 ⟨rfl, rfl⟩
 clear HLN
 go_wp2_with fail
 rw [show (32 * ((m : Int) + 1) - (32 * (m : Int) + ((32 - s : Nat) : Int))) = (s : Int) by omega]
 refine (HSA.out _ hx1).mono ?_
 rintro e w2 ⟨v, rfl, ⟨xs0, rfl, hr1, hL1, hn1, hv1⟩, hx2⟩
 have hg1 : w.heap.size ≤ w1.heap.size := hx1.size
 have hx12 : Ext w w2 := Ext.trans hx1 hx2
 generalize hgg1 : w1.heap.size = g1 at *
 clear HSA hgg1
 have HX0 := Lib.hid (And.intro hr1 (And.intro hL1 (And.intro hn1 hv1)))
 have hlt1 := hr1.lt
 clear hr1 hL1 hn1 hv1 hx1 hx2
 go_wp2_with fail
 refine (HSB.out _ hx12).mono ?_
 rintro e w3 ⟨v, rfl, ⟨ys0, rfl, hr2, hL2, hn2', hv2⟩, hx3⟩
 have hx13 : Ext w w3 := Ext.trans hx12 hx3
 have HX1 := Lib.hid (And.intro (Row.ext HX0.out.1 hx3) HX0.out.2)
 generalize hgg2 : w2.heap.size = g2 at *
 clear HSB hgg2
 have hlt2 := hr2.lt
 have hW2 := hr2.words hL2 (c := m + 1 + 1) (by omega) (by omega)
 rw [hn2'] at hW2
 have HT := ref01_trim hW2
 have eT : (trimL ys0).length = m + 1 := by rw [trimL_eq_limbs hL2, hv2]; exact HV.out.2.2.2
 rw [eT] at HT
 have HT' := Lib.hid HT
 have HY0 := Lib.hid (And.intro hr2 (And.intro hL2 (And.intro hn2' hv2)))
 clear hr2 hL2 hn2' hv2 hW2 HT eT HX0 hx12 hx3
 go_wp2_with fail
 refine HT'.out.mono ?_
 rintro e w4 ⟨rfl, rfl⟩
 clear HT'
 go_wp2_with fail
 generalize hgg3 : w3.heap.size = g3 at *
 have hg3 : w.heap.size ≤ g3 := by omega
 have HXA := Lib.hid (HX1.out.1.alloc (.cells (madeCells #[.int .u32 0] n) 164))
 have HYA := Lib.hid (HY0.out.1.alloc (.cells (madeCells #[.int .u32 0] n) 164))
 have HQA := Row.made w3 n
 rw [hgg3] at HQA
 have HQA' := Lib.hid HQA
 clear HQA hgg3
 go_loopw [14] (fun i wr => ∃ (k : Nat) (xs qs : List Nat), k ≤ n - m ∧ i = .int .i64 ((k : Int) - 1) ∧ Hid (Row wr g1 xs ∧ Limb xs ∧ xs.length = n + 1 ∧ Row wr g3 qs ∧ Limb qs ∧ qs.length = n ∧ Row wr g2 ys0 ∧ DivInv (a * 2 ^ s) (b * 2 ^ s) k xs qs) ∧ Ext w wr) (fun i _ => (intOf i + 1).toNat)
 case atStart =>
  obtain ⟨q1, q2, q3, q4⟩ := HX1.out
  exact ⟨n - m, xs0, List.replicate n 0, Nat.le_refl _, by congr 1; omega, ⟨HXA.out, q2, q3, HQA'.out, limb_replicate n, by simp, HYA.out, div_init q4 (by omega) HV.out.2.2.1⟩, (by repeat first|exact xA _|assumption|refine xB ?_ _|refine xC ?_|refine xD ?_ _|refine xE ?_ (by simp <;> omega) _|refine xF ?_ (by assumption))⟩
 case round =>
  obtain ⟨k, xs, qs, hk, rfl, HZ, hE⟩ := hrel
  by_cases hk0 : 0 < k
  ·obtain ⟨j, rfl⟩ : ∃ j, k = j + 1 := ⟨k - 1, by omega⟩
   obtain ⟨z1, z2, z3, z4, z5, z6, z7, z8⟩ := HZ.out
   have hU := div_part_lt z2 (by omega) z8
   have hVb : b * 2 ^ s * 4294967296 ≤ 4294967296 ^ (m + 2) := by
    rw [Nat.pow_succ]; exact Nat.mul_le_mul_right _ (Nat.le_of_lt HV.out.2.1)
   have hV0 : 0 < b * 2 ^ s := Nat.lt_of_lt_of_le (Nat.mul_pos (pow_pos' m) (by omega)) HV.out.1
   have eU : val ((xs.drop j).take (m + 2)) = val (xs.drop j) := val_take_of_lt (Nat.lt_of_lt_of_le hU hVb)
   have hPL : Limb ((xs.drop j).take (m + 2)) := (z2.drop j).take (m + 2)
   have hP : Words wr (.slice (some ⟨g1, j, none⟩) (m + 2) (n + 1 - j)) ((xs.drop j).take (m + 2)) := z1.part z2 (by omega) (by omega) (by omega)
   have hY := (z7.words HY0.out.2.1 (c := m + 1 + 1) (by rw [HY0.out.2.2.1]; omega) (by omega)).trim
   rw [trimL_eq_limbs HY0.out.2.1, HY0.out.2.2.2, HV.out.2.2.2] at hY
   have HD := ref01_digit hP hY (by rw [eU]; exact hU) (by omega)
   rw [eU] at HD
   have HD' := Lib.hid HD
   have HP := Lib.hid hP
   have HF := Lib.hid (And.intro eU (And.intro hU (And.intro hPL hV0)))
   clear HD hP hY eU hU hPL hV0 hVb z1 z2 z3 z4 z5 z6 z7 z8
   go_wp2_with fail
   rw [show j + (m + 1) + 1 - j = m + 2 by omega]
   refine HD'.out.mono ?_
   rintro e w5 ⟨v, rfl, ⟨v', rfl, hfr5, hv5⟩, hx5⟩
   generalize hqd : val (xs.drop j) / (b * 2 ^ s) = qd at *
   obtain ⟨A5, c5, rfl, hl5, hm5⟩ := hv5.form
   have hqle : qd * (b * 2 ^ s) ≤ val (xs.drop j) := by rw [← hqd]; exact Nat.div_mul_le_self _ _
   have q1 := ((HZ.out.2.2.2.1).ext hx5).cell (k := j) (by have := HZ.out.2.2.2.2.2.1; omega)
   have q2 := ((HZ.out.2.2.2.1).ext hx5).frozen j
   have hE5 : Ext w w5 := Ext.trans hE hx5
   have hg3w : g3 < wr.heap.size := HZ.out.2.2.2.1.lt
   have hg1w : g1 < wr.heap.size := HZ.out.1.lt
   have hx5s := hx5.size
   -- the words behind the store of the digit
   have hP6 : Words (w5.setCell ⟨g3, j, none⟩ (.int .u32 (qd : Int))) (.slice (some ⟨g1, j, none⟩) (m + 2) (n + 1 - j)) ((xs.drop j).take (m + 2)) :=
    (HP.out.ext hx5).set_ (p := ⟨g3, j, none⟩) (fun a ha => by injection ha with ha; rw [← ha]; show g1 ≠ g3; omega) _
   have hT6 := ref01_trim hP6
   have hPt := hP6.trim
   have hv6 := hv5.set_ (p := ⟨g3, j, none⟩) (fun a ha => by have := hfr5 a _ _ (by rw [ha]); show a.block ≠ g3; omega) (.int .u32 (qd : Int))
   rw [trimL_eq_limbs HF.out.2.2.1, HF.out.1] at hT6 hPt
   have hM6 := ref01_minus hPt hv6 (by rw [val_limbs, val_limbs]; exact hqle) (limbs_length_mono hqle)
   have eD : val (limbs (val (xs.drop j))) - val (limbs (qd * (b * 2 ^ s))) = val (xs.drop j) % (b * 2 ^ s) := by
    rw [val_limbs, val_limbs]
    have := Nat.div_add_mod (val (xs.drop j)) (b * 2 ^ s)
    rw [hqd, Nat.mul_comm] at this
    omega
   rw [eD] at hM6
   have HT6 := Lib.hid hT6
   have HM6 := Lib.hid hM6
   have HQ6 := Lib.hid (((HZ.out.2.2.2.1).ext hx5).set_ j qd)
   have HX6 := Lib.hid (((HZ.out.1).ext hx5).far (p := ⟨g3, j, none⟩) (by show g1 ≠ g3; omega) (.int .u32 (qd : Int)))
   have HY6 := Lib.hid (((HZ.out.2.2.2.2.2.2.1).ext hx5).far (p := ⟨g3, j, none⟩) (by show g2 ≠ g3; omega) (.int .u32 (qd : Int)))
   have HE6 : Ext w (w5.setCell ⟨g3, j, none⟩ (.int .u32 (qd : Int))) := hE5.pset hg3 _
   have HS6 : (w5.setCell ⟨g3, j, none⟩ (.int .u32 (qd : Int))).heap.size = w5.heap.size := by simp [World.setCell]
   have HS6' := Lib.hid HS6
   have HQD := Lib.hid hqd
   clear hP6 hT6 hPt hv6 hM6 eD HS6 HD' hfr5 hv5 hqd hqle
   go_wp2_with fail
   generalize w5.setCell ⟨g3, j, none⟩ (.int .u32 (qd : Int)) = w6 at *
   refine HT6.out.mono ?_
   rintro e w7 ⟨rfl, rfl⟩
   clear HT6
   go_wp2_with fail
   refine HM6.out.mono ?_
   rintro e w7 ⟨v7, rfl, ⟨hfr7, hv7⟩, hx7⟩
   obtain ⟨A7, c7, rfl, hl7, hm7⟩ := hv7.form
   have HW7 := Lib.hid hv7
   have HFR7 := Lib.hid hfr7
   clear hv7 hfr7 HM6
   go_wp2_with fail
   obtain ⟨wo, rfl⟩ : ∃ wo : World, wo = w7 := ⟨_, rfl⟩
   go_loopw [19] (fun i' wr' => ∃ (p : Nat) (us : List Nat), p ≤ m + 2 ∧ i' = .int .i64 (p : Int) ∧ Hid (us.length = n + 1 ∧ Limb us ∧ Row wr' g1 us ∧ (∀ t, t < p → us.getD (j + t) 0 = (limbs (val (xs.drop j) % (b * 2 ^ s))).getD t 0) ∧ (∀ t, (t < j ∨ j + p ≤ t) → us.getD t 0 = xs.getD t 0) ∧ Row wr' g3 (qs.set j qd) ∧ Row wr' g2 ys0 ∧ Words wr' (.slice A7 (limbs (val (xs.drop j) % (b * 2 ^ s))).length c7) (limbs (val (xs.drop j) % (b * 2 ^ s)))) ∧ Ext w wr') (fun i' _ => m + 2 - (intOf i').toNat)
   case atStart =>
    exact ⟨0, xs, by omega, rfl, ⟨HZ.out.2.2.1, HZ.out.2.1, HX6.out.ext hx7, fun t ht => absurd ht (by omega), fun t _ => rfl, HQ6.out.ext hx7, HY6.out.ext hx7, HW7.out⟩, (by repeat first|exact xA _|assumption|refine xB ?_ _|refine xC ?_|refine xD ?_ _|refine xE ?_ (by simp <;> omega) _|refine xF ?_ (by assumption))⟩
   case round =>
    obtain ⟨p, us, hp, rfl, HU, hE'⟩ := hrel
    by_cases hp0 : p < m + 2
    ·obtain ⟨u1, u2, u3, u4, u5, u6, u7, u8⟩ := HU.out
     have c1 := u3.cell (k := j + p) (by omega)
     have c2 := u3.frozen (j + p)
     by_cases hp1 : p < (limbs (val (xs.drop j) % (b * 2 ^ s))).length
     ·obtain ⟨b7, o7, rfl, hb7, -, hcell7⟩ := u8.at_ (k := p) hp1
      have c3 := hcell7 p hp1
      have hne : b7 ≠ g1 := by
       have h1 := HFR7.out ⟨b7, o7, none⟩ _ _ rfl
       have h2 := HS6'.out
       have h3 : w6.heap.size ≤ b7 := h1
       omega
      have hne' : g1 ≠ b7 := fun e => hne e.symm
      have HN := Lib.hid (inner_next (y := (limbs (val (xs.drop j) % (b * 2 ^ s))).getD p 0) u1 (by omega) u4 u5 rfl)
      have HL : Hid (Limb (us.set (j + p) ((limbs (val (xs.drop j) % (b * 2 ^ s))).getD p 0))) := limb_set u2 ((limb_limbs _).getD p)
      have HR := Lib.hid (u3.set_ (j + p) ((limbs (val (xs.drop j) % (b * 2 ^ s))).getD p 0))
      have HR6 := Lib.hid (u6.far (p := ⟨g1, j + p, none⟩) (by show g3 ≠ g1; omega) (.int .u32 (((limbs (val (xs.drop j) % (b * 2 ^ s))).getD p 0 : Nat) : Int)))
      have HR7 := Lib.hid (u7.far (p := ⟨g1, j + p, none⟩) (by show g2 ≠ g1; omega) (.int .u32 (((limbs (val (xs.drop j) % (b * 2 ^ s))).getD p 0 : Nat) : Int)))
      have HR8 := Lib.hid (u8.set_ (p := ⟨g1, j + p, none⟩) (fun a ha => by injection ha with ha; rw [← ha]; exact hne) (.int .u32 (((limbs (val (xs.drop j) % (b * 2 ^ s))).getD p 0 : Nat) : Int)))
      clear hcell7 u1 u2 u3 u4 u5 u6 u7 u8
      generalize (limbs (val (xs.drop j) % (b * 2 ^ s))).getD p 0 = y at *
      generalize hdl : (limbs (val (xs.drop j) % (b * 2 ^ s))).length = dl at *
      clear hdl
      go_wp2_with fail
      rw [setCell_same]
      obtain ⟨n1, n2, n3⟩ := HN.out
      exact ⟨⟨p + 1, _, by omega, by go_num, ⟨n1, HL.out, HR.out, n2, n3, HR6.out, HR7.out, HR8.out⟩, (by repeat first|exact xA _|assumption|refine xB ?_ _|refine xC ?_|refine xD ?_ _|refine xE ?_ (by simp <;> omega) _|refine xF ?_ (by assumption))⟩, by simp [intOf]; omega⟩
     ·have HZ0 : (limbs (val (xs.drop j) % (b * 2 ^ s))).getD p 0 = 0 := getD_of_le (by omega)
      have hA7 : ∀ a, A7 = some a → a.block ≠ g1 := fun a ha => by
       have h1 := HFR7.out a _ _ (by rw [ha])
       have h2 := HS6'.out
       omega
      have HN := Lib.hid (inner_next (y := 0) u1 (by omega) u4 u5 HZ0)
      have HL : Hid (Limb (us.set (j + p) 0)) := limb_set u2 (by omega)
      have HR := Lib.hid (u3.set_ (j + p) 0)
      have HR6 := Lib.hid (u6.far (p := ⟨g1, j + p, none⟩) (by show g3 ≠ g1; omega) (.int .u32 ((0 : Nat) : Int)))
      have HR7 := Lib.hid (u7.far (p := ⟨g1, j + p, none⟩) (by show g2 ≠ g1; omega) (.int .u32 ((0 : Nat) : Int)))
      have HR8 := Lib.hid (u8.set_ (p := ⟨g1, j + p, none⟩) hA7 (.int .u32 ((0 : Nat) : Int)))
      clear u1 u2 u3 u4 u5 u6 u7 u8 HZ0 hA7
      generalize hdl : (limbs (val (xs.drop j) % (b * 2 ^ s))).length = dl at *
      clear hdl
      go_wp2_with fail
      obtain ⟨n1, n2, n3⟩ := HN.out
      exact ⟨⟨p + 1, _, by omega, by go_num, ⟨n1, HL.out, HR.out, n2, n3, HR6.out, HR7.out, HR8.out⟩, (by repeat first|exact xA _|assumption|refine xB ?_ _|refine xC ?_|refine xD ?_ _|refine xE ?_ (by simp <;> omega) _|refine xF ?_ (by assumption))⟩, by simp [intOf]; omega⟩
    ·obtain rfl : p = m + 2 := by omega
     obtain ⟨u1, u2, u3, u4, u5, u6, u7, u8⟩ := HU.out
     obtain ⟨z1, z2, z3, z4, z5, z6, z7, z8⟩ := HZ.out
     have hV0 := HF.out.2.2.2
     have hd : val (us.drop j) = val (xs.drop j) % (b * 2 ^ s) := by
      have hDlt : val (xs.drop j) % (b * 2 ^ s) < 4294967296 ^ (m + 2) := Nat.lt_trans (Nat.mod_lt _ hV0) (Nat.lt_of_lt_of_le HV.out.2.1 (Nat.pow_le_pow_right (by omega) (by omega)))
      have hUlt : val (xs.drop j) < 4294967296 ^ (m + 2) := by
       have h1 := HF.out.2.1
       have h2 : b * 2 ^ s * 4294967296 ≤ 4294967296 ^ (m + 2) := by
        rw [Nat.pow_succ]; exact Nat.mul_le_mul_right _ (Nat.le_of_lt HV.out.2.1)
       omega
      rw [← val_limbs (val (xs.drop j) % (b * 2 ^ s))]
      apply val_congr
      intro t
      rw [getD_drop]
      by_cases ht : t < m + 2
      ·exact u4 t ht
      ·rw [u5 (j + t) (by omega), ← getD_drop, zero_of_val_lt hUlt (by omega)]
       exact (getD_of_le (by have := limbs_length_le hDlt; omega)).symm
     have ht : us.take j = xs.take j := by
      apply ext_getD (by rw [List.length_take, List.length_take, u1, z3])
      intro t htl
      rw [List.length_take] at htl
      rw [getD_take (by omega), getD_take (by omega)]
      exact u5 t (by omega)
     have hq : qd < 4294967296 := by
      rw [← HQD.out]; exact Nat.div_lt_of_lt_mul HF.out.2.1
     have HI := div_round z8 (by omega) (by omega) (by omega) ht hd hV0
     rw [HQD.out] at HI
     have HI' := Lib.hid HI
     have HRR := Lib.hid (And.intro u3 (And.intro u2 (And.intro u1 (And.intro u6 (And.intro (limb_set (j := j) z5 hq) u7)))))
     have hql : (qs.set j qd).length = n := by simp [z6]
     have HQL := Lib.hid hql
     clear u1 u2 u3 u4 u5 u6 u7 u8 z1 z2 z3 z4 z5 z6 z7 z8 hV0 hd ht hq HI hql
     go_wp2_with fail
     obtain ⟨r1, r2, r3, r4, r5, r6⟩ := HRR.out
     exact ⟨⟨j, us, _, by omega, rfl, ⟨r1, r2, r3, r4, r5, HQL.out, r6, HI'.out⟩, (by repeat first|exact xA _|assumption|refine xB ?_ _|refine xC ?_|refine xD ?_ _|refine xE ?_ (by simp <;> omega) _|refine xF ?_ (by assumption))⟩, by simp [intOf]⟩
  ·obtain rfl : k = 0 := by omega
   obtain ⟨z1, z2, z3, z4, z5, z6, z7, z8⟩ := HZ.out
   obtain ⟨e1, e2⟩ := div_end z8
   have hp : 0 < 2 ^ s := Nat.pow_pos (by omega)
   rw [Nat.mul_div_mul_right _ _ hp] at e1
   rw [Nat.mul_mod_mul_right] at e2
   have hQ := z4.words z5 (c := n) (by omega) (by omega)
   rw [z6] at hQ
   have hX := z1.words z2 (c := n + 1) (by omega) (by omega)
   rw [z3] at hX
   have hTQ := ref01_trim hQ
   have hQt := hQ.trim
   rw [trimL_eq_limbs z5, e1] at hTQ hQt
   have hTX := ref01_trim hX
   have hXt := hX.trim
   rw [trimL_eq_limbs z2, e2] at hTX hXt
   have hB := ref01_back hXt hs
   rw [val_limbs, Nat.mul_div_cancel _ hp] at hB
   have HTQ := Lib.hid hTQ
   have HTX := Lib.hid hTX
   have HB := Lib.hid hB
   have HQT := Lib.hid hQt
   clear hTQ hTX hB hQt hXt hQ hX e1 e2 hp z1 z2 z3 z4 z5 z6 z7 z8
   go_wp2_with fail
   refine HTQ.out.mono ?_
   rintro e w8 ⟨rfl, rfl⟩
   go_wp2_with fail
   refine HTX.out.mono ?_
   rintro e w8 ⟨rfl, rfl⟩
   go_wp2_with fail
   refine HB.out.mono ?_
   rintro e w8 ⟨v8, rfl, hv8, hx8⟩
   have HV8 := Lib.hid hv8
   clear hv8
   go_wp2_with fail
   go_ret2
   exact ⟨_, rfl, ⟨_, _, rfl, HQT.out.ext hx8, HV8.out⟩, (by repeat first|exact xA _|assumption|refine xB ?_ _|refine xC ?_|refine xD ?_ _|refine xE ?_ (by simp <;> omega) _|refine xF ?_ (by assumption))⟩
/-- The reference's division: for all numbers. -/
theorem ref01_divide {A A' : Option Addr} {n m c c' a b : Nat} {w : World} (h : Words w (.slice A n c) (limbs a)) (h' : Words w (.slice A' m c') (limbs b)) (hb : 0 < b) (hn2 : n < 35184372088832) :
  Calls Tryz.prog 92 #[.slice A n c, .slice A' m c'] w (Ret w (DivRes a b)) := by
 rcases Nat.lt_or_ge a b with hab | hab
 ·exact ref01_divide_less h h' hab
 ·rcases Nat.lt_or_ge 2 n with hn | hn
  ·have hm : m ≠ 0 := by
    intro e
    have h1 := h'.len.1
    rw [e] at h1
    have h2 := limbs_eq_nil.1 (List.eq_nil_of_length_eq_zero h1.symm)
    omega
   rcases Nat.lt_or_ge 1 m with hm1 | hm1
   ·obtain ⟨k, rfl⟩ : ∃ k, m = k + 1 := ⟨m - 1, by omega⟩
    exact ref01_divide_long h h' hab hn (by omega) hn2
   ·obtain rfl : m = 1 := by omega
    exact ref01_divide_word h h' hn
  ·exact ref01_divide_small h h' hab hb hn
end Go.Proofs.YtceobmnljdhkmaaGreatDoor
namespace Go.Proofs.YtceobmnljdhkmaaGreatDoor
open Go Go.RowKit
theorem gcd_step (p q : Nat) : Nat.gcd q (p % q) = Nat.gcd p q := by
 rw [Nat.gcd_comm p q, Nat.gcd_rec q p, Nat.gcd_comm]
set_option maxHeartbeats 1600000 in
theorem ref01_GCD {s t : Bool} {v v' : Value} {xs ys : List Nat} {w : World} (h : Words w v xs) (h' : Words w v' ys) (hx : xs.length < 35184372088832) (hy : ys.length < 35184372088832) :
  Calls Tryz.prog 49 #[.agg #[.bool s, v], .agg #[.bool t, v']] w (Ret w fun r w' => ∃ u, r = .agg #[.bool false, u] ∧ Words w' u (limbs (Nat.gcd (val xs) (val ys)))) := by
 obtain ⟨A, c, rfl, hl, hm⟩ := h.form
 obtain ⟨A', c', rfl, hl', hm'⟩ := h'.form
 have hL := h.limb
 have hL' := h'.limb
 obtain ⟨M, hM1, hM2, hM3⟩ : ∃ M, val xs ≤ M ∧ val ys ≤ M ∧ (limbs M).length < 35184372088832 := by
  rcases Nat.le_total (val xs) (val ys) with h1 | h1
  ·refine ⟨val ys, h1, Nat.le_refl _, ?_⟩
   rw [← trimL_eq_limbs hL']; have := trimL_length_le ys; omega
  ·refine ⟨val xs, Nat.le_refl _, h1, ?_⟩
   rw [← trimL_eq_limbs hL]; have := trimL_length_le xs; omega
 have hT := fun w1 (hx : Ext w w1) => ref01_trim (h.ext hx)
 have hT' := fun w1 (hx : Ext w w1) => ref01_trim (h'.ext hx)
 have hW := h.trim
 have hW' := h'.trim
 rw [trimL_eq_limbs hL] at hT hW
 rw [trimL_eq_limbs hL'] at hT' hW'
 have HT := Lib.hid hT
 have HT' := Lib.hid hT'
 have HW := Lib.hid hW
 have HW' := Lib.hid hW'
 have HM := Lib.hid (And.intro hM1 (And.intro hM2 hM3))
 clear h h' hT hT' hW hW' hM1 hM2 hM3
 generalize xs.length = n at *
 generalize ys.length = m at *
 go_enter Tryz.func49, Tryz.ntmps49
 go_wp2_with fail
 go_quiet ((first | (go_at_call_of 90 (Value.slice A n c); exact quiet_left (HT.out _ (by repeat first|exact xA _|assumption|refine xB ?_ _|refine xC ?_|refine xD ?_ _|refine xE ?_ (by simp <;> omega) _|refine xF ?_ (by assumption)))) | (go_at_call_of 90 (Value.slice A' m c'); exact quiet_left (HT'.out _ (by repeat first|exact xA _|assumption|refine xB ?_ _|refine xC ?_|refine xD ?_ _|refine xE ?_ (by simp <;> omega) _|refine xF ?_ (by assumption))))))
 clear HT HT'
 go_wp2_with fail
 generalize hwn : (((w.alloc (Obj.cells #[Value.bool s, Value.slice A n c] 55)).alloc (Obj.cells #[Value.bool t, Value.slice A' m c'] 55)).alloc (Obj.cells #[Value.bool false, Value.slice none 0 0] 55)).drewN nq = wn at *
 have hEn : Ext w wn := by rw [← hwn]; exact (by repeat first|exact xA _|assumption|refine xB ?_ _|refine xC ?_|refine xD ?_ _|refine xE ?_ (by simp <;> omega) _|refine xF ?_ (by assumption))
 have hc0 : wn.cell? ⟨w.heap.size + 1 + 1, 0, none⟩ = some (.bool false) := by rw [← hwn]; simp [go_sem]
 have hc1 : wn.cell? ⟨w.heap.size + 1 + 1, 1, none⟩ = some (.slice none 0 0) := by rw [← hwn]; simp [go_sem]
 have hf0 : wn.frozen? ⟨w.heap.size + 1 + 1, 0, none⟩ = false := by rw [← hwn]; simp [go_sem]
 have hf1 : wn.frozen? ⟨w.heap.size + 1 + 1, 1, none⟩ = false := by rw [← hwn]; simp [go_sem]
 have hsz : wn.heap.size = w.heap.size + 1 + 1 + 1 := by rw [← hwn]; simp
 have HSZ := Lib.hid hsz
 have HNW : Hid (NoWord wn (w.heap.size + 1 + 1)) := by
  rw [← hwn]
  have h1 := NoWord.new ((w.alloc (Obj.cells #[Value.bool s, Value.slice A n c] 55)).alloc (Obj.cells #[Value.bool t, Value.slice A' m c'] 55)) #[Value.bool false, Value.slice none 0 0] 55 (by simp)
  simp only [World.size_alloc] at h1
  exact h1
 have HC := Lib.hid (And.intro hc0 (And.intro hc1 (And.intro hf0 hf1)))
 clear hwn hc0 hc1 hf0 hf1 hsz
 go_loopg [5, 6] (val ys) (fun q x y wr => ∃ p : Nat, Hid (Words wr x (limbs p)) ∧ Hid (Words wr y (limbs q)) ∧ Hid (Nat.gcd p q = Nat.gcd (val xs) (val ys)) ∧ p ≤ M ∧ q ≤ M ∧ Ext wn wr)
 case atStart => exact ⟨val xs, HW.out.ext hEn, HW'.out.ext hEn, rfl, HM.out.1, HM.out.2.1, Ext.refl _⟩
 case round =>
  obtain ⟨p, HP, HQ, HG, hp, hq, hE⟩ := hrel
  obtain ⟨A1, c1, rfl, hl1, hm1⟩ := HP.out.form
  obtain ⟨A2, c2, rfl, hl2, hm2⟩ := HQ.out.form
  by_cases h0 : 0 < gk
  ·have hlen : 0 < (limbs gk).length := by rw [limbs_pos (by omega)]; simp
   have hD := ref01_divide HP.out HQ.out h0 (by have := limbs_length_mono hp; have := HM.out.2.2; omega)
   have HD := Lib.hid hD
   have HG2 : Hid (Nat.gcd gk (p % gk) = Nat.gcd (val xs) (val ys)) := (gcd_step p gk).trans HG.out
   have hlt := Nat.mod_lt p h0
   clear hD
   generalize (limbs gk).length = lk at *
   generalize (limbs p).length = lp at *
   go_wp2_with fail
   refine HD.out.mono ?_
   rintro e w1 ⟨v, rfl, ⟨v1, v2, rfl, hv1, hv2⟩, hx1⟩
   have HV2 := Lib.hid hv2
   have HV1 := Lib.hid (HQ.out.ext hx1)
   clear hv1 hv2 HD
   go_wp2_with fail
   go_roundg (p % gk)
   case measure => exact hlt
   case rel => exact ⟨gk, HV1, HV2, HG2, hq, by omega, hE.trans hx1⟩
  ·obtain rfl : gk = 0 := by omega
   have hlen : (limbs 0).length = 0 := by rw [limbs_zero]; rfl
   rw [hlen] at *
   have hg : p = Nat.gcd (val xs) (val ys) := by have := HG.out; rwa [Nat.gcd_zero_right] at this
   have hS := ref01_signed false HP.out
   rw [trimL_limbs] at hS
   have HS := Lib.hid hS
   have HGG := Lib.hid hg
   clear hS hg hlen
   go_wp2_with fail
   refine HS.out.mono ?_
   rintro e w1 ⟨rfl, hx1⟩
   have hx := hE.trans hx1
   obtain ⟨r0, r1, r2, r3⟩ := HC.out
   have hlt2 : w.heap.size + 1 + 1 < wn.heap.size := by rw [HSZ.out]; omega
   have s0 := (hx.cell (p := ⟨w.heap.size + 1 + 1, 0, none⟩) hlt2).trans r0
   have s1 := (hx.cell (p := ⟨w.heap.size + 1 + 1, 1, none⟩) hlt2).trans r1
   have s2 := (Below.frozen hx (p := ⟨w.heap.size + 1 + 1, 0, none⟩) hlt2).trans r2
   have s3 := (Below.frozen hx (p := ⟨w.heap.size + 1 + 1, 1, none⟩) hlt2).trans r3
   have HX := Lib.hid (hEn.trans hx)
   have HXX := Lib.hid hx
   have HPP := Lib.hid (HP.out.ext hx1)
   clear r0 r1 r2 r3 hx hx1 hE hEn HP HC
   go_wp2_with fail
   refine bodyPost_ret ?_ rfl ⟨_, rfl, ⟨.slice A1 (limbs p).length c1, rfl, ?_⟩, ?_⟩
   ·simp [results, Tryz.results49, go_sem, s0, s1]
   ·rw [← HGG.out]
    have hb := HNW.out.ext hlt2 HXX.out
    exact (HPP.out.box hb _ _).box (hb.set_ _ (by simp)) _ _
   ·exact (HX.out.pset (by simp <;> omega) _).pset (by simp <;> omega) _
end Go.Proofs.YtceobmnljdhkmaaGreatDoor
namespace Go.Proofs.YtceobmnljdhkmaaGreatDoor
open Go Go.RowKit
/-- An integer as it lies in memory: its sign and its words, whatever they are. -/
structure ZI where
 neg : Bool
 mag : List Nat
/-- A quotient as it lies in memory. -/
structure QI where
 num : ZI
 den : ZI
/-- In normal form. -/
def ZI.ok (z : ZI) : Bool := decide ((trimL z.mag).length = z.mag.length) && (!z.neg || decide (0 < z.mag.length))
def ZI.sgn (z : ZI) : Int := sgnW z.neg (trimL z.mag).length
def QI.ok (q : QI) : Bool := q.num.ok && q.den.ok && decide (0 < q.den.sgn) && decide (Nat.gcd (val q.num.mag) (val q.den.mag) = 1)
set_option maxHeartbeats 800000 in
theorem ref02_one {s : Bool} {v : Value} {xs : List Nat} {w : World} (h : Words w v xs) :
  Calls Tryz.prog 48 #[.agg #[.bool s, v]] w fun e w' => e = .returned (.bool (decide (xs = [1]) && !s)) ∧ Ext w w' := by
 obtain ⟨A, c, rfl, hl, hm⟩ := h.form
 match xs, h with
 | [], h =>
  clear h
  go_enter Tryz.func48, Tryz.ntmps48
  go_wp2
  go_ret
  exact ⟨by simp, (by repeat first|exact xA _|assumption|refine xB ?_ _|refine xC ?_|refine xD ?_ _|refine xE ?_ (by simp <;> omega) _|refine xF ?_ (by assumption))⟩
 | [x], h =>
  obtain ⟨b, off, rfl, hb, -, hcell⟩ := h.at_ (k := 0) (by simp)
  have g1 := hcell 0 (by simp)
  simp only [List.getD_cons_zero, Nat.add_zero] at g1
  have hne : b ≠ w.heap.size := by omega
  clear hcell h
  simp only [List.length_cons, List.length_nil, Nat.zero_add] at *
  by_cases hx : x = 1
  ·subst hx
   cases s
   all_goals
    go_enter Tryz.func48, Tryz.ntmps48
    go_wp2
    go_ret
    exact ⟨by simp, (by repeat first|exact xA _|assumption|refine xB ?_ _|refine xC ?_|refine xD ?_ _|refine xE ?_ (by simp <;> omega) _|refine xF ?_ (by assumption))⟩
  ·have hx1 : ((x : Int) == 1) = false := by simp; omega
   go_enter Tryz.func48, Tryz.ntmps48
   go_wp2
   go_ret
   exact ⟨by simp [hx], (by repeat first|exact xA _|assumption|refine xB ?_ _|refine xC ?_|refine xD ?_ _|refine xE ?_ (by simp <;> omega) _|refine xF ?_ (by assumption))⟩
 | x :: y :: xs, h =>
  clear h
  generalize hn : (x :: y :: xs).length = n at *
  have h1 : ((n : Int) == 1) = false := by rw [← hn]; simp; omega
  have HD : Hid (decide (x :: y :: xs = [1]) = false) := by show _ = _; simp
  clear hn
  go_enter Tryz.func48, Tryz.ntmps48
  go_wp2
  go_ret
  exact ⟨by rw [HD.out]; rfl, (by repeat first|exact xA _|assumption|refine xB ?_ _|refine xC ?_|refine xD ?_ _|refine xE ?_ (by simp <;> omega) _|refine xF ?_ (by assumption))⟩
theorem limbs_eq_one {g : Nat} : (limbs g = [1]) ↔ g = 1 := by
 constructor
 ·intro h
  have := val_limbs g
  rw [h] at this
  simpa [val] using this.symm
 ·intro h; rw [h, limbs_pos (by omega)]; simp [limbs_zero]
set_option maxHeartbeats 1600000 in
theorem ref02_Valid {q : QI} {v v' : Value} {w : World} (h : Words w v q.num.mag) (h' : Words w v' q.den.mag) (hx : q.num.mag.length < 35184372088832) (hy : q.den.mag.length < 35184372088832) :
  Calls Tryz.prog 19 #[.agg #[.bool q.num.neg, v, .bool q.den.neg, v']] w fun e w' => e = .returned (.bool q.ok) ∧ Ext w w' := by
 obtain ⟨⟨s, xs⟩, ⟨t, ys⟩⟩ := q
 simp only at h h' hx hy ⊢
 obtain ⟨A, c, rfl, hl, hm⟩ := h.form
 obtain ⟨A', c', rfl, hl', hm'⟩ := h'.form
 have HV1 := Lib.hid (fun w1 (hx : Ext w w1) => ref01_Valid s (h.ext hx))
 have HV2 := Lib.hid (fun w1 (hx : Ext w w1) => ref01_Valid t (h'.ext hx))
 have HS2 := Lib.hid (fun w1 (hx : Ext w w1) => ref01_Sign t (h'.ext hx))
 have HG := Lib.hid (fun w1 (hx1 : Ext w w1) => ref01_GCD (s := s) (t := t) (h.ext hx1) (h'.ext hx1) hx hy)
 have HOK : Hid (QI.ok ⟨⟨s, xs⟩, ⟨t, ys⟩⟩ = ((decide ((trimL xs).length = xs.length) && (!s || decide (0 < xs.length))) && (decide ((trimL ys).length = ys.length) && (!t || decide (0 < ys.length))) && decide (0 < sgnW t (trimL ys).length) && decide (limbs (Nat.gcd (val xs) (val ys)) = [1]))) := by
  show _ = _
  rw [decide_eq_decide.2 (limbs_eq_one (g := Nat.gcd (val xs) (val ys)))]
  rfl
 clear h h' hx hy
 generalize (decide ((trimL xs).length = xs.length) && (!s || decide (0 < xs.length))) = b1 at *
 generalize (decide ((trimL ys).length = ys.length) && (!t || decide (0 < ys.length))) = b2 at *
 generalize sgnW t (trimL ys).length = sg at *
 generalize limbs (Nat.gcd (val xs) (val ys)) = gl at *
 generalize xs.length = n at *
 generalize ys.length = m at *
 go_enter Tryz.func19, Tryz.ntmps19
 go_wp2_with fail
 refine (HV1.out _ (Ext.alloc _ _)).mono ?_
 rintro e w1 ⟨rfl, hx1⟩
 cases b1
 ·go_wp2_with fail
  go_ret
  exact ⟨by rw [HOK.out]; rfl, (by repeat first|exact xA _|assumption|refine xB ?_ _|refine xC ?_|refine xD ?_ _|refine xE ?_ (by simp <;> omega) _|refine xF ?_ (by assumption))⟩
 obtain ⟨hc, hf⟩ := bcell hx1
 go_wp2_with fail
 refine (HV2.out _ (by repeat first|exact xA _|assumption|refine xB ?_ _|refine xC ?_|refine xD ?_ _|refine xE ?_ (by simp <;> omega) _|refine xF ?_ (by assumption))).mono ?_
 rintro e w2 ⟨rfl, hx2⟩
 have hx2 := Ext.trans hx1 hx2
 clear hx1 hc hf
 cases b2
 ·go_wp2_with fail
  go_ret
  exact ⟨by rw [HOK.out]; rfl, (by repeat first|exact xA _|assumption|refine xB ?_ _|refine xC ?_|refine xD ?_ _|refine xE ?_ (by simp <;> omega) _|refine xF ?_ (by assumption))⟩
 obtain ⟨hc, hf⟩ := bcell hx2
 go_wp2_with fail
 refine (HS2.out _ (by repeat first|exact xA _|assumption|refine xB ?_ _|refine xC ?_|refine xD ?_ _|refine xE ?_ (by simp <;> omega) _|refine xF ?_ (by assumption))).mono ?_
 rintro e w3 ⟨rfl, hx3⟩
 have hx3 := Ext.trans hx2 hx3
 clear hx2 hc hf
 by_cases hsg : 0 < sg
 ·have HOK2 : Hid (QI.ok ⟨⟨s, xs⟩, ⟨t, ys⟩⟩ = decide (gl = [1])) := by show _ = _; rw [HOK.out]; simp [hsg]
  clear HOK
  obtain ⟨hc, hf⟩ := bcell hx3
  go_wp2_with fail
  refine (HG.out _ (by repeat first|exact xA _|assumption|refine xB ?_ _|refine xC ?_|refine xD ?_ _|refine xE ?_ (by simp <;> omega) _|refine xF ?_ (by assumption))).mono ?_
  rintro e w4 ⟨r, rfl, ⟨u, rfl, hu⟩, hx4⟩
  have HU := Lib.hid hu
  clear hu hc hf
  go_wp2_with fail
  refine (ref02_one HU.out).mono ?_
  rintro e w5 ⟨rfl, hx5⟩
  go_wp2_with fail
  go_ret
  exact ⟨by rw [HOK2.out]; simp, (by repeat first|exact xA _|assumption|refine xB ?_ _|refine xC ?_|refine xD ?_ _|refine xE ?_ (by simp <;> omega) _|refine xF ?_ (by assumption))⟩
 ·have hsd : decide (0 < sg) = false := by simpa using hsg
  have HOK2 : Hid (QI.ok ⟨⟨s, xs⟩, ⟨t, ys⟩⟩ = false) := by show _ = _; rw [HOK.out, hsd]; simp
  go_wp2_with fail
  go_ret
  exact ⟨by rw [HOK2.out]; rfl, (by repeat first|exact xA _|assumption|refine xB ?_ _|refine xC ?_|refine xD ?_ _|refine xE ?_ (by simp <;> omega) _|refine xF ?_ (by assumption))⟩
set_option maxHeartbeats 800000 in
theorem ref02_Sign {q : QI} {v v' : Value} {w : World} (h : Words w v q.num.mag) :
  Calls Tryz.prog 21 #[.agg #[.bool q.num.neg, v, .bool q.den.neg, v']] w fun e w' => e = .returned (.int .i64 q.num.sgn) ∧ Ext w w' := by
 obtain ⟨⟨s, xs⟩, ⟨t, ys⟩⟩ := q
 simp only [ZI.sgn] at h ⊢
 obtain ⟨A, c, rfl, hl, hm⟩ := h.form
 have HS := Lib.hid (fun w1 (hx : Ext w w1) => ref01_Sign s (h.ext hx))
 clear h
 generalize sgnW s (trimL xs).length = sg at *
 generalize xs.length = n at *
 go_enter Tryz.func21, Tryz.ntmps21
 go_wp2_with fail
 refine (HS.out _ (Ext.alloc _ _)).mono ?_
 rintro e w1 ⟨rfl, hx1⟩
 go_wp2_with fail
 go_ret
 exact ⟨rfl, (by repeat first|exact xA _|assumption|refine xB ?_ _|refine xC ?_|refine xD ?_ _|refine xE ?_ (by simp <;> omega) _|refine xF ?_ (by assumption))⟩
/-- In normal form, with few words. -/
def QI.few (q : QI) (k : Nat) : Bool := decide (q.num.mag.length ≤ k) && decide (q.den.mag.length ≤ k) && q.ok
set_option maxHeartbeats 800000 in
theorem ref02_Few {q : QI} {k : Nat} (hk : k < 1100000) {v v' : Value} {w : World} (h : Words w v q.num.mag) (h' : Words w v' q.den.mag) :
  Calls Tryz.prog 24 #[.agg #[.bool q.num.neg, v, .bool q.den.neg, v'], .int .i64 (k : Int)] w fun e w' => e = .returned (.bool (q.few k)) ∧ Ext w w' := by
 by_cases h1 : q.num.mag.length ≤ k
 ·by_cases h2 : q.den.mag.length ≤ k
  ·have HV := Lib.hid (fun w1 (hx : Ext w w1) => ref02_Valid (h.ext hx) (h'.ext hx) (by omega) (by omega))
   have HF : Hid (q.few k = q.ok) := by show _ = _; simp [QI.few, h1, h2]
   obtain ⟨A, c, rfl, hl, hm⟩ := h.form
   obtain ⟨A', c', rfl, hl', hm'⟩ := h'.form
   clear h h'
   generalize q.num.mag.length = n at *
   generalize q.den.mag.length = m at *
   go_enter Tryz.func24, Tryz.ntmps24
   go_wp2_with fail
   refine (HV.out _ (Ext.alloc _ _)).mono ?_
   rintro e w1 ⟨rfl, hx1⟩
   go_wp2_with fail
   go_ret
   exact ⟨by rw [HF.out]; rfl, (by repeat first|exact xA _|assumption|refine xB ?_ _|refine xC ?_|refine xD ?_ _|refine xE ?_ (by simp <;> omega) _|refine xF ?_ (by assumption))⟩
  ·have HF : Hid (q.few k = false) := by show _ = _; simp [QI.few, h2]
   obtain ⟨A, c, rfl, hl, hm⟩ := h.form
   obtain ⟨A', c', rfl, hl', hm'⟩ := h'.form
   clear h h'
   generalize q.num.mag.length = n at *
   generalize q.den.mag.length = m at *
   go_enter Tryz.func24, Tryz.ntmps24
   go_wp2_with fail
   go_ret
   exact ⟨by rw [HF.out]; rfl, (by repeat first|exact xA _|assumption|refine xB ?_ _|refine xC ?_|refine xD ?_ _|refine xE ?_ (by simp <;> omega) _|refine xF ?_ (by assumption))⟩
 ·have HF : Hid (q.few k = false) := by show _ = _; simp [QI.few, h1]
  obtain ⟨A, c, rfl, hl, hm⟩ := h.form
  obtain ⟨A', c', rfl, hl', hm'⟩ := h'.form
  clear h h'
  generalize q.num.mag.length = n at *
  generalize q.den.mag.length = m at *
  go_enter Tryz.func24, Tryz.ntmps24
  go_wp2_with fail
  go_ret
  exact ⟨by rw [HF.out]; rfl, (by repeat first|exact xA _|assumption|refine xB ?_ _|refine xC ?_|refine xD ?_ _|refine xE ?_ (by simp <;> omega) _|refine xF ?_ (by assumption))⟩
end Go.Proofs.YtceobmnljdhkmaaGreatDoor
