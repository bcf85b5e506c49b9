/- Plain arithmetic on lists of words to the base 2^32 (no program in sight). -/
import Derived.Below
import Derived.Laws.OwnMore
import Derived.Deep.Draws
import Derived.WalkKit
import Derived.Outline
import Derived.Deep.QuietTactic
import Derived.BigQuiet
import Derived.Lib.Hide
import Derived.Deep.DeepCutAuto
import Derived.Deep.LoopGhost
import Derived.Test.YtmddjbmelajadaaGreatDoorProg
import Derived.Laws.BitsAllLaws
import Derived.Laws.BitsLemmas
import Derived.Laws.MakeOwn
import Derived.Deep.RegionWith
namespace Go.Proofs.YtmddjbmelajadaaGreatDoor
/-- The number that a list of words stands for, the lowest word first. -/
def val : List Nat → Nat
 | [] => 0
 | x :: xs => x + 4294967296 * val xs
/-- All words are below 2^32. -/
def Limb (xs : List Nat) : Prop := ∀ x ∈ xs, x < 4294967296
/-- A list without zeros at its end. -/
def trimL : List Nat → List Nat
 | [] => []
 | x :: xs => if trimL xs = [] ∧ x = 0 then [] else x :: trimL xs
/-- The words of a number, without zeros at the end. -/
def limbs (n : Nat) : List Nat := if h : n = 0 then [] else (n % 4294967296) :: limbs (n / 4294967296)
termination_by n
decreasing_by omega
theorem limbs_zero : limbs 0 = [] := by rw [limbs]; simp
theorem limbs_pos {n : Nat} (h : n ≠ 0) : limbs n = (n % 4294967296) :: limbs (n / 4294967296) := by rw [limbs]; simp [h]
theorem Limb.nil : Limb [] := by intro x hx; cases hx
theorem Limb.cons {x : Nat} {xs : List Nat} (h : x < 4294967296) (hs : Limb xs) : Limb (x :: xs) := by
 intro y hy
 rcases List.mem_cons.1 hy with rfl | hy
 ·exact h
 ·exact hs y hy
theorem Limb.head {x : Nat} {xs : List Nat} (h : Limb (x :: xs)) : x < 4294967296 := h x (List.mem_cons_self ..)
theorem Limb.tail {x : Nat} {xs : List Nat} (h : Limb (x :: xs)) : Limb xs := fun y hy => h y (List.mem_cons_of_mem _ hy)
theorem Limb.append {xs ys : List Nat} (h : Limb xs) (k : Limb ys) : Limb (xs ++ ys) := by
 intro y hy
 rcases List.mem_append.1 hy with hy | hy
 ·exact h y hy
 ·exact k y hy
theorem Limb.take {xs : List Nat} (h : Limb xs) (k : Nat) : Limb (xs.take k) := fun y hy => h y (List.mem_of_mem_take hy)
theorem Limb.drop {xs : List Nat} (h : Limb xs) (k : Nat) : Limb (xs.drop k) := fun y hy => h y (List.mem_of_mem_drop hy)
theorem Limb.get {xs : List Nat} (h : Limb xs) {k : Nat} (hk : k < xs.length) : xs[k] < 4294967296 := h _ (List.getElem_mem hk)
theorem Limb.getD {xs : List Nat} (h : Limb xs) (k : Nat) : xs.getD k 0 < 4294967296 := by
 by_cases hk : k < xs.length
 ·rw [List.getD_eq_getElem?_getD, List.getElem?_eq_getElem hk]; exact h.get hk
 ·rw [List.getD_eq_getElem?_getD, List.getElem?_eq_none (by omega)]; simp
theorem limb_limbs (n : Nat) : Limb (limbs n) := by
 induction n using Nat.strongRecOn with
 | _ n ih =>
  by_cases h : n = 0
  ·subst h; rw [limbs_zero]; exact Limb.nil
  ·rw [limbs_pos h]; exact Limb.cons (by omega) (ih _ (by omega))
theorem val_limbs (n : Nat) : val (limbs n) = n := by
 induction n using Nat.strongRecOn with
 | _ n ih =>
  by_cases h : n = 0
  ·subst h; rw [limbs_zero]; rfl
  ·rw [limbs_pos h, val, ih _ (by omega)]; omega
theorem val_trimL (xs : List Nat) : val (trimL xs) = val xs := by
 induction xs with
 | nil => rfl
 | cons x xs ih =>
  unfold trimL
  by_cases h : trimL xs = [] ∧ x = 0
  ·rw [if_pos h]; rw [h.1] at ih; simp [val] at ih ⊢; omega
  ·rw [if_neg h]; simp [val, ih]
theorem trimL_eq_limbs {xs : List Nat} (h : Limb xs) : trimL xs = limbs (val xs) := by
 induction xs with
 | nil => simp [trimL, val, limbs_zero]
 | cons x xs ih =>
  have hx := h.head
  have ih := ih h.tail
  unfold trimL
  by_cases hc : trimL xs = [] ∧ x = 0
  ·rw [if_pos hc]
   have h0 : val xs = 0 := by have := val_trimL xs; rw [hc.1] at this; simp [val] at this; omega
   simp [val, h0, hc.2, limbs_zero]
  ·rw [if_neg hc]
   have hn : val (x :: xs) ≠ 0 := by
    intro e
    apply hc
    simp only [val] at e
    have h0 : val xs = 0 := by omega
    exact ⟨by rw [ih, h0, limbs_zero], by omega⟩
   rw [limbs_pos hn, ih]
   have e1 : val (x :: xs) % 4294967296 = x := by simp only [val]; omega
   have e2 : val (x :: xs) / 4294967296 = val xs := by simp only [val]; omega
   rw [e1, e2]
theorem limbs_val_of_trim {xs : List Nat} (h : Limb xs) (ht : trimL xs = xs) : limbs (val xs) = xs := by rw [← trimL_eq_limbs h, ht]
theorem val_append (xs ys : List Nat) : val (xs ++ ys) = val xs + 4294967296 ^ xs.length * val ys := by
 induction xs with
 | nil => simp [val]
 | cons x xs ih => simp only [List.cons_append, val, ih, List.length_cons, Nat.pow_succ]; rw [Nat.mul_add, Nat.mul_comm (4294967296 ^ xs.length) 4294967296, Nat.mul_assoc]; omega
theorem val_lt {xs : List Nat} (h : Limb xs) : val xs < 4294967296 ^ xs.length := by
 induction xs with
 | nil => simp [val]
 | cons x xs ih =>
  have hx := h.head
  have ih := ih h.tail
  simp only [val, List.length_cons, Nat.pow_succ]
  have : 4294967296 * (val xs + 1) ≤ 4294967296 * 4294967296 ^ xs.length := Nat.mul_le_mul_left _ ih
  rw [Nat.mul_comm (4294967296 ^ xs.length)]
  omega
theorem trimL_length_le (xs : List Nat) : (trimL xs).length ≤ xs.length := by
 induction xs with
 | nil => simp [trimL]
 | cons x xs ih => unfold trimL; split <;> simp <;> omega
theorem limb_trimL {xs : List Nat} (h : Limb xs) : Limb (trimL xs) := by rw [trimL_eq_limbs h]; exact limb_limbs _
/-- One word at the end: a zero is dropped, anything else ends the list. -/
theorem trimL_snoc_zero (xs : List Nat) : trimL (xs ++ [0]) = trimL xs := by
 induction xs with
 | nil => simp [trimL]
 | cons x xs ih => simp only [List.cons_append, trimL, ih]
theorem trimL_snoc_pos (xs : List Nat) {x : Nat} (h : x ≠ 0) : trimL (xs ++ [x]) = xs ++ [x] := by
 induction xs with
 | nil => simp [trimL, h]
 | cons y xs ih => simp only [List.cons_append, trimL, ih]; simp
theorem trimL_cons_nil {x : Nat} {xs : List Nat} (h : trimL xs = [] ∧ x = 0) : trimL (x :: xs) = [] := by show (if trimL xs = [] ∧ x = 0 then [] else x :: trimL xs) = []; rw [if_pos h]
theorem trimL_cons {x : Nat} {xs : List Nat} (h : ¬ (trimL xs = [] ∧ x = 0)) : trimL (x :: xs) = x :: trimL xs := by show (if trimL xs = [] ∧ x = 0 then [] else x :: trimL xs) = _; rw [if_neg h]
theorem trimL_prefix (xs : List Nat) : trimL xs = xs.take (trimL xs).length := by
 induction xs with
 | nil => rfl
 | cons x xs ih =>
  by_cases h : trimL xs = [] ∧ x = 0
  ·rw [trimL_cons_nil h]; rfl
  ·rw [trimL_cons h]; simp only [List.length_cons, List.take_succ_cons]; rw [← ih]
theorem trimL_limbs (n : Nat) : trimL (limbs n) = limbs n := by rw [trimL_eq_limbs (limb_limbs n), val_limbs]
theorem limbs_eq_nil {n : Nat} : limbs n = [] ↔ n = 0 := by
 constructor
 ·intro h
  have := val_limbs n
  rw [h] at this
  simpa [val] using this.symm
 ·intro h; rw [h, limbs_zero]
/-- The length of a trimmed list bounds the number from both sides. -/
theorem limbs_length_le {n k : Nat} (h : n < 4294967296 ^ k) : (limbs n).length ≤ k := by
 induction k generalizing n with
 | zero => have : n = 0 := by simpa using h
           rw [this, limbs_zero]; simp
 | succ k ih =>
  by_cases hn : n = 0
  ·rw [hn, limbs_zero]; simp
  ·rw [limbs_pos hn, List.length_cons]
   have : n / 4294967296 < 4294967296 ^ k := by
    rw [Nat.pow_succ, Nat.mul_comm] at h
    exact Nat.div_lt_of_lt_mul h
   have := ih this
   omega
theorem limbs_length_gt {n k : Nat} (h : 4294967296 ^ k ≤ n) : k < (limbs n).length := by
 induction k generalizing n with
 | zero =>
  have hn : n ≠ 0 := by
   intro e; rw [e] at h; simp at h
  rw [limbs_pos hn]; simp
 | succ k ih =>
  have hp : 0 < 4294967296 ^ k := Nat.pow_pos (by omega)
  have hn : n ≠ 0 := by
   intro e; rw [e] at h
   have := Nat.pow_pos (n := k + 1) (show 0 < 4294967296 by omega); omega
  rw [limbs_pos hn, List.length_cons]
  have : 4294967296 ^ k ≤ n / 4294967296 := by
   rw [Nat.le_div_iff_mul_le (by omega)]
   rw [Nat.pow_succ] at h; exact h
  have := ih this
  omega
theorem lt_of_limbs_length_lt {m n : Nat} (h : (limbs m).length < (limbs n).length) : m < n := by
 rcases Nat.lt_or_ge m n with h1 | h1
 ·exact h1
 ·exfalso
  by_cases hn : n = 0
  ·rw [hn, limbs_zero] at h; simp at h
  ·have h3 : 4294967296 ^ ((limbs n).length - 1) ≤ n := by
    rcases Nat.lt_or_ge n (4294967296 ^ ((limbs n).length - 1)) with h2 | h2
    ·have := limbs_length_le h2
     omega
    ·exact h2
   have := limbs_length_gt (Nat.le_trans h3 h1)
   omega
theorem take_snocD (xs : List Nat) {k : Nat} (hk : k < xs.length) : xs.take (k + 1) = xs.take k ++ [xs.getD k 0] := by
 rw [List.take_succ_eq_append_getElem hk, List.getD_eq_getElem?_getD, List.getElem?_eq_getElem hk]; rfl
theorem trim_step_zero {xs : List Nat} {k : Nat} (hk : k < xs.length) (h : xs.getD k 0 = 0) : trimL (xs.take (k + 1)) = trimL (xs.take k) := by
 rw [take_snocD xs hk, h, trimL_snoc_zero]
theorem trim_step_pos {xs : List Nat} {k : Nat} (hk : k < xs.length) (h : xs.getD k 0 ≠ 0) : (trimL (xs.take (k + 1))).length = k + 1 := by
 rw [take_snocD xs hk, trimL_snoc_pos _ h, List.length_append, List.length_take]; simp; omega
theorem val_take_succ (xs : List Nat) {k : Nat} (hk : k < xs.length) : val (xs.take (k + 1)) = val (xs.take k) + 4294967296 ^ k * xs.getD k 0 := by
 rw [take_snocD xs hk, val_append, List.length_take, Nat.min_eq_left (by omega)]; simp [val]
theorem val_drop (xs : List Nat) {j : Nat} (hj : j < xs.length) : val (xs.drop j) = xs.getD j 0 + 4294967296 * val (xs.drop (j + 1)) := by
 rw [List.drop_eq_getElem_cons hj, val, List.getD_eq_getElem?_getD, List.getElem?_eq_getElem hj]; rfl
theorem drop_getD (xs : List Nat) {j : Nat} (hj : j < xs.length) : xs.drop j = xs.getD j 0 :: xs.drop (j + 1) := by
 rw [List.drop_eq_getElem_cons hj, List.getD_eq_getElem?_getD, List.getElem?_eq_getElem hj]; rfl
theorem val_split (xs : List Nat) (j : Nat) (hj : j ≤ xs.length) : val xs = val (xs.take j) + 4294967296 ^ j * val (xs.drop j) := by
 have := val_append (xs.take j) (xs.drop j)
 rw [List.take_append_drop, List.length_take, Nat.min_eq_left hj] at this
 exact this
/-- Lists of one length that agree above a place and differ there: the lower word there makes the lower number. -/
theorem val_lt_of_word {xs ys : List Nat} (hx : Limb xs) {j : Nat} (hl : xs.length = ys.length) (hj : j < xs.length) (hd : xs.drop (j + 1) = ys.drop (j + 1)) (hlt : xs.getD j 0 < ys.getD j 0) : val xs < val ys := by
 rw [val_split xs j (by omega), val_split ys j (by omega), val_drop xs hj, val_drop ys (by omega), hd]
 have h1 : val (xs.take j) < 4294967296 ^ j := by
  have := val_lt (hx.take j)
  rwa [List.length_take, Nat.min_eq_left (by omega)] at this
 have h2 : 4294967296 ^ j * (xs.getD j 0 + 1 + 4294967296 * val (ys.drop (j + 1))) ≤ 4294967296 ^ j * (ys.getD j 0 + 4294967296 * val (ys.drop (j + 1))) := Nat.mul_le_mul_left _ (by omega)
 have h3 : 4294967296 ^ j * (xs.getD j 0 + 1 + 4294967296 * val (ys.drop (j + 1))) = 4294967296 ^ j * (xs.getD j 0 + 4294967296 * val (ys.drop (j + 1))) + 4294967296 ^ j := by
  rw [show xs.getD j 0 + 1 + 4294967296 * val (ys.drop (j + 1)) = (xs.getD j 0 + 4294967296 * val (ys.drop (j + 1))) + 1 by omega, Nat.mul_add, Nat.mul_one]
 omega
/-- What comparing two lists comes to: first the lengths, then the numbers. -/
def cmpW (xs ys : List Nat) : Int := if xs.length < ys.length then -1 else if ys.length < xs.length then 1 else if val xs < val ys then -1 else if val ys < val xs then 1 else 0
theorem cmpW_short {xs ys : List Nat} (h : xs.length < ys.length) : cmpW xs ys = -1 := by unfold cmpW; rw [if_pos h]
theorem cmpW_long {xs ys : List Nat} (h : ys.length < xs.length) : cmpW xs ys = 1 := by unfold cmpW; rw [if_neg (by omega), if_pos h]
theorem cmpW_less {xs ys : List Nat} (hx : Limb xs) {j : Nat} (hl : xs.length = ys.length) (hj : j < xs.length) (hd : xs.drop (j + 1) = ys.drop (j + 1)) (hlt : xs.getD j 0 < ys.getD j 0) : cmpW xs ys = -1 := by
 have := val_lt_of_word hx hl hj hd hlt
 unfold cmpW; rw [if_neg (by omega), if_neg (by omega), if_pos this]
theorem cmpW_more {xs ys : List Nat} (hy : Limb ys) {j : Nat} (hl : xs.length = ys.length) (hj : j < xs.length) (hd : xs.drop (j + 1) = ys.drop (j + 1)) (hlt : ys.getD j 0 < xs.getD j 0) : cmpW xs ys = 1 := by
 have := val_lt_of_word hy hl.symm (by omega) hd.symm hlt
 unfold cmpW; rw [if_neg (by omega), if_neg (by omega), if_neg (by omega), if_pos this]
theorem cmpW_same (xs : List Nat) : cmpW xs xs = 0 := by unfold cmpW; simp
theorem cmpW_limbs (m n : Nat) : cmpW (limbs m) (limbs n) = if m < n then -1 else if n < m then 1 else 0 := by
 unfold cmpW
 rw [val_limbs, val_limbs]
 by_cases h1 : (limbs m).length < (limbs n).length
 ·rw [if_pos h1, if_pos (lt_of_limbs_length_lt h1)]
 ·rw [if_neg h1]
  by_cases h2 : (limbs n).length < (limbs m).length
  ·have := lt_of_limbs_length_lt h2
   rw [if_pos h2, if_neg (by omega), if_pos this]
  ·rw [if_neg h2]
end Go.Proofs.YtmddjbmelajadaaGreatDoor
namespace Go.Proofs.YtmddjbmelajadaaGreatDoor
open Go Go.RowKit
/-- The call returned a value of which R holds, and nothing that was there has changed. -/
def Ret (w : World) (R : Value → World → Prop) (e : Ending) (w' : World) : Prop := ∃ v, e = .returned v ∧ R v w' ∧ Below w.heap.size w w'
/-- Everything that was there is still there. -/
abbrev Ext (w w' : World) : Prop := Below w.heap.size w w'
theorem Ext.refl (w : World) : Ext w w := Below.refl _ _
theorem Ext.trans {a b c : World} (h : Ext a b) (k : Ext b c) : Ext a c := Below.trans h (k.mono h.size)
theorem Ext.drew (w : World) : Ext w w.drew := (Below.refl _ _).drew
theorem Ext.drewN (w : World) (n : Nat) : Ext w (w.drewN n) := ⟨rfl, rfl, rfl, Nat.le_refl _, fun _ _ => rfl⟩
theorem Ext.alloc (w : World) (o : Obj) : Ext w (w.alloc o) := (Below.refl _ _).alloc (Nat.le_refl _) o
theorem Ext.grown {w w' : World} (h : w.grownBy w' none) : Ext w w' := ⟨h.os, h.tape, h.output, h.size, fun k hk => h.block k hk (by simp)⟩
theorem Ext.pdrew {w a : World} (h : Ext w a) : Ext w a.drew := h.trans (Ext.drew a)
theorem Ext.pdrewN {w a : World} (h : Ext w a) (n : Nat) : Ext w (a.drewN n) := h.trans (Ext.drewN a n)
theorem Ext.palloc {w a : World} (h : Ext w a) (o : Obj) : Ext w (a.alloc o) := h.trans (Ext.alloc a o)
theorem Ext.pset {w a : World} (h : Ext w a) {p : Addr} (hp : w.heap.size ≤ p.block) (u : Value) : Ext w (a.setCell p u) := Below.setCell h hp u
theorem Ext.cell {w w' : World} (h : Ext w w') {p : Addr} (hp : p.block < w.heap.size) : w'.cell? p = w.cell? p := Below.cell h hp
theorem Below.heap_new (w : World) (o : Obj) : (w.alloc o).heap[w.heap.size]? = some o := by
 show (w.heap.push o)[w.heap.size]? = _
 simp
/-- A slice of elements of 'sz' cells each: it lies in one block, and each element's cells read by R. -/
def SliceAt {α : Type} (sz : Nat) (R : World → List Value → α → Prop) (w : World) (v : Value) (xs : List α) : Prop :=
 ∃ (A : Option Addr) (c : Nat), v = .slice A xs.length c ∧ xs.length ≤ c ∧ c ≤ maxLen ∧
  (xs ≠ [] → ∃ b off : Nat, A = some ⟨b, off, none⟩ ∧ b < w.heap.size ∧
   ∀ k x, xs[k]? = some x → ∃ cs : List Value, cs.length = sz ∧ (∀ j u, cs[j]? = some u → w.cell? ⟨b, off + (k * sz + j), none⟩ = some u) ∧ R w cs x)
/-- What R says is kept by whatever changes no block that was there. -/
def Stable {α : Type} (R : World → List Value → α → Prop) : Prop := ∀ w w' cs x, Ext w w' → R w cs x → R w' cs x
theorem SliceAt.ext {α : Type} {sz : Nat} {R : World → List Value → α → Prop} (hR : Stable R) {w w' : World} {v : Value} {xs : List α} (h : SliceAt sz R w v xs) (hx : Ext w w') : SliceAt sz R w' v xs := by
 obtain ⟨A, c, hv, hl, hm, hc⟩ := h
 refine ⟨A, c, hv, hl, hm, fun hne => ?_⟩
 obtain ⟨b, off, hA, hb, hk⟩ := hc hne
 refine ⟨b, off, hA, Nat.lt_of_lt_of_le hb hx.size, fun k x hkx => ?_⟩
 obtain ⟨cs, hcs, hcell, hr⟩ := hk k x hkx
 exact ⟨cs, hcs, fun j u hj => (hx.cell (p := ⟨b, off + (k * sz + j), none⟩) hb).trans (hcell j u hj), hR _ _ _ _ hx hr⟩
/-- One word. -/
def WordR (_ : World) (cs : List Value) (x : Nat) : Prop := cs = [.int .u32 (x : Int)] ∧ x < 4294967296
theorem WordR.stable : Stable WordR := fun _ _ _ _ _ h => h
/-- A slice of words. -/
def Words (w : World) (v : Value) (xs : List Nat) : Prop :=
 ∃ (A : Option Addr) (c : Nat), v = .slice A xs.length c ∧ xs.length ≤ c ∧ xs.length ≤ 35184372088832 ∧ Limb xs ∧
  (0 < xs.length → ∃ b off : Nat, A = some ⟨b, off, none⟩ ∧ b < w.heap.size ∧ ∀ k, k < xs.length → w.cell? ⟨b, off + k, none⟩ = some (.int .u32 ((xs.getD k 0 : Nat) : Int)))
theorem Words.ext {w w' : World} {v : Value} {xs : List Nat} (h : Words w v xs) (hx : Ext w w') : Words w' v xs := by
 obtain ⟨A, c, hv, hl, hm, hL, hc⟩ := h
 refine ⟨A, c, hv, hl, hm, hL, fun hne => ?_⟩
 obtain ⟨b, off, hA, hb, hk⟩ := hc hne
 exact ⟨b, off, hA, Nat.lt_of_lt_of_le hb hx.size, fun k hkx => (hx.cell (p := ⟨b, off + k, none⟩) hb).trans (hk k hkx)⟩
theorem Words.limb {w : World} {v : Value} {xs : List Nat} (h : Words w v xs) : Limb xs := by
 obtain ⟨_, _, _, _, _, hL, _⟩ := h; exact hL
theorem Words.nil (w : World) : Words w (.slice none 0 0) [] := ⟨none, 0, rfl, Nat.le_refl _, by simp, Limb.nil, fun h => by simp at h⟩
/-- A slice whose array lies in no block below B. -/
def FreshV (B : Nat) (v : Value) : Prop := ∀ a n c, v = .slice (some a) n c → B ≤ a.block
theorem FreshV.mono {B B' : Nat} {v : Value} (h : FreshV B v) (hB : B' ≤ B) : FreshV B' v := fun a n c e => Nat.le_trans hB (h a n c e)
theorem FreshV.mk (B : Nat) {g off n c : Nat} (h : B ≤ g) : FreshV B (.slice (some ⟨g, off, none⟩) n c) := fun a n' c' e => by injection e with e1 _ _; injection e1 with e1; rw [← e1]; exact h
/-- The values of a list of words. -/
def wordVs (xs : List Nat) : List Value := xs.map fun (x : Nat) => Value.int .u32 (x : Int)
/-- A block of the call's own that holds just these words. -/
def Row (w : World) (g : Nat) (xs : List Nat) : Prop := w.heap[g]? = some (.cells (wordVs xs).toArray 118 (0, 0))
section
variable {w w' : World} {g : Nat} {xs : List Nat}
theorem Row.lt (h : Row w g xs) : g < w.heap.size := by
 rcases Nat.lt_or_ge g w.heap.size with hlt | hge
 ·exact hlt
 ·unfold Row at h; rw [Array.getElem?_eq_none hge] at h; cases h
theorem Row.cell (h : Row w g xs) {k : Nat} (hk : k < xs.length) : w.cell? ⟨g, k, none⟩ = some (.int .u32 ((xs.getD k 0 : Nat) : Int)) := by
 unfold Row at h
 simp only [World.cell?, h, Option.isSome_none, Bool.false_eq_true, if_false]
 simp [wordVs, List.getElem?_eq_getElem hk]
theorem Row.frozen (h : Row w g xs) (k : Nat) : w.frozen? ⟨g, k, none⟩ = false := by
 unfold Row at h
 simp [World.frozen?, h]
theorem Row.alloc (h : Row w g xs) (o : Obj) : Row (w.alloc o) g xs := (Below.heap_alloc w o g h.lt).trans h
theorem Row.drewN (h : Row w g xs) (n : Nat) : Row (w.drewN n) g xs := h
theorem Row.ext (h : Row w g xs) (hx : Ext w w') : Row w' g xs := (hx.block g h.lt).trans h
theorem Row.set_ (h : Row w g xs) (k x : Nat) : Row (w.setCell ⟨g, k, none⟩ (.int .u32 (x : Int))) g (xs.set k x) := by
 unfold Row at h ⊢
 simp [World.setCell, Array.getElem?_modify, h, wordVs, List.map_set]
theorem Row.far (h : Row w g xs) {p : Addr} (hp : g ≠ p.block) (u : Value) : Row (w.setCell p u) g xs := (Below.heap_setCell w p u g hp).trans h
theorem Row.words (h : Row w g xs) (hL : Limb xs) {c : Nat} (hc : xs.length ≤ c) (hm : c ≤ 35184372088832) : Words w (.slice (some ⟨g, 0, none⟩) xs.length c) xs :=
 ⟨_, _, rfl, hc, by omega, hL, fun _ => ⟨g, 0, rfl, h.lt, fun k hk => by rw [Nat.zero_add]; exact h.cell hk⟩⟩
end
theorem Words.set_ {w : World} {A : Option Addr} {n c : Nat} {xs : List Nat} (h : Words w (.slice A n c) xs) {p : Addr} (hp : ∀ a, A = some a → a.block ≠ p.block) (u : Value) : Words (w.setCell p u) (.slice A n c) xs := by
 obtain ⟨A', c', hv, hl, hm, hL, hc⟩ := h
 obtain ⟨rfl, rfl, rfl⟩ : A = A' ∧ n = xs.length ∧ c = c' := by injection hv with h1 h2 h3; exact ⟨h1, h2, h3⟩
 refine ⟨A, c, rfl, hl, hm, hL, fun h0 => ?_⟩
 obtain ⟨b, off, rfl, hb, hcell⟩ := hc h0
 refine ⟨b, off, rfl, by simpa [World.setCell] using hb, fun k hk => ?_⟩
 rw [World.cell?_setCell_other]
 ·exact hcell k hk
 ·intro e; exact hp _ rfl (by rw [e])
/-- A block in which no word lies: a box for a struct of bools and slices. -/
def NoWord (w : World) (g : Nat) : Prop := ∀ j n, w.cell? ⟨g, j, none⟩ ≠ some (.int .u32 n)
theorem Words.box {w : World} {v : Value} {xs : List Nat} (h : Words w v xs) {g : Nat} (hg : NoWord w g) (i : Nat) (u : Value) : Words (w.setCell ⟨g, i, none⟩ u) v xs := by
 obtain ⟨A, c, hv, hl, hm, hL, hc⟩ := h
 refine ⟨A, c, hv, hl, hm, hL, fun h0 => ?_⟩
 obtain ⟨b, off, rfl, hb, hcell⟩ := hc h0
 refine ⟨b, off, rfl, by simpa [World.setCell] using hb, fun k hk => ?_⟩
 rw [World.cell?_setCell_other]
 ·exact hcell k hk
 ·intro e
  injection e with e1 _ _
  exact hg _ _ (e1 ▸ hcell 0 h0)
theorem NoWord.set_ {w : World} {g : Nat} (hg : NoWord w g) (i : Nat) {u : Value} (hu : ∀ n, u ≠ .int .u32 n) : NoWord (w.setCell ⟨g, i, none⟩ u) g := by
 intro j n e
 by_cases hij : i = j
 ·subst hij
  cases hc : w.cell? ⟨g, i, none⟩ with
  | none =>
   have : (w.setCell ⟨g, i, none⟩ u).cell? ⟨g, i, none⟩ = none := by
    unfold World.cell? at hc ⊢
    simp only [World.setCell, Array.getElem?_modify] at hc ⊢
    cases hh : w.heap[g]? with
    | none => simp
    | some o => cases o <;> simp_all
   rw [this] at e; cases e
  | some x =>
   rw [World.cell?_setCell_same _ _ _ hc] at e
   injection e with e
   exact hu n e
 ·rw [World.cell?_setCell_other w ⟨g, i, none⟩ ⟨g, j, none⟩ u (by intro e'; injection e' with _ e2 _; exact hij e2)] at e
  exact hg j n e
theorem NoWord.ext {w w' : World} {g : Nat} (hg : NoWord w g) (hlt : g < w.heap.size) (hx : Ext w w') : NoWord w' g := fun j n => by
 rw [hx.cell (p := ⟨g, j, none⟩) hlt]; exact hg j n
theorem NoWord.new (w : World) (cs : Array Value) (t : TypeId) (h : ∀ u ∈ cs, ∀ n, u ≠ .int .u32 n) : NoWord (w.alloc (.cells cs t)) w.heap.size := by
 intro j n e
 have h1 : (w.alloc (.cells cs t)).heap[w.heap.size]? = some (.cells cs t) := Below.heap_new w _
 simp only [World.cell?, h1, Option.isSome_none, Bool.false_eq_true, if_false] at e
 exact h _ (Array.mem_of_getElem? e) n rfl
/-- A part of a row. -/
theorem Row.part {w : World} {g : Nat} {xs : List Nat} (h : Row w g xs) (hL : Limb xs) {i n c : Nat} (hn : i + n ≤ xs.length) (hc : n ≤ c) (hm : c ≤ 35184372088832) : Words w (.slice (some ⟨g, i, none⟩) n c) ((xs.drop i).take n) := by
 have hl : ((xs.drop i).take n).length = n := by rw [List.length_take, List.length_drop]; omega
 refine ⟨some ⟨g, i, none⟩, c, by rw [hl], by omega, by omega, (hL.drop i).take n, fun _ => ⟨g, i, rfl, h.lt, fun k hk => ?_⟩⟩
 rw [h.cell (k := i + k) (by omega)]
 congr 3
 rw [List.getD_eq_getElem?_getD, List.getD_eq_getElem?_getD, List.getElem?_take, if_pos (by omega), List.getElem?_drop]
theorem Words.at_ {w : World} {A : Option Addr} {n c : Nat} {xs : List Nat} (h : Words w (.slice A n c) xs) {k : Nat} (hk : k < n) :
  ∃ b off, A = some ⟨b, off, none⟩ ∧ b < w.heap.size ∧ n = xs.length ∧ ∀ j, j < n → w.cell? ⟨b, off + j, none⟩ = some (.int .u32 ((xs.getD j 0 : Nat) : Int)) := by
 obtain ⟨A', c', hv, hl, hm, hL, hc⟩ := h
 obtain ⟨rfl, rfl, rfl⟩ : A = A' ∧ n = xs.length ∧ c = c' := by injection hv with h1 h2 h3; exact ⟨h1, h2, h3⟩
 obtain ⟨b, off, rfl, hb, hcell⟩ := hc (by omega)
 exact ⟨b, off, rfl, hb, rfl, hcell⟩
theorem Words.len {w : World} {A : Option Addr} {n c : Nat} {xs : List Nat} (h : Words w (.slice A n c) xs) : n = xs.length ∧ n ≤ c ∧ n ≤ 35184372088832 := by
 obtain ⟨A', c', hv, hl, hm, hL, hc⟩ := h
 obtain ⟨rfl, rfl, rfl⟩ : A = A' ∧ n = xs.length ∧ c = c' := by injection hv with h1 h2 h3; exact ⟨h1, h2, h3⟩
 exact ⟨rfl, hl, hm⟩
theorem Row.made (w : World) (n : Nat) : Row (w.alloc (.cells (madeCells #[.int .u32 0] n) 118)) w.heap.size (List.replicate n 0) := by
 unfold Row
 have : madeCells #[.int .u32 0] n = (wordVs (List.replicate n 0)).toArray := by
  apply Array.ext'
  rw [toList_madeCells_one]; simp [wordVs]
 rw [this]
 exact heap_alloc_new w _
theorem xA (w : World) : Ext w w := Ext.refl w
theorem xB {w a : World} (h : Ext w a) (n : Nat) : Ext w (a.drewN n) := Ext.pdrewN h n
theorem xC {w a : World} (h : Ext w a) : Ext w a.drew := Ext.pdrew h
theorem xD {w a : World} (h : Ext w a) (o : Obj) : Ext w (a.alloc o) := Ext.palloc h o
theorem xE {w a : World} (h : Ext w a) {p : Addr} (hp : w.heap.size ≤ p.block) (u : Value) : Ext w (a.setCell p u) := Ext.pset h hp u
theorem xF {a b c : World} (h : Ext a b) (k : Ext b c) : Ext a c := Ext.trans h k
end Go.Proofs.YtmddjbmelajadaaGreatDoor
namespace Go.Proofs.YtmddjbmelajadaaGreatDoor
open Go Go.RowKit
def lenOf' : Value → Nat | .slice _ n _ => n | _ => 0
end Go.Proofs.YtmddjbmelajadaaGreatDoor
namespace Go.Proofs.YtmddjbmelajadaaGreatDoor
open Go
theorem ofInt_u64 (a : Nat) (ha : a < 18446744073709551616) : (BitVec.ofInt 64 (a : Int)).toNat = a := by
 rw [BitVec.ofInt_natCast, BitVec.toNat_ofNat]; exact Nat.mod_eq_of_lt (by omega)
theorem u64_or_nat (a b : Nat) (ha : a < 18446744073709551616) (hb : b < 18446744073709551616) : bits .or .u64 (a : Int) (b : Int) = ((a ||| b : Nat) : Int) := by
 have hx : a ||| b < 2 ^ 64 := Nat.or_lt_two_pow (by omega) (by omega)
 show IntKind.u64.wrap ((BitVec.ofInt 64 (a : Int) ||| BitVec.ofInt 64 (b : Int)).toNat : Int) = _
 rw [BitVec.toNat_or, ofInt_u64 a ha, ofInt_u64 b hb, IntKind.wrap_u64]
 omega
theorem u64_or_hi (a b : Nat) (ha : a < 4294967296) (hb : b < 4294967296) : bits .or .u64 ((a : Int) * 4294967296) (b : Int) = ((b + 4294967296 * a : Nat) : Int) := by
 have h1 : (a : Int) * 4294967296 = ((a * 4294967296 : Nat) : Int) := by omega
 rw [h1, u64_or_nat _ _ (by omega) (by omega)]
 have h2 := Nat.two_pow_add_eq_or_of_lt (i := 32) (b := b) (by omega) a
 have h3 : a * 4294967296 = 2 ^ 32 * a := by omega
 rw [h3, ← h2]
 omega
end Go.Proofs.YtmddjbmelajadaaGreatDoor
namespace Go.Proofs.YtmddjbmelajadaaGreatDoor
open Go Go.RowKit
theorem bcell {W w1 : World} (hb : Below W.heap.size W w1) : (∀ b o, b < W.heap.size → w1.cell? ⟨b, o, none⟩ = W.cell? ⟨b, o, none⟩) ∧ (∀ b o, b < W.heap.size → w1.frozen? ⟨b, o, none⟩ = W.frozen? ⟨b, o, none⟩) :=
 ⟨fun b o h => hb.cell (p := ⟨b, o, none⟩) h, fun b o h => hb.frozen (p := ⟨b, o, none⟩) h⟩
theorem quiet_left {P : Program} {f : FuncId} {args : Array Value} {w : World} {n : Nat} {v : Value}
  (h : Calls P f args (w.drewN n) fun e w' => e = .returned v ∧ w.drewN n = w') : Calls P f args (w.drewN n) fun e w'' => e = .returned v ∧ ∃ m, w'' = w.drewN m :=
 h.mono fun _ _ ⟨he, hm⟩ => ⟨he, n, hm.symm⟩
theorem Words.form {w : World} {v : Value} {xs : List Nat} (h : Words w v xs) : ∃ A c, v = .slice A xs.length c ∧ xs.length ≤ c ∧ xs.length ≤ 35184372088832 := by
 obtain ⟨A, c, hv, hl, hm, _, _⟩ := h; exact ⟨A, c, hv, hl, hm⟩
theorem Words.trim {w : World} {A : Option Addr} {n c : Nat} {xs : List Nat} (h : Words w (.slice A n c) xs) : Words w (.slice A (trimL xs).length c) (trimL xs) := by
 obtain ⟨A', c', hv, hl, hm, hL, hc⟩ := h
 obtain ⟨rfl, rfl, rfl⟩ : A = A' ∧ n = xs.length ∧ c = c' := by injection hv with h1 h2 h3; exact ⟨h1, h2, h3⟩
 have hle := trimL_length_le xs
 refine ⟨A, c, rfl, by omega, by omega, limb_trimL hL, fun h0 => ?_⟩
 obtain ⟨b, off, hA, hb, hcell⟩ := hc (by omega)
 refine ⟨b, off, hA, hb, fun k hk => ?_⟩
 rw [hcell k (by omega)]
 have : (trimL xs).getD k 0 = xs.getD k 0 := by
  rw [trimL_prefix xs, List.getD_eq_getElem?_getD, List.getD_eq_getElem?_getD, List.getElem?_take, if_pos hk]
 rw [this]
def sgnW (neg : Bool) (k : Nat) : Int := if k = 0 then 0 else if neg then -1 else 1
end Go.Proofs.YtmddjbmelajadaaGreatDoor
namespace Go.Proofs.YtmddjbmelajadaaGreatDoor
open Go Go.RowKit
theorem infoU32 : (Tryz.prog.info? 118).map (fun i => (i.zero, i.size, i.bytes)) = some (some (.int .u32 0), 1, 4) := by kernel_rfl
theorem mk_words (n : Nat) (hn : n ≤ 35184372088832) (W : World) :
  (Instr.makeSlice 60 (.int .i64 (n : Int)) (.int .i64 (n : Int))).run Tryz.prog W = .ok (.slice (some ⟨W.heap.size, 0, none⟩) n n) (W.alloc (.cells (madeCells #[.int .u32 0] n) 118)) := by
 obtain ⟨i, hi, hz0, hz1, hz2⟩ := info_parts infoU32
 have hb : (i.bytes : Int) * (n : Int) ≤ 281474976710656 := by rw [hz2]; omega
 have hr := run_make (P := Tryz.prog) W 60 118 i (.int .u32 0) Tryz.underlying60 hi hz0 .i64 .i64 n n (by omega) (by omega) hb (by omega)
 simp only [Int.toNat_natCast, hz1, Nat.mul_one] at hr
 exact hr
theorem limbs_two {n : Nat} (hn : n < 18446744073709551616) : trimL [n % 4294967296, n / 4294967296] = limbs n := by
 rw [trimL_eq_limbs (Limb.cons (by omega) (Limb.cons (by omega) Limb.nil))]
 congr 1
 simp only [val]; omega
theorem by_step {xs zs : List Nat} {n r j : Nat} (hj : j < xs.length) (hl : zs.length = xs.length) (h : val (xs.drop (j + 1)) = n * val (zs.drop (j + 1)) + r) :
  val (xs.drop j) = n * val ((zs.set j ((xs.getD j 0 + 4294967296 * r) / n)).drop j) + (xs.getD j 0 + 4294967296 * r) % n := by
 have e1 : (zs.set j ((xs.getD j 0 + 4294967296 * r) / n)).drop j = ((xs.getD j 0 + 4294967296 * r) / n) :: zs.drop (j + 1) := by
  rw [drop_getD _ (by simp; omega), List.drop_set, if_pos (by omega)]
  congr 1
  rw [List.getD_eq_getElem?_getD, List.getElem?_set_self (by omega)]; rfl
 rw [val_drop xs hj, e1, val, h]
 have := Nat.div_add_mod (xs.getD j 0 + 4294967296 * r) n
 rw [Nat.mul_add, Nat.mul_add, ← Nat.mul_assoc, Nat.mul_comm 4294967296 n, Nat.mul_assoc]
 omega
theorem by_lt {ρ x n : Nat} (hρ : ρ < n) (hx : x < 4294967296) : (x + 4294967296 * ρ) / n < 4294967296 := by
 apply Nat.div_lt_of_lt_mul
 have : 4294967296 * (ρ + 1) ≤ 4294967296 * n := Nat.mul_le_mul_left _ hρ
 rw [Nat.mul_comm n]; omega
theorem by_q {ρ x n : Nat} (hρ : ρ < n) (hn : n < 4294967296) (hx : x < 4294967296) :
  IntKind.u64.wrap ((bits .or .u64 ((ρ : Int) * 4294967296) (x : Int)).tdiv (n : Int)) % 4294967296 = (((x + 4294967296 * ρ) / n : Nat) : Int) := by
 have h := by_lt hρ hx
 rw [u64_or_hi _ _ (by omega) hx, ← Int.ofNat_tdiv, IntKind.wrap_u64]
 generalize (x + 4294967296 * ρ) / n = q at *
 omega
theorem by_r {ρ x n : Nat} (hρ : ρ < n) (hn : n < 4294967296) (hx : x < 4294967296) :
  (bits .or .u64 ((ρ : Int) * 4294967296) (x : Int)).tmod (n : Int) = (((x + 4294967296 * ρ) % n : Nat) : Int) := by
 rw [u64_or_hi _ _ (by omega) hx, ← Int.ofNat_tmod]
theorem limb_set {zs : List Nat} (h : Limb zs) {j y : Nat} (hy : y < 4294967296) : Limb (zs.set j y) := by
 intro x hx
 rcases List.mem_or_eq_of_mem_set hx with hx | rfl
 ·exact h x hx
 ·exact hy
theorem limb_replicate (n : Nat) : Limb (List.replicate n 0) := by
 intro x hx
 rw [List.eq_of_mem_replicate hx]; omega
end Go.Proofs.YtmddjbmelajadaaGreatDoor
namespace Go.Proofs.YtmddjbmelajadaaGreatDoor
theorem val_set {xs : List Nat} {j : Nat} (hj : j < xs.length) (y : Nat) : val (xs.set j y) + 4294967296 ^ j * xs.getD j 0 = val xs + 4294967296 ^ j * y := by
 have e1 : (xs.set j y).take j = xs.take j := by rw [List.take_set_of_le (by omega)]
 have e2 : (xs.set j y).drop j = y :: xs.drop (j + 1) := by
  rw [drop_getD _ (by simp; omega), List.drop_set, if_pos (by omega)]
  congr 1
  rw [List.getD_eq_getElem?_getD, List.getElem?_set_self (by omega)]; rfl
 rw [val_split (xs.set j y) j (by simp; omega), e1, e2, val_split xs j (by omega), val_drop xs hj, val]
 rw [Nat.mul_add, Nat.mul_add]
 omega
theorem getD_set_self {xs : List Nat} {j : Nat} (hj : j < xs.length) (y : Nat) : (xs.set j y).getD j 0 = y := by
 rw [List.getD_eq_getElem?_getD, List.getElem?_set_self (by omega)]; rfl
theorem getD_set_ne {xs : List Nat} {i j : Nat} (h : i ≠ j) (y : Nat) : (xs.set i y).getD j 0 = xs.getD j 0 := by
 rw [List.getD_eq_getElem?_getD, List.getElem?_set_ne h, List.getD_eq_getElem?_getD]
theorem getD_replicate (n j : Nat) : (List.replicate n 0).getD j 0 = 0 := by
 rw [List.getD_eq_getElem?_getD, List.getElem?_replicate]; split <;> rfl
theorem val_replicate (n : Nat) : val (List.replicate n 0) = 0 := by
 induction n with
 | zero => rfl
 | succ n ih => rw [List.replicate_succ, val, ih]
theorem getD_take {xs : List Nat} {i j : Nat} (h : j < i) : (xs.take i).getD j 0 = xs.getD j 0 := by
 rw [List.getD_eq_getElem?_getD, List.getElem?_take, if_pos h, List.getD_eq_getElem?_getD]
theorem getD_of_le {xs : List Nat} {j : Nat} (h : xs.length ≤ j) : xs.getD j 0 = 0 := by
 rw [List.getD_eq_getElem?_getD, List.getElem?_eq_none h]; rfl
/-- The number of binary digits. -/
def blen (x : Nat) : Nat := if h : x = 0 then 0 else blen (x / 2) + 1
termination_by x
decreasing_by omega
theorem blen_zero : blen 0 = 0 := by rw [blen]; simp
theorem blen_pos {x : Nat} (h : x ≠ 0) : blen x = blen (x / 2) + 1 := by rw [blen]; simp [h]
theorem lt_two_pow_blen (x : Nat) : x < 2 ^ blen x := by
 induction x using Nat.strongRecOn with
 | _ x ih =>
  by_cases h : x = 0
  ·rw [h, blen_zero]; simp
  ·have := ih (x / 2) (by omega)
   rw [blen_pos h, Nat.pow_succ]; omega
theorem two_pow_blen_le {x : Nat} (h : x ≠ 0) : 2 ^ (blen x - 1) ≤ x := by
 induction x using Nat.strongRecOn with
 | _ x ih =>
  rw [blen_pos h, Nat.add_sub_cancel]
  by_cases h2 : x / 2 = 0
  ·rw [h2, blen_zero]; simp; omega
  ·have := ih (x / 2) (by omega) h2
   rw [blen_pos h2] at this ⊢
   rw [Nat.add_sub_cancel] at this
   rw [Nat.pow_succ]; omega
theorem blen_le {x k : Nat} (h : x < 2 ^ k) : blen x ≤ k := by
 by_cases h0 : x = 0
 ·rw [h0, blen_zero]; omega
 ·rcases Nat.lt_or_ge k (blen x) with h1 | h1
  ·have h2 := two_pow_blen_le h0
   have h3 : 2 ^ k ≤ 2 ^ (blen x - 1) := Nat.pow_le_pow_right (by omega) (by omega)
   omega
  ·exact h1
/-- 2^32 parts at s. -/
theorem two_pow_split {s : Nat} (hs : s ≤ 32) : 2 ^ s * 2 ^ (32 - s) = 4294967296 := by
 rw [← Nat.pow_add, show s + (32 - s) = 32 by omega]
/-- One word of a shift to the left: the carry that came in fills the low bits, the high ones go out. -/
theorem shl_step {x c s : Nat} (hs : s < 32) (hx : x < 4294967296) (hc : c < 2 ^ s) :
  c + (x * 2 ^ s) % 4294967296 < 4294967296 ∧ (x * 2 ^ s) / 4294967296 < 2 ^ s ∧ c + (x * 2 ^ s) % 4294967296 + 4294967296 * ((x * 2 ^ s) / 4294967296) = c + x * 2 ^ s := by
 have hp := two_pow_split (s := s) (by omega)
 have h0 : 0 < 2 ^ s := Nat.pow_pos (by omega)
 have e : (x * 2 ^ s) % 4294967296 = 2 ^ s * (x % 2 ^ (32 - s)) := by
  rw [← hp, Nat.mul_comm x, Nat.mul_mod_mul_left]
 have h1 : x % 2 ^ (32 - s) < 2 ^ (32 - s) := Nat.mod_lt _ (Nat.pow_pos (by omega))
 refine ⟨?_, ?_, by omega⟩
 ·rw [e]
  have h2 : 2 ^ s * (x % 2 ^ (32 - s) + 1) ≤ 2 ^ s * 2 ^ (32 - s) := Nat.mul_le_mul_left _ h1
  rw [Nat.mul_add] at h2
  omega
 ·apply Nat.div_lt_of_lt_mul
  rw [Nat.mul_comm 4294967296, Nat.mul_comm x]
  exact Nat.mul_lt_mul_of_pos_left hx h0
theorem shl_or {x c s : Nat} (hs : s < 32) (hc : c < 2 ^ s) : c ||| (x * 2 ^ s) % 4294967296 = c + (x * 2 ^ s) % 4294967296 := by
 have hp := two_pow_split (s := s) (by omega)
 have e : (x * 2 ^ s) % 4294967296 = 2 ^ s * (x % 2 ^ (32 - s)) := by
  rw [← hp, Nat.mul_comm x, Nat.mul_mod_mul_left]
 rw [e, Nat.or_comm, ← Nat.two_pow_add_eq_or_of_lt hc, Nat.add_comm]
/-- The words of a list divided by 2^s. -/
def backAt (xs : List Nat) (s j : Nat) : Nat := ((xs.getD j 0 + 4294967296 * xs.getD (j + 1) 0) / 2 ^ s) % 4294967296
def backL (s : Nat) : List Nat → List Nat
 | [] => []
 | x :: xs => ((x + 4294967296 * xs.getD 0 0) / 2 ^ s) % 4294967296 :: backL s xs
theorem backL_length (s : Nat) (xs : List Nat) : (backL s xs).length = xs.length := by
 induction xs with
 | nil => rfl
 | cons x xs ih => simp [backL, ih]
theorem backL_getD (s : Nat) (xs : List Nat) : ∀ j, j < xs.length → (backL s xs).getD j 0 = backAt xs s j := by
 induction xs with
 | nil => intro j h; simp at h
 | cons x xs ih =>
  intro j h
  cases j with
  | zero => simp [backL, backAt]
  | succ j =>
   have := ih j (by simpa using h)
   simp only [backL, List.getD_cons_succ, this, backAt]
theorem limb_backL (s : Nat) (xs : List Nat) : Limb (backL s xs) := by
 induction xs with
 | nil => exact Limb.nil
 | cons x xs ih => exact Limb.cons (Nat.mod_lt _ (by omega)) ih
theorem val_backL {s : Nat} (hs : s < 32) {xs : List Nat} (h : Limb xs) : val (backL s xs) = val xs / 2 ^ s := by
 have hp := two_pow_split (s := s) (by omega)
 have h0 : 0 < 2 ^ s := Nat.pow_pos (by omega)
 induction xs with
 | nil => simp [backL, val]
 | cons x xs ih =>
  have hx := h.head
  have ih := ih h.tail
  simp only [backL, val, ih]
  generalize hP : 2 ^ s = P at *
  generalize hQ : 2 ^ (32 - s) = Q at *
  have hQ0 : 0 < Q := by rw [← hQ]; exact Nat.pow_pos (by omega)
  have e1 : ∀ y, (x + 4294967296 * y) / P = x / P + Q * y := fun y => by
   rw [← hp, Nat.mul_assoc, Nat.add_mul_div_left _ _ h0]
  have hxP : x / P < Q := Nat.div_lt_of_lt_mul (by rw [hp]; exact hx)
  have e2 : (x / P + Q * xs.getD 0 0) % 4294967296 = x / P + Q * (xs.getD 0 0 % P) := by
   have e3 : Q * xs.getD 0 0 = 4294967296 * (xs.getD 0 0 / P) + Q * (xs.getD 0 0 % P) := by
    have h3 := Nat.div_add_mod (xs.getD 0 0) P
    generalize xs.getD 0 0 / P = A at *
    generalize xs.getD 0 0 % P = B at *
    rw [← h3, ← hp, Nat.mul_add, ← Nat.mul_assoc, Nat.mul_comm Q P]
   have h4 : Q * (xs.getD 0 0 % P) + Q ≤ 4294967296 := by
    have h5 : xs.getD 0 0 % P + 1 ≤ P := Nat.mod_lt _ h0
    have h6 := Nat.mul_le_mul_left Q h5
    rw [Nat.mul_add, Nat.mul_one, Nat.mul_comm Q P, hp] at h6
    exact h6
   rw [e3]
   generalize x / P = a at *
   generalize xs.getD 0 0 / P = g at *
   generalize Q * (xs.getD 0 0 % P) = i at *
   omega
  have e4 : val xs % P = xs.getD 0 0 % P := by
   cases xs with
   | nil => simp [val]
   | cons y ys => simp only [val, List.getD_cons_zero]; rw [← hp, Nat.mul_assoc, Nat.add_mul_mod_self_left]
  rw [e1, e1, e2, ← e4]
  have h3 := Nat.div_add_mod (val xs) P
  generalize val xs / P = A at *
  generalize val xs % P = B at *
  rw [← h3, ← hp, Nat.mul_add, ← Nat.mul_assoc, Nat.mul_comm Q P]
  omega
/-- Two lists of one length that agree at every place are one. -/
theorem ext_getD {xs ys : List Nat} (hl : xs.length = ys.length) (h : ∀ j, j < xs.length → xs.getD j 0 = ys.getD j 0) : xs = ys := by
 apply List.ext_getElem hl
 intro j h1 h2
 have := h j h1
 rwa [List.getD_eq_getElem?_getD, List.getElem?_eq_getElem h1, List.getD_eq_getElem?_getD, List.getElem?_eq_getElem h2] at this
theorem val_take_of_le {xs : List Nat} {k : Nat} (h : xs.length ≤ k) : val (xs.take k) = val xs := by rw [List.take_of_length_le h]
/-- The next word of a list, or 0 behind its end. -/
theorem val_take_next (ys : List Nat) (k : Nat) : val (ys.take (k + 1)) = val (ys.take k) + 4294967296 ^ k * ys.getD k 0 := by
 by_cases h : k < ys.length
 ·exact val_take_succ ys h
 ·rw [val_take_of_le (by omega), val_take_of_le (by omega), getD_of_le (by omega)]; omega
theorem limb_take_set {zs : List Nat} {k y : Nat} (hk : k < zs.length) : val ((zs.set k y).take (k + 1)) = val (zs.take k) + 4294967296 ^ k * y := by
 rw [val_take_next, getD_set_self hk, List.take_set_of_le (by omega)]
end Go.Proofs.YtmddjbmelajadaaGreatDoor
namespace Go.Proofs.YtmddjbmelajadaaGreatDoor
open Go Go.RowKit
theorem shl_fits {x s : Nat} (hs : s < 32) (hx : x < 4294967296) : x * 2 ^ s < 18446744073709551616 := by
 have h1 : 2 ^ s ≤ 2 ^ 31 := Nat.pow_le_pow_right (by omega) (by omega)
 have h2 : x * 2 ^ s ≤ 4294967296 * 2 ^ 31 := Nat.mul_le_mul (by omega) h1
 omega
theorem shl_wrap {x s : Nat} (hs : s < 32) (hx : x < 4294967296) : IntKind.u64.wrap ((x : Int) * 2 ^ s) = ((x * 2 ^ s : Nat) : Int) := by
 have h := shl_fits hs hx
 have e : (x : Int) * 2 ^ s = ((x * 2 ^ s : Nat) : Int) := by rw [Int.natCast_mul, Int.natCast_pow]; rfl
 rw [e, IntKind.wrap_u64]
 generalize x * 2 ^ s = y at *
 omega
theorem shl_lo {x s : Nat} (hs : s < 32) (hx : x < 4294967296) : IntKind.u64.wrap ((x : Int) * 2 ^ s) % 4294967296 = ((x * 2 ^ s % 4294967296 : Nat) : Int) := by
 rw [shl_wrap hs hx]; rfl
theorem shl_hi {x s : Nat} (hs : s < 32) (hx : x < 4294967296) : IntKind.u64.wrap ((x : Int) * 2 ^ s) / 4294967296 % 4294967296 = ((x * 2 ^ s / 4294967296 : Nat) : Int) := by
 rw [shl_wrap hs hx]
 have h := shl_fits hs hx
 generalize x * 2 ^ s = y at *
 omega
theorem shl_bits {x s z : Nat} (hs : s < 32) (hx : x < 4294967296) (hz : z < 2 ^ s) :
  bits .or .u32 (z : Int) (IntKind.u64.wrap ((x : Int) * 2 ^ s) % 4294967296) = ((z + x * 2 ^ s % 4294967296 : Nat) : Int) := by
 have h1 : 2 ^ s ≤ 2 ^ 31 := Nat.pow_le_pow_right (by omega) (by omega)
 rw [shl_lo hs hx, u32_or_nat _ _ (by omega) (Nat.mod_lt _ (by omega)), shl_or hs hz]
theorem shl_round {xs zs : List Nat} {k s : Nat} (hs : s < 32) (hk : k < xs.length) (hx : xs.getD k 0 < 4294967296) (h1 : zs.length = xs.length + 1) (h2 : Limb zs) (h4 : zs.getD k 0 < 2 ^ s) (h5 : ∀ j, k < j → zs.getD j 0 = 0) (h6 : val (zs.take (k + 1)) = val (xs.take k) * 2 ^ s) :
  ((zs.set k (zs.getD k 0 + xs.getD k 0 * 2 ^ s % 4294967296)).set (k + 1) (xs.getD k 0 * 2 ^ s / 4294967296)).length = xs.length + 1 ∧
  Limb ((zs.set k (zs.getD k 0 + xs.getD k 0 * 2 ^ s % 4294967296)).set (k + 1) (xs.getD k 0 * 2 ^ s / 4294967296)) ∧
  ((zs.set k (zs.getD k 0 + xs.getD k 0 * 2 ^ s % 4294967296)).set (k + 1) (xs.getD k 0 * 2 ^ s / 4294967296)).getD (k + 1) 0 < 2 ^ s ∧
  (∀ j, k + 1 < j → ((zs.set k (zs.getD k 0 + xs.getD k 0 * 2 ^ s % 4294967296)).set (k + 1) (xs.getD k 0 * 2 ^ s / 4294967296)).getD j 0 = 0) ∧
  val (((zs.set k (zs.getD k 0 + xs.getD k 0 * 2 ^ s % 4294967296)).set (k + 1) (xs.getD k 0 * 2 ^ s / 4294967296)).take (k + 1 + 1)) = val (xs.take (k + 1)) * 2 ^ s := by
 obtain ⟨s1, s2, s3⟩ := shl_step hs hx h4
 have hq : 2 ^ s ≤ 2 ^ 31 := Nat.pow_le_pow_right (by omega) (by omega)
 refine ⟨by simp [h1], limb_set (limb_set h2 s1) (by omega), ?_, fun j hj => ?_, ?_⟩
 ·rw [getD_set_self (by simp [h1]; omega)]; exact s2
 ·rw [getD_set_ne (by omega), getD_set_ne (by omega)]; exact h5 j (by omega)
 ·rw [limb_take_set (by simp [h1]; omega), limb_take_set (by omega), val_take_succ xs hk]
  rw [val_take_succ zs (by omega)] at h6
  rw [Nat.add_mul, ← h6, Nat.pow_succ]
  generalize 4294967296 ^ k = B at *
  generalize xs.getD k 0 = x at *
  generalize zs.getD k 0 = z at *
  have e : B * (z + x * 2 ^ s % 4294967296) + B * 4294967296 * (x * 2 ^ s / 4294967296) = B * (z + x * 2 ^ s) := by
   rw [Nat.mul_assoc, ← Nat.mul_add, s3]
  rw [Nat.add_assoc, e, Nat.mul_add, Nat.mul_assoc]
  omega
end Go.Proofs.YtmddjbmelajadaaGreatDoor
namespace Go.Proofs.YtmddjbmelajadaaGreatDoor
open Go Go.RowKit
theorem back_next {xs zs : List Nat} {s k v : Nat} (hk : k < zs.length) (h : ∀ j, j < k → zs.getD j 0 = backAt xs s j) (hv : backAt xs s k = v) : ∀ j, j < k + 1 → (zs.set k v).getD j 0 = backAt xs s j := by
 intro j hj
 by_cases e : j = k
 ·subst e; rw [getD_set_self hk, hv]
 ·rw [getD_set_ne (by omega)]; exact h j (by omega)
end Go.Proofs.YtmddjbmelajadaaGreatDoor
namespace Go.Proofs.YtmddjbmelajadaaGreatDoor
open Go Go.RowKit
theorem times_bound {c o x y : Nat} (hc : c < 4294967296) (ho : o < 4294967296) (hx : x < 4294967296) (hy : y < 4294967296) : x * y ≤ 18446744065119617025 ∧ c + o + x * y < 18446744073709551616 := by
 have h : x * y ≤ 4294967295 * 4294967295 := Nat.mul_le_mul (by omega) (by omega)
 omega
theorem times_inner {zs ys : List Nat} {i k c x T : Nat} (hk : i + k < zs.length) (h : val zs + 4294967296 ^ (i + k) * c = T + 4294967296 ^ i * x * val (ys.take k)) :
  val (zs.set (i + k) ((c + zs.getD (i + k) 0 + x * ys.getD k 0) % 4294967296)) + 4294967296 ^ (i + (k + 1)) * ((c + zs.getD (i + k) 0 + x * ys.getD k 0) / 4294967296) = T + 4294967296 ^ i * x * val (ys.take (k + 1)) := by
 have h1 := val_set hk ((c + zs.getD (i + k) 0 + x * ys.getD k 0) % 4294967296)
 rw [val_take_next, Nat.mul_add, ← Nat.add_assoc T, ← h]
 have e : 4294967296 ^ i * x * (4294967296 ^ k * ys.getD k 0) = 4294967296 ^ (i + k) * (x * ys.getD k 0) := by
  rw [Nat.pow_add]
  rw [Nat.mul_assoc, Nat.mul_assoc, Nat.mul_left_comm x]
 rw [e, show i + (k + 1) = i + k + 1 by omega, Nat.pow_succ]
 generalize 4294967296 ^ (i + k) = B at *
 generalize x * ys.getD k 0 = p at *
 generalize zs.getD (i + k) 0 = o at *
 have e2 : B * ((c + o + p) % 4294967296) + B * 4294967296 * ((c + o + p) / 4294967296) = B * c + B * o + B * p := by
  rw [Nat.mul_assoc, ← Nat.mul_add, ← Nat.mul_add, ← Nat.mul_add]
  congr 1
  omega
 omega
theorem times_outer {zs xs ys : List Nat} {i c : Nat} (hi : i < xs.length) (hl : zs.length = xs.length + ys.length) (h0 : zs.getD (i + ys.length) 0 = 0)
  (h : val zs + 4294967296 ^ (i + ys.length) * c = val (xs.take i) * val ys + 4294967296 ^ i * xs.getD i 0 * val (ys.take ys.length)) :
  val (zs.set (i + ys.length) c) = val (xs.take (i + 1)) * val ys := by
 have h1 := val_set (xs := zs) (j := i + ys.length) (by omega) c
 rw [h0, Nat.mul_zero, Nat.add_zero, h, List.take_length] at h1
 rw [h1, val_take_succ xs hi, Nat.add_mul]
end Go.Proofs.YtmddjbmelajadaaGreatDoor
namespace Go.Proofs.YtmddjbmelajadaaGreatDoor
/-- The quotient of the highest parts is at least the quotient's digit. -/
theorem digit_upper {U V t h B q : Nat} (hU : U / B = t) (hV : h * B ≤ V) (hB : 0 < B) (hh : 0 < h) (hq : q * V ≤ U) : q ≤ t / h := by
 rw [Nat.le_div_iff_mul_le hh, ← hU, Nat.le_div_iff_mul_le hB]
 calc q * h * B = q * (h * B) := Nat.mul_assoc ..
  _ ≤ q * V := Nat.mul_le_mul_left _ hV
  _ ≤ U := hq
/-- A digit whose product with the divisor's highest part exceeds that of the dividend is too great. -/
theorem digit_too_great {U V U2 V2 B q d : Nat} (hU : U / B = U2) (hV : V2 * B ≤ V) (hB : 0 < B) (hq : q * V ≤ U) (h : U2 < d * V2) : q < d := by
 rcases Nat.lt_or_ge q d with h1 | h1
 ·exact h1
 ·exfalso
  have h2 : d * V2 ≤ U2 := by
   rw [← hU, Nat.le_div_iff_mul_le hB]
   calc d * V2 * B = d * (V2 * B) := Nat.mul_assoc ..
    _ ≤ d * V := Nat.mul_le_mul_left _ hV
    _ ≤ q * V := Nat.mul_le_mul_right _ h1
    _ ≤ U := hq
  omega
/-- A digit whose product with the divisor's highest part fits is at most one too great. -/
theorem digit_near {U V U2 V2 B q d C : Nat} (hU : U2 * B ≤ U) (hV : V < (V2 + 1) * B) (hd : d * B ≤ C) (hC : C ≤ V) (hq : U < (q + 1) * V) (h : d * V2 ≤ U2) : d ≤ q + 1 := by
 rcases Nat.lt_or_ge (q + 1) d with h1 | h1
 ·exfalso
  have e1 : (q + 2) * V ≤ d * V := Nat.mul_le_mul_right _ h1
  have e2 : d * V ≤ d * ((V2 + 1) * B) := Nat.mul_le_mul_left _ (Nat.le_of_lt hV)
  have e3 : d * ((V2 + 1) * B) = d * V2 * B + d * B := by rw [Nat.add_mul, Nat.mul_add, Nat.one_mul, Nat.mul_assoc]
  have e4 : d * V2 * B ≤ U2 * B := Nat.mul_le_mul_right _ h
  have e5 : (q + 2) * V = (q + 1) * V + V := by rw [Nat.add_mul, Nat.add_mul]; omega
  omega
 ·exact h1
/-- A digit that leaves at least the base as the rest of the highest parts is not too great. -/
theorem digit_low {U V t h B q d b : Nat} (hU : t * B ≤ U) (hV : V ≤ (h + 1) * B) (hd : d ≤ b) (hr : d * h + b ≤ t) (hq : U < (q + 1) * V) : d ≤ q := by
 rcases Nat.lt_or_ge q d with h1 | h1
 ·exfalso
  have e1 : (q + 1) * V ≤ d * V := Nat.mul_le_mul_right _ h1
  have e2 : d * V ≤ d * ((h + 1) * B) := Nat.mul_le_mul_left _ hV
  have e3 : d * ((h + 1) * B) = (d * h + d) * B := by rw [← Nat.mul_assoc, Nat.mul_add, Nat.mul_one]
  have e4 : (d * h + d) * B ≤ t * B := Nat.mul_le_mul_right _ (by omega)
  omega
 ·exact h1
end Go.Proofs.YtmddjbmelajadaaGreatDoor
namespace Go.Proofs.YtmddjbmelajadaaGreatDoor
open Go Go.RowKit
theorem limbs_length_mono {m n : Nat} (h : m ≤ n) : (limbs m).length ≤ (limbs n).length := by
 rcases Nat.lt_or_ge (limbs n).length (limbs m).length with h1 | h1
 ·have := lt_of_limbs_length_lt h1; omega
 ·exact h1
end Go.Proofs.YtmddjbmelajadaaGreatDoor
namespace Go.Proofs.YtmddjbmelajadaaGreatDoor
theorem pow_pos' (k : Nat) : 0 < 4294967296 ^ k := Nat.pow_pos (by omega)
theorem val_ge_word (l : List Nat) (j : Nat) : 4294967296 ^ j * l.getD j 0 ≤ val l := by
 by_cases h : j < l.length
 ·rw [val_split l j (by omega), val_drop l h, Nat.mul_add]; omega
 ·rw [getD_of_le (by omega)]; omega
theorem zero_of_val_lt {l : List Nat} {m j : Nat} (h : val l < 4294967296 ^ m) (hj : m ≤ j) : l.getD j 0 = 0 := by
 rcases Nat.eq_zero_or_pos (l.getD j 0) with h0 | h0
 ·exact h0
 ·exfalso
  have h1 := val_ge_word l j
  have h2 : 4294967296 ^ m ≤ 4294967296 ^ j := Nat.pow_le_pow_right (by omega) hj
  have h3 : 4294967296 ^ j * 1 ≤ 4294967296 ^ j * l.getD j 0 := Nat.mul_le_mul_left _ h0
  omega
theorem val_zero {l : List Nat} (h : ∀ j, l.getD j 0 = 0) : val l = 0 := by
 induction l with
 | nil => rfl
 | cons x l ih =>
  have h0 := h 0
  simp only [List.getD_cons_zero] at h0
  rw [val, h0, ih fun j => by simpa using h (j + 1)]
theorem val_congr {l l' : List Nat} (h : ∀ j, l.getD j 0 = l'.getD j 0) : val l = val l' := by
 induction l generalizing l' with
 | nil => rw [val_zero (l := l') fun j => by rw [← h j]; rfl]; rfl
 | cons x l ih =>
  cases l' with
  | nil => rw [val_zero (l := x :: l) fun j => by rw [h j]; rfl]; rfl
  | cons y l' =>
   have h0 := h 0
   simp only [List.getD_cons_zero] at h0
   rw [val, val, h0, ih fun j => by simpa using h (j + 1)]
theorem getD_drop (l : List Nat) (i j : Nat) : (l.drop i).getD j 0 = l.getD (i + j) 0 := by
 rw [List.getD_eq_getElem?_getD, List.getElem?_drop, List.getD_eq_getElem?_getD]
theorem val_take_of_lt {l : List Nat} {m : Nat} (h : val l < 4294967296 ^ m) : val (l.take m) = val l := by
 apply val_congr
 intro j
 by_cases hj : j < m
 ·exact getD_take hj
 ·rw [zero_of_val_lt h (by omega), getD_of_le (by rw [List.length_take]; omega)]
/-- What the loop of a long division keeps, the digits from k on being done. -/
def DivInv (X V k : Nat) (xs qs : List Nat) : Prop := X = V * (4294967296 ^ k * val (qs.drop k)) + val xs ∧ val (xs.drop k) < V
theorem div_init {X V k n : Nat} {xs : List Nat} (hX : val xs = X) (hk : k ≤ xs.length) (h : X < 4294967296 ^ k * V) : DivInv X V k xs (List.replicate n 0) := by
 refine ⟨?_, ?_⟩
 ·rw [List.drop_replicate, val_replicate, hX]; simp
 ·rw [← hX, val_split xs k hk] at h
  apply Nat.lt_of_mul_lt_mul_left (a := 4294967296 ^ k)
  omega
theorem div_part_lt {X V i : Nat} {xs qs : List Nat} (hL : Limb xs) (hi : i < xs.length) (h : DivInv X V (i + 1) xs qs) : val (xs.drop i) < V * 4294967296 := by
 have h1 := h.2
 have h2 := hL.getD i
 rw [val_drop xs hi]
 have h3 : 4294967296 * (val (xs.drop (i + 1)) + 1) ≤ 4294967296 * V := Nat.mul_le_mul_left _ h1
 rw [Nat.mul_comm V]
 omega
theorem div_round {X V i : Nat} {xs qs us : List Nat} (h : DivInv X V (i + 1) xs qs) (hq : i < qs.length) (hi : i < xs.length) (hl : us.length = xs.length) (ht : us.take i = xs.take i)
  (hd : val (us.drop i) = val (xs.drop i) % V) (hV : 0 < V) : DivInv X V i us (qs.set i (val (xs.drop i) / V)) := by
 refine ⟨?_, by rw [hd]; exact Nat.mod_lt _ hV⟩
 have e1 : (qs.set i (val (xs.drop i) / V)).drop i = (val (xs.drop i) / V) :: qs.drop (i + 1) := by
  rw [drop_getD _ (by simp; omega), List.drop_set, if_pos (by omega), getD_set_self hq]
 rw [h.1, e1, val, val_split us i (by omega), ht, hd, val_split xs i (by omega), Nat.pow_succ]
 have h2 := Nat.div_add_mod (val (xs.drop i)) V
 generalize val (xs.drop i) / V = Q at *
 generalize val (xs.drop i) % V = R at *
 rw [← h2]
 generalize 4294967296 ^ i = B at *
 generalize val (qs.drop (i + 1)) = D at *
 simp only [Nat.mul_add]
 have e2 : V * (B * 4294967296 * D) = V * (B * (4294967296 * D)) := by rw [Nat.mul_assoc]
 have e3 : B * (V * Q) = V * (B * Q) := by rw [Nat.mul_left_comm]
 rw [e2, e3]
 omega
theorem div_end {X V : Nat} {xs qs : List Nat} (h : DivInv X V 0 xs qs) : val qs = X / V ∧ val xs = X % V := by
 obtain ⟨h1, h2⟩ := h
 simp only [List.drop_zero, Nat.pow_zero, Nat.one_mul] at h1 h2
 have hV : 0 < V := by omega
 rw [h1, Nat.mul_add_div hV, Nat.div_eq_of_lt h2, Nat.mul_add_mod, Nat.mod_eq_of_lt h2]
 exact ⟨by omega, rfl⟩
/-- The shift by which the divisor's highest bit is set. -/
theorem norm_shift {b m : Nat} (hm : (limbs b).length = m + 1) : ∃ s, s < 32 ∧ 32 * (m + 1) - (32 * m + blen ((limbs b).getD m 0)) = s ∧ blen ((limbs b).getD m 0) ≤ 32 ∧ 4294967296 ^ m * 2147483648 ≤ b * 2 ^ s ∧ b * 2 ^ s < 4294967296 ^ (m + 1) := by
 have hL := limb_limbs b
 have htop : (limbs b).getD m 0 ≠ 0 := by
  intro h0
  have h1 : val (limbs b) < 4294967296 ^ m := by
   rw [val_split (limbs b) m (by omega), val_drop (limbs b) (by omega), List.drop_of_length_le (by omega), h0]
   have := val_lt (hL.take m)
   rw [List.length_take, Nat.min_eq_left (by omega)] at this
   simpa [val] using this
  rw [val_limbs] at h1
  have := limbs_length_le h1
  omega
 have hlt := hL.getD m
 have e : b = val ((limbs b).take m) + 4294967296 ^ m * (limbs b).getD m 0 := by
  have := val_split (limbs b) m (by omega)
  rw [val_limbs, val_drop (limbs b) (by omega), List.drop_of_length_le (by omega)] at this
  simpa [val] using this
 have hlow : val ((limbs b).take m) < 4294967296 ^ m := by
  have := val_lt (hL.take m)
  rwa [List.length_take, Nat.min_eq_left (by omega)] at this
 generalize (limbs b).getD m 0 = t at *
 have h1 := lt_two_pow_blen t
 have h2 := two_pow_blen_le htop
 have h3 := blen_le (k := 32) (x := t) (by omega)
 have h4 : 1 ≤ blen t := by rw [blen_pos htop]; omega
 refine ⟨32 - blen t, by omega, by omega, h3, ?_, ?_⟩
 ·have e2 : 2 ^ (blen t - 1) * 2 ^ (32 - blen t) = 2147483648 := by rw [← Nat.pow_add, show blen t - 1 + (32 - blen t) = 31 by omega]
  rw [e]
  calc 4294967296 ^ m * 2147483648 = 4294967296 ^ m * (2 ^ (blen t - 1) * 2 ^ (32 - blen t)) := by rw [e2]
   _ = (4294967296 ^ m * 2 ^ (blen t - 1)) * 2 ^ (32 - blen t) := by rw [Nat.mul_assoc]
   _ ≤ (4294967296 ^ m * t) * 2 ^ (32 - blen t) := Nat.mul_le_mul_right _ (Nat.mul_le_mul_left _ h2)
   _ ≤ _ := Nat.mul_le_mul_right _ (by omega)
 ·have e2 : 2 ^ blen t * 2 ^ (32 - blen t) = 4294967296 := by rw [← Nat.pow_add, show blen t + (32 - blen t) = 32 by omega]
  have h5 : b < 4294967296 ^ m * 2 ^ blen t := by
   have : 4294967296 ^ m * (t + 1) ≤ 4294967296 ^ m * 2 ^ blen t := Nat.mul_le_mul_left _ h1
   rw [Nat.mul_add] at this
   omega
  calc b * 2 ^ (32 - blen t) < (4294967296 ^ m * 2 ^ blen t) * 2 ^ (32 - blen t) := Nat.mul_lt_mul_of_pos_right h5 (Nat.pow_pos (by omega))
   _ = 4294967296 ^ m * (2 ^ blen t * 2 ^ (32 - blen t)) := by rw [Nat.mul_assoc]
   _ = 4294967296 ^ (m + 1) := by rw [e2, Nat.pow_succ]
/-- At the start the dividend's part above the first digit is below the divisor. -/
theorem norm_start {a b m n s : Nat} (hn : (limbs a).length = n) (hmn : m + 1 ≤ n) (hs : s < 32) (hV : 4294967296 ^ m * 2147483648 ≤ b * 2 ^ s) : a * 2 ^ s < 4294967296 ^ (n - m) * (b * 2 ^ s) := by
 have h1 : a < 4294967296 ^ n := by
  have := val_lt (limb_limbs a)
  rwa [val_limbs, hn] at this
 have h2 : 2 ^ s ≤ 2 ^ 31 := Nat.pow_le_pow_right (by omega) (by omega)
 calc a * 2 ^ s < 4294967296 ^ n * 2 ^ s := Nat.mul_lt_mul_of_pos_right h1 (Nat.pow_pos (by omega))
  _ ≤ 4294967296 ^ n * 2147483648 := Nat.mul_le_mul_left _ (by omega)
  _ = 4294967296 ^ (n - m) * (4294967296 ^ m * 2147483648) := by rw [← Nat.mul_assoc, ← Nat.pow_add, show n - m + m = n by omega]
  _ ≤ _ := Nat.mul_le_mul_left _ hV
theorem limbs_length_eq {V m : Nat} (h1 : 4294967296 ^ m ≤ V) (h2 : V < 4294967296 ^ (m + 1)) : (limbs V).length = m + 1 := by
 have := limbs_length_le h2
 have := limbs_length_gt h1
 omega
end Go.Proofs.YtmddjbmelajadaaGreatDoor
namespace Go.Proofs.YtmddjbmelajadaaGreatDoor
open Go Go.RowKit
/-- What a division leaves: the quotient's and the remainder's words. -/
def DivRes (a b : Nat) (v : Value) (w' : World) : Prop := ∃ v1 v2, v = .tuple #[v1, v2] ∧ Words w' v1 (limbs (a / b)) ∧ Words w' v2 (limbs (a % b))
end Go.Proofs.YtmddjbmelajadaaGreatDoor
namespace Go.Proofs.YtmddjbmelajadaaGreatDoor
open Go Go.RowKit
theorem setCell_same (w : World) (p : Addr) (u v : Value) : (w.setCell p u).setCell p v = w.setCell p v := by
 have e : ∀ (h : Array Obj) (b : Nat) (f g k : Obj → Obj), (∀ o, g (f o) = k o) → (h.modify b f).modify b g = h.modify b k := fun h b f g k hfg => by
  apply Array.ext
  ·simp
  ·intro i h1 h2
   simp only [Array.getElem_modify]
   split <;> simp_all
 simp only [World.setCell]
 congr 1
 apply e
 intro o
 cases o <;> simp
 split <;> simp
end Go.Proofs.YtmddjbmelajadaaGreatDoor
namespace Go.Proofs.YtmddjbmelajadaaGreatDoor
open Go Go.RowKit
theorem gcd_step (p q : Nat) : Nat.gcd q (p % q) = Nat.gcd p q := by
 rw [Nat.gcd_comm p q, Nat.gcd_rec q p, Nat.gcd_comm]
end Go.Proofs.YtmddjbmelajadaaGreatDoor
namespace Go.Proofs.YtmddjbmelajadaaGreatDoor
open Go Go.RowKit
/-- An integer as it lies in memory: its sign and its words, whatever they are. -/
structure ZI where
 neg : Bool
 mag : List Nat
/-- A quotient as it lies in memory. -/
structure QI where
 num : ZI
 den : ZI
/-- In normal form. -/
def ZI.ok (z : ZI) : Bool := decide ((trimL z.mag).length = z.mag.length) && (!z.neg || decide (0 < z.mag.length))
def ZI.sgn (z : ZI) : Int := sgnW z.neg (trimL z.mag).length
def QI.ok (q : QI) : Bool := q.num.ok && q.den.ok && decide (0 < q.den.sgn) && decide (Nat.gcd (val q.num.mag) (val q.den.mag) = 1)
theorem limbs_eq_one {g : Nat} : (limbs g = [1]) ↔ g = 1 := by
 constructor
 ·intro h
  have := val_limbs g
  rw [h] at this
  simpa [val] using this.symm
 ·intro h; rw [h, limbs_pos (by omega)]; simp [limbs_zero]
end Go.Proofs.YtmddjbmelajadaaGreatDoor
