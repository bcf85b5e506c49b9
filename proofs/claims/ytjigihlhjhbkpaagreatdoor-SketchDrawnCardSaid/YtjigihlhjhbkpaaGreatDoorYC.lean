/- Contracts of the program's layer 1: compare, divideWord, shiftLeft. -/
import Derived.Test.YtjigihlhjhbkpaaGreatDoorYB
import Derived.BigRegion
import Derived.Lib.SliceRun
import Derived.Deep.AppendLies
namespace Go.Proofs.YtjigihlhjhbkpaaGreatDoor
open Go Go.RowKit
end Go.Proofs.YtjigihlhjhbkpaaGreatDoor
namespace Go.Proofs.YtjigihlhjhbkpaaGreatDoor
open Go Go.RowKit
/-- Only the block g may have changed. -/
structure Only (g : Nat) (w w' : World) : Prop where
 os : w'.os = w.os
 tape : w'.tape = w.tape
 output : w'.output = w.output
 size : w.heap.size ≤ w'.heap.size
 block : ∀ k, k < w.heap.size → k ≠ g → w'.heap[k]? = w.heap[k]?
theorem Only.refl (g : Nat) (w : World) : Only g w w := ⟨rfl, rfl, rfl, Nat.le_refl _, fun _ _ _ => rfl⟩
theorem Only.pset {g : Nat} {a w : World} (h : Only g a w) (j : Nat) (u : Value) : Only g a (w.setCell ⟨g, j, none⟩ u) :=
 ⟨h.os, h.tape, h.output, by simpa [World.setCell] using h.size, fun k hk hne => (Below.heap_setCell _ _ _ _ hne).trans (h.block k hk hne)⟩
theorem Only.pdrew {g : Nat} {a w : World} (h : Only g a w) : Only g a w.drew := ⟨h.os, h.tape, h.output, h.size, h.block⟩
theorem Only.pdrewN {g : Nat} {a w : World} (h : Only g a w) (n : Nat) : Only g a (w.drewN n) := ⟨h.os, h.tape, h.output, h.size, h.block⟩
theorem Only.ext {g : Nat} {a w w' : World} (h : Only g w w') (hx : Ext a w) (hg : a.heap.size ≤ g) : Ext a w' :=
 ⟨h.os.trans hx.os, h.tape.trans hx.tape, h.output.trans hx.output, Nat.le_trans hx.size h.size, fun k hk => (h.block k (Nat.lt_of_lt_of_le hk hx.size) (by omega)).trans (hx.block k hk)⟩
theorem Only.row {g g' : Nat} {w w' : World} {xs : List Nat} (h : Only g w w') (hr : Row w g' xs) (hne : g' ≠ g) : Row w' g' xs := (h.block g' hr.lt hne).trans hr
theorem Only.cell {g : Nat} {w w' : World} (h : Only g w w') {p : Addr} (hp : p.block < w.heap.size) (hne : p.block ≠ g) : w'.cell? p = w.cell? p := by
 have := h.block p.block hp hne
 unfold World.cell?
 rw [this]
theorem Only.words {g : Nat} {w w' : World} {A : Option Addr} {n c : Nat} {xs : List Nat} (h : Only g w w') (hw : Words w (.slice A n c) xs) (hne : ∀ a, A = some a → a.block ≠ g) : Words w' (.slice A n c) xs := by
 obtain ⟨A', c', hv, hl, hm, hL, hc⟩ := hw
 obtain ⟨rfl, rfl, rfl⟩ : A = A' ∧ n = xs.length ∧ c = c' := by injection hv with h1 h2 h3; exact ⟨h1, h2, h3⟩
 refine ⟨A, c, rfl, hl, hm, hL, fun h0 => ?_⟩
 obtain ⟨b, off, rfl, hb, hcell⟩ := hc h0
 exact ⟨b, off, rfl, Nat.lt_of_lt_of_le hb h.size, fun k hk => (h.cell (p := ⟨b, off + k, none⟩) hb (by have := hne _ rfl; exact this)).trans (hcell k hk)⟩
/-- The part of a list from i on, k words long. -/
def part (xs : List Nat) (i k : Nat) : List Nat := (xs.drop i).take k
end Go.Proofs.YtjigihlhjhbkpaaGreatDoor
namespace Go.Proofs.YtjigihlhjhbkpaaGreatDoor
open Go Go.RowKit
theorem words_of_own {w : World} {base : Nat} {v : Value} {l : List Nat} (h : w.ownsRow base 127 1 v l.length (wordVs l)) (hL : Limb l) (hl : l.length ≤ 35184372088832) : Words w v l := by
 rcases h.2 with ⟨rfl, hn⟩ | ⟨g, cap, cur, rfl, hb, hg, hcap, hcm, hcs, htk⟩
 ·obtain rfl := List.eq_nil_of_length_eq_zero hn
  exact Words.nil _
 ·refine ⟨some ⟨g, 0, none⟩, cap, rfl, hcap, hl, hL, fun _ => ⟨g, 0, rfl, (Array.getElem?_eq_some_iff.1 hg).1, fun k hk => ?_⟩⟩
  have h6 : (wordVs l)[k]? = some (.int .u32 ((l.getD k 0 : Nat) : Int)) := by unfold wordVs; rw [List.getElem?_map, List.getElem?_eq_getElem hk, List.getD_eq_getElem?_getD, List.getElem?_eq_getElem hk]; rfl
  rw [← htk, List.getElem?_take] at h6
  split at h6
  ·rw [cell_of_row w g _ cur _ _ hg, Nat.zero_add]
   simpa using h6
  ·cases h6
end Go.Proofs.YtjigihlhjhbkpaaGreatDoor
