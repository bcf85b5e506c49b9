/- Contracts: Mul of the reference's layer 1. -/
import Derived.Deep.RegionHeld3
import Derived.Test.YtmddjbmelajadaaGreatDoorYA
namespace Go.Proofs.YtmddjbmelajadaaGreatDoor
open Go Go.RowKit
/-- A box of two cells: a sign and words. -/
def BoxI (w : World) (g : Nat) (s : Bool) (u : Value) : Prop := w.cell? ⟨g, 0, none⟩ = some (.bool s) ∧ w.cell? ⟨g, 1, none⟩ = some u ∧ w.frozen? ⟨g, 0, none⟩ = false ∧ w.frozen? ⟨g, 1, none⟩ = false ∧ g < w.heap.size ∧ NoWord w g
theorem BoxI.ext {w w' : World} {g : Nat} {s : Bool} {u : Value} (h : BoxI w g s u) (hx : Ext w w') : BoxI w' g s u := by
 obtain ⟨h0, h1, h2, h3, h4, h5⟩ := h
 exact ⟨(hx.cell (p := ⟨g, 0, none⟩) h4).trans h0, (hx.cell (p := ⟨g, 1, none⟩) h4).trans h1, (Below.frozen hx (p := ⟨g, 0, none⟩) h4).trans h2, (Below.frozen hx (p := ⟨g, 1, none⟩) h4).trans h3, Nat.lt_of_lt_of_le h4 hx.size, h5.ext h4 hx⟩
theorem cell_far {w : World} {p q : Addr} {u v : Value} (h : w.cell? q = some v) (hne : p.block ≠ q.block) : (w.setCell p u).cell? q = some v :=
 (World.cell?_setCell_other w p q u (fun e => hne (by rw [e]))).trans h
/-- The boxes of two arguments and of the result, one behind the other. -/
def Boxes3 (w : World) (g : Nat) (s t : Bool) (u v : Value) : Prop := BoxI w g s u ∧ BoxI w (g + 1) t v ∧ BoxI w (g + 1 + 1) false (.slice none 0 0)
theorem Boxes3.ext {w w' : World} {g : Nat} {s t : Bool} {u v : Value} (h : Boxes3 w g s t u v) (hx : Ext w w') : Boxes3 w' g s t u v := ⟨h.1.ext hx, h.2.1.ext hx, h.2.2.ext hx⟩
theorem Boxes3.drew {w : World} {g : Nat} {s t : Bool} {u v : Value} (h : Boxes3 w g s t u v) : Boxes3 w.drew g s t u v := h.ext (Ext.drew w)
theorem BoxI.new (w : World) (s : Bool) (u : Value) (T : TypeId) (hu : ∀ n, u ≠ .int .u32 n) : BoxI (w.alloc (.cells #[.bool s, u] T)) w.heap.size s u := by
 refine ⟨by simp [go_sem], by simp [go_sem], by simp [go_sem], by simp [go_sem], by simp, NoWord.new _ _ _ ?_⟩
 intro x hx n
 simp only [List.mem_toArray, List.mem_cons, List.not_mem_nil, or_false] at hx
 rcases hx with rfl | rfl
 ·simp
 ·exact hu n
theorem boxes3 (w : World) (s t : Bool) (A A' : Option Addr) (n m c c' : Nat) :
  Boxes3 (((w.alloc (.cells #[.bool s, .slice A n c] 62)).alloc (.cells #[.bool t, .slice A' m c'] 62)).alloc (.cells #[.bool false, .slice none 0 0] 62)) w.heap.size s t (.slice A n c) (.slice A' m c') := by
 refine ⟨?_, ?_, ?_⟩
 ·exact (BoxI.new w s _ _ (by simp)).ext ((Ext.alloc _ _).trans (Ext.alloc _ _))
 ·have := (BoxI.new (w.alloc (.cells #[.bool s, .slice A n c] 62)) t (.slice A' m c') 62 (by simp)).ext (Ext.alloc _ (.cells #[.bool false, .slice none 0 0] 62))
  simpa using this
 ·have := BoxI.new ((w.alloc (.cells #[.bool s, .slice A n c] 62)).alloc (.cells #[.bool t, .slice A' m c'] 62)) false (.slice none 0 0) 62 (by simp)
  simpa using this
end Go.Proofs.YtmddjbmelajadaaGreatDoor
namespace Go.Proofs.YtmddjbmelajadaaGreatDoor
open Go Go.RowKit
end Go.Proofs.YtmddjbmelajadaaGreatDoor
namespace Go.Proofs.YtmddjbmelajadaaGreatDoor
open Go Go.RowKit
end Go.Proofs.YtmddjbmelajadaaGreatDoor
namespace Go.Proofs.YtmddjbmelajadaaGreatDoor
open Go Go.RowKit
end Go.Proofs.YtmddjbmelajadaaGreatDoor
