/- Contracts: DivMod of the reference's layer 1, for numbers that are not negative. -/
import Derived.Test.YtmddjbmelajadaaGreatDoorYB
namespace Go.Proofs.YtmddjbmelajadaaGreatDoor
open Go Go.RowKit
def Boxes4 (w : World) (g : Nat) (s t : Bool) (u v : Value) : Prop := BoxI w g s u ∧ BoxI w (g + 1) t v ∧ BoxI w (g + 1 + 1) false (.slice none 0 0) ∧ BoxI w (g + 1 + 1 + 1) false (.slice none 0 0)
theorem Boxes4.ext {w w' : World} {g : Nat} {s t : Bool} {u v : Value} (h : Boxes4 w g s t u v) (hx : Ext w w') : Boxes4 w' g s t u v := ⟨h.1.ext hx, h.2.1.ext hx, h.2.2.1.ext hx, h.2.2.2.ext hx⟩
theorem Boxes4.drew {w : World} {g : Nat} {s t : Bool} {u v : Value} (h : Boxes4 w g s t u v) : Boxes4 w.drew g s t u v := h.ext (Ext.drew w)
theorem boxes4 (w : World) (s t : Bool) (A A' : Option Addr) (n m c c' : Nat) :
  Boxes4 ((((w.alloc (.cells #[.bool s, .slice A n c] 62)).alloc (.cells #[.bool t, .slice A' m c'] 62)).alloc (.cells #[.bool false, .slice none 0 0] 62)).alloc (.cells #[.bool false, .slice none 0 0] 62)) w.heap.size s t (.slice A n c) (.slice A' m c') := by
 obtain ⟨h1, h2, h3⟩ := (boxes3 w s t A A' n m c c').ext (Ext.alloc _ (.cells #[.bool false, .slice none 0 0] 62))
 refine ⟨h1, h2, h3, ?_⟩
 have := BoxI.new (((w.alloc (.cells #[.bool s, .slice A n c] 62)).alloc (.cells #[.bool t, .slice A' m c'] 62)).alloc (.cells #[.bool false, .slice none 0 0] 62)) false (.slice none 0 0) 62 (by simp)
 simpa using this
theorem cell_new {w : World} {p : Addr} {v : Value} {o : Obj} (h : w.cell? p = some v) : (w.alloc o).cell? p = some v := by
 have hlt : p.block < w.heap.size := by
  rcases Nat.lt_or_ge p.block w.heap.size with h1 | h1
  ·exact h1
  ·unfold World.cell? at h; rw [Array.getElem?_eq_none h1] at h; cases h
 rw [World.cell?_alloc_lt w o p hlt]; exact h
theorem BoxI.put {w : World} {g : Nat} {s : Bool} {u : Value} (h : BoxI w g s u) (s' : Bool) {u' : Value} (hu : ∀ n, u' ≠ .int .u32 n) : BoxI ((w.setCell ⟨g, 0, none⟩ (.bool s')).setCell ⟨g, 1, none⟩ u') g s' u' := by
 obtain ⟨h0, h1, h2, h3, h4, h5⟩ := h
 have k1 : (w.setCell ⟨g, 0, none⟩ (.bool s')).cell? ⟨g, 1, none⟩ = some u := (World.cell?_setCell_other w _ _ _ (by simp)).trans h1
 refine ⟨?_, World.cell?_setCell_same _ _ _ k1, ?_, ?_, ?_, ?_⟩
 ·rw [World.cell?_setCell_other _ _ _ _ (by simp)]; exact World.cell?_setCell_same _ _ _ h0
 ·simpa [go_sem] using h2
 ·simpa [go_sem] using h3
 ·simpa [World.setCell] using h4
 ·exact (h5.set_ 0 (by simp)).set_ 1 hu
theorem BoxI.far {w : World} {g h : Nat} {s : Bool} {u : Value} (hb : BoxI w g s u) (hne : h ≠ g) (x y : Value) : BoxI ((w.setCell ⟨h, 0, none⟩ x).setCell ⟨h, 1, none⟩ y) g s u := by
 obtain ⟨h0, h1, h2, h3, h4, h5⟩ := hb
 have e : ∀ j, ((w.setCell ⟨h, 0, none⟩ x).setCell ⟨h, 1, none⟩ y).cell? ⟨g, j, none⟩ = w.cell? ⟨g, j, none⟩ := fun j => by
  rw [World.cell?_setCell_other _ _ _ _ (by intro e; injection e with e1 _ _; exact hne e1), World.cell?_setCell_other _ _ _ _ (by intro e; injection e with e1 _ _; exact hne e1)]
 refine ⟨(e 0).trans h0, (e 1).trans h1, ?_, ?_, ?_, fun j n => by rw [e j]; exact h5 j n⟩
 ·simpa [go_sem] using h2
 ·simpa [go_sem] using h3
 ·simpa [World.setCell] using h4
theorem Words.put {w : World} {g : Nat} {s : Bool} {u v : Value} {xs : List Nat} (h : Words w v xs) (hb : BoxI w g s u) (s' : Bool) (u' : Value) : Words ((w.setCell ⟨g, 0, none⟩ (.bool s')).setCell ⟨g, 1, none⟩ u') v xs :=
 (h.box hb.2.2.2.2.2 0 _).box (hb.2.2.2.2.2.set_ 0 (by simp)) 1 _
end Go.Proofs.YtmddjbmelajadaaGreatDoor
