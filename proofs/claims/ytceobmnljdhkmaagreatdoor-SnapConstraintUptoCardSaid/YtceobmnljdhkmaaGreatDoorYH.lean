/- Rows of elements that a call builds: slices whose elements hold slices. -/
import Derived.Test.YtceobmnljdhkmaaGreatDoorYG
import Derived.Deep.Upon
import Derived.Test.YtceobmnljdhkmaaGreatDoorYF
import Derived.Deep.Slices
import Derived.SizedLaws
import GoSem.ClaimJoined
import Derived.Deep.RegionHeld3
namespace Go.Proofs.YtceobmnljdhkmaaGreatDoor
open Go Go.RowKit
/-- What R says holds whatever becomes of one row. -/
def Off {α : Type} (row : Option Nat) (R : World → List Value → α → Prop) (w : World) (ds : List Value) (x : α) : Prop := ∀ w', w.grownBy w' row → R w' ds x
theorem grownBy_refl (w : World) (row : Option Nat) : w.grownBy w row := ⟨rfl, rfl, rfl, Nat.le_refl _, fun _ _ _ => rfl⟩
theorem grownBy_ext {w a b : World} {row : Option Nat} (h : Ext w a) (hg : a.grownBy b row) : w.grownBy b row :=
 ⟨hg.os.trans h.os, hg.tape.trans h.tape, hg.output.trans h.output, Nat.le_trans h.size hg.size, fun k hk hne => (hg.block k (Nat.lt_of_lt_of_le hk h.size) hne).trans (h.block k hk)⟩
theorem Off.out {α : Type} {row : Option Nat} {R : World → List Value → α → Prop} {w : World} {ds : List Value} {x : α} (h : Off row R w ds x) : R w ds x := h w (grownBy_refl w row)
theorem Off.ext {α : Type} {row : Option Nat} {R : World → List Value → α → Prop} {w w' : World} {ds : List Value} {x : α} (h : Off row R w ds x) (hx : Ext w w') : Off row R w' ds x := fun w'' hg => h w'' (grownBy_ext hx hg)
/-- Another row, which lies in no block that was there, or in the same one. -/
theorem Off.grown {α : Type} {row : Option Nat} {g : Nat} {R : World → List Value → α → Prop} {w w' : World} {ds : List Value} {x : α} (h : Off row R w ds x) (hg : w.grownBy w' row) (hat : row = some g ∨ g = w.heap.size) : Off (some g) R w' ds x := fun w'' hg' =>
 h w'' ⟨hg'.os.trans hg.os, hg'.tape.trans hg.tape, hg'.output.trans hg.output, Nat.le_trans hg.size hg'.size, fun k hk hne => (hg'.block k (Nat.lt_of_lt_of_le hk hg.size) (by
  intro e
  injection e with e
  subst e
  rcases hat with h1 | h1
  ·exact hne h1.symm
  ·omega)).trans (hg.block k hk hne)⟩
/-- Whatever lay there ahead of the row. -/
theorem Off.of_stable {α : Type} {row : Option Nat} {R : World → List Value → α → Prop} {w0 w : World} {ds : List Value} {x : α} (hR : Stable R) (h : R w0 ds x) (hx : Ext w0 w) (hr : ∀ r, row = some r → w0.heap.size ≤ r) : Off row R w ds x := fun _ hg => hR _ _ _ _ (ext_grown hg hx hr) h
/-- A slice that the call owns, and what its elements read as. -/
def RowOf {α : Type} (T sz : Nat) (R : World → List Value → α → Prop) (base : Nat) (w : World) (v : Value) (l : List α) : Prop :=
 ∃ xs, w.ownsRow base T sz v l.length xs ∧ ∀ k x, l[k]? = some x → ∃ ds, ds.length = sz ∧ (∀ j u, ds[j]? = some u → xs[k * sz + j]? = some u) ∧ Off v.ownBlock R w ds x
section
variable {α : Type} {T sz : Nat} {R : World → List Value → α → Prop} {base : Nat} {w w' : World} {v : Value} {l : List α}
theorem RowOf.nil : RowOf T sz R base w (.slice none 0 0) ([] : List α) := ⟨[], World.ownsRow_nil _ _ _ _, fun k x h => by simp at h⟩
theorem RowOf.ext (h : RowOf T sz R base w v l) (hx : Ext w w') : RowOf T sz R base w' v l := by
 obtain ⟨xs, ho, hel⟩ := h
 refine ⟨xs, ownsRow_ext ho hx, fun k x hk => ?_⟩
 obtain ⟨ds, h1, h2, h3⟩ := hel k x hk
 exact ⟨ds, h1, h2, h3.ext hx⟩
theorem RowOf.form (h : RowOf T sz R base w v l) : ∃ A c, v = .slice A l.length c := by
 obtain ⟨xs, ho, -⟩ := h
 rcases ho.2 with ⟨rfl, hn⟩ | ⟨g, cap, cur, rfl, -⟩
 ·exact ⟨none, 0, by rw [hn]⟩
 ·exact ⟨_, _, rfl⟩
theorem RowOf.lt (h : RowOf T sz R base w v l) : ∀ r, v.ownBlock = some r → base ≤ r ∧ r < w.heap.size := by
 obtain ⟨xs, ho, -⟩ := h
 exact ho.lt
theorem RowOf.arr (h : RowOf T sz R base w v l) (hl : l.length ≤ 230000000) : ArrAt sz R w v l := by
 obtain ⟨xs, ho, hel⟩ := h
 rcases ho.2 with ⟨rfl, hn⟩ | ⟨g, cap, cur, rfl, hb, hg, hcap, hcm, hcs, htk⟩
 ·obtain rfl := List.eq_nil_of_length_eq_zero hn
  exact ArrAt.nil
 ·refine ⟨some ⟨g, 0, none⟩, cap, rfl, hcap, by omega, fun _ => ⟨g, 0, rfl, (Array.getElem?_eq_some_iff.1 hg).1, fun k x hk => ?_⟩⟩
  obtain ⟨ds, h1, h2, h3⟩ := hel k x hk
  refine ⟨ds, h1, fun j u hj => ?_, h3.out⟩
  have h6 := h2 j u hj
  rw [← htk, List.getElem?_take] at h6
  split at h6
  ·rw [cell_of_row w g _ cur _ _ hg, Nat.zero_add]
   simpa using h6
  ·cases h6
/-- Behind an append. -/
theorem RowOf.append {X : World} {xs news : List Value} {m g cap : Nat} {l' : List α} (hxs : xs.length = l.length * sz) (hel : ∀ k x, l[k]? = some x → ∃ ds, ds.length = sz ∧ (∀ j u, ds[j]? = some u → xs[k * sz + j]? = some u) ∧ Off v.ownBlock R X ds x)
  (hel' : ∀ k x, l'[k]? = some x → ∃ ds, ds.length = sz ∧ (∀ j u, ds[j]? = some u → news[k * sz + j]? = some u) ∧ Off v.ownBlock R X ds x) (hm : l'.length = m)
  (hown : w'.ownsRow base T sz (.slice (some ⟨g, 0, none⟩) (l.length + m) cap) (l.length + m) (xs ++ news)) (hg : X.grownBy w' v.ownBlock) (hat : v.ownBlock = some g ∨ g = X.heap.size) :
  RowOf T sz R base w' (.slice (some ⟨g, 0, none⟩) (l ++ l').length cap) (l ++ l') := by
 subst hm
 refine ⟨xs ++ news, by rw [List.length_append]; exact hown, fun k x hk => ?_⟩
 rcases Nat.lt_or_ge k l.length with hlt | hge
 ·rw [List.getElem?_append_left hlt] at hk
  obtain ⟨ds, h1, h2, h3⟩ := hel k x hk
  refine ⟨ds, h1, fun j u hj => ?_, h3.grown hg hat⟩
  have := h2 j u hj
  rw [List.getElem?_append_left ((List.getElem?_eq_some_iff.1 this).1)]
  exact this
 ·rw [List.getElem?_append_right hge] at hk
  obtain ⟨ds, h1, h2, h3⟩ := hel' _ x hk
  refine ⟨ds, h1, fun j u hj => ?_, h3.grown hg hat⟩
  have := h2 j u hj
  rw [List.getElem?_append_right (by rw [hxs]; have := Nat.mul_le_mul_right sz hge; omega)]
  rw [show k * sz + j - xs.length = (k - l.length) * sz + j by rw [hxs, Nat.sub_mul]; have := Nat.mul_le_mul_right sz hge; omega]
  exact this
end
end Go.Proofs.YtceobmnljdhkmaaGreatDoor
namespace Go.Proofs.YtceobmnljdhkmaaGreatDoor
open Go Go.RowKit
theorem ArrAt.off {α : Type} {sz : Nat} {R : World → List Value → α → Prop} (hR : Stable R) {w0 w : World} {v : Value} {xs : List α} (h : ArrAt sz R w0 v xs) (hx : Ext w0 w) {row : Option Nat} (hr : ∀ r, row = some r → w0.heap.size ≤ r) : ArrAt sz (Off row R) w v xs := by
 obtain ⟨A, c, hv, hl, hm, hc⟩ := h
 refine ⟨A, c, hv, hl, hm, fun hne => ?_⟩
 obtain ⟨b, off, hA, hb, hk⟩ := hc hne
 refine ⟨b, off, hA, Nat.lt_of_lt_of_le hb hx.size, fun k x hkx => ?_⟩
 obtain ⟨cs, hcs, hcell, hr'⟩ := hk k x hkx
 exact ⟨cs, hcs, fun j u hj => (hx.cell (p := ⟨b, off + (k * sz + j), none⟩) hb).trans (hcell j u hj), Off.of_stable hR hr' hx hr⟩
theorem ArrAt.const {α : Type} {sz : Nat} {R : World → List Value → α → Prop} {w0 w : World} {v : Value} {xs : List α} (h : ArrAt sz R w0 v xs) (hx : Ext w0 w) (row : Option Nat) : ArrAt sz (Off row (fun _ ds x => R w0 ds x)) w v xs := by
 obtain ⟨A, c, hv, hl, hm, hc⟩ := h
 refine ⟨A, c, hv, hl, hm, fun hne => ?_⟩
 obtain ⟨b, off, hA, hb, hk⟩ := hc hne
 refine ⟨b, off, hA, Nat.lt_of_lt_of_le hb hx.size, fun k x hkx => ?_⟩
 obtain ⟨cs, hcs, hcell, hr'⟩ := hk k x hkx
 exact ⟨cs, hcs, fun j u hj => (hx.cell (p := ⟨b, off + (k * sz + j), none⟩) hb).trans (hcell j u hj), fun _ _ => hr'⟩
theorem RowOf.far {α : Type} {T sz : Nat} {S : List Value → α → Prop} {base : Nat} {w w' : World} {v : Value} {l : List α} {row : Option Nat} (h : RowOf T sz (fun _ => S) base w v l) (hg : w.grownBy w' row) (hne : v.ownBlock = none ∨ v.ownBlock ≠ row) : RowOf T sz (fun _ => S) base w' v l := by
 obtain ⟨xs, ho, hel⟩ := h
 refine ⟨xs, ho.kept hg hne, fun k x hk => ?_⟩
 obtain ⟨ds, h1, h2, h3⟩ := hel k x hk
 exact ⟨ds, h1, h2, fun _ _ => h3.out⟩
theorem grownBy_setCell (w : World) (p : Addr) (u : Value) : w.grownBy (w.setCell p u) (some p.block) :=
 ⟨rfl, rfl, rfl, by simp [World.setCell], fun k _ hne => Below.heap_setCell _ _ _ _ (by intro e; exact hne (by rw [e]))⟩
section
variable {P : Program}
end
theorem ConR.one {K : Nat} : ∀ (w : World) (ds : List Value) (x : CI), ConR K w ds x → ∀ u ∈ ds, u.oneCell' = true := by
 rintro w ds x ⟨pv, cv, vv, rfl, hp, hc, hv⟩ u hu
 obtain ⟨_, _, rfl, _⟩ := hp.form
 obtain ⟨_, _, rfl, _⟩ := hc.form
 obtain ⟨_, _, rfl, _⟩ := hv.form
 simp only [List.mem_cons, List.not_mem_nil, or_false] at hu
 rcases hu with rfl | rfl | rfl | rfl | rfl <;> rfl
end Go.Proofs.YtceobmnljdhkmaaGreatDoor
namespace Go.Proofs.YtceobmnljdhkmaaGreatDoor
open Go Go.RowKit
/-- The blocks of S are as they were. -/
structure Keep (S : Nat → Prop) (w w' : World) : Prop where
 os : w'.os = w.os
 tape : w'.tape = w.tape
 output : w'.output = w.output
 size : w.heap.size ≤ w'.heap.size
 block : ∀ k, k < w.heap.size → S k → w'.heap[k]? = w.heap[k]?
/-- P holds, and goes on to hold whatever becomes of the blocks outside S. -/
def On (S : Nat → Prop) (P : World → Prop) (w : World) : Prop := ∀ w', Keep S w w' → P w'
section
variable {S S' : Nat → Prop} {a w w' : World} {P Q : World → Prop}
theorem Keep.refl (S : Nat → Prop) (w : World) : Keep S w w := ⟨rfl, rfl, rfl, Nat.le_refl _, fun _ _ _ => rfl⟩
theorem Keep.trans (h : Keep S a w) (k : Keep S w w') : Keep S a w' :=
 ⟨k.os.trans h.os, k.tape.trans h.tape, k.output.trans h.output, Nat.le_trans h.size k.size, fun i hi hs => (k.block i (Nat.lt_of_lt_of_le hi h.size) hs).trans (h.block i hi hs)⟩
theorem Keep.mono (h : Keep S w w') (hs : ∀ k, k < w.heap.size → S' k → S k) : Keep S' w w' := ⟨h.os, h.tape, h.output, h.size, fun i hi hk => h.block i hi (hs i hi hk)⟩
theorem Ext.keep (h : Ext w w') (S : Nat → Prop) : Keep S w w' := ⟨h.os, h.tape, h.output, h.size, fun i hi _ => h.block i hi⟩
theorem Keep.ext (h : Keep S w w') (hs : ∀ k, k < w.heap.size → S k) : Ext w w' := ⟨h.os, h.tape, h.output, h.size, fun i hi => h.block i hi (hs i hi)⟩
theorem Keep.set_ (w : World) (p : Addr) (u : Value) (hp : ¬ S p.block) : Keep S w (w.setCell p u) :=
 ⟨rfl, rfl, rfl, by simp [World.setCell], fun k _ hk => Below.heap_setCell _ _ _ _ (by intro e; exact hp (e ▸ hk))⟩
theorem Keep.pset (h : Keep S a w) (p : Addr) (u : Value) (hp : p.block < a.heap.size → ¬ S p.block) : Keep S a (w.setCell p u) :=
 ⟨h.os, h.tape, h.output, by simpa [World.setCell] using h.size, fun k hk hs => (Below.heap_setCell _ _ _ _ (by intro e; exact hp (e ▸ hk) (e ▸ hs))).trans (h.block k hk hs)⟩
theorem On.out (h : On S P w) : P w := h w (Keep.refl _ _)
theorem On.keep (h : On S P w) (k : Keep S w w') : On S P w' := fun w'' h' => h w'' (k.trans h')
theorem On.ext (h : On S P w) (k : Ext w w') : On S P w' := h.keep (k.keep S)
theorem On.mono (h : On S P w) (hs : ∀ k, k < w.heap.size → S k → S' k) : On S' P w := fun w'' h' => h w'' (h'.mono hs)
theorem On.imp (h : On S P w) (hq : ∀ w', Keep S w w' → P w' → Q w') : On S Q w := fun w'' h' => hq w'' h' (h w'' h')
theorem On.stable (hP : ∀ w w', Ext w w' → P w → P w') (h : P a) (hx : Ext a w) (hs : ∀ k, k < a.heap.size → S k) : On S P w := fun w' hk =>
 hP a w' ⟨hk.os.trans hx.os, hk.tape.trans hx.tape, hk.output.trans hx.output, Nat.le_trans hx.size hk.size, fun i hi => (hk.block i (Nat.lt_of_lt_of_le hi hx.size) (hs i hi)).trans (hx.block i hi)⟩ h
theorem On.const {p : Prop} (h : p) : On S (fun _ => p) w := fun _ _ => h
theorem On.and (h : On S P w) (k : On S Q w) : On S (fun w => P w ∧ Q w) w := fun w' hk => ⟨h w' hk, k w' hk⟩
end
/-- A slice that the call owns; its block lies in [lo, hi), its elements read by R, in S. -/
def RowS {α : Type} (S : Nat → Prop) (T sz : Nat) (R : World → List Value → α → Prop) (lo hi : Nat) (w : World) (v : Value) (l : List α) : Prop :=
 ∃ xs, w.ownsRow lo T sz v l.length xs ∧ (∀ r, v.ownBlock = some r → r < hi) ∧ ∀ k x, l[k]? = some x → ∃ ds, ds.length = sz ∧ (∀ j u, ds[j]? = some u → xs[k * sz + j]? = some u) ∧ On S (fun w => R w ds x) w
section
variable {α : Type} {S S' : Nat → Prop} {T sz lo hi : Nat} {R : World → List Value → α → Prop} {w w' : World} {v : Value} {l : List α}
theorem ownsRow_at {base n : Nat} {xs : List Value} {w w' : World} {v : Value} (h : w.ownsRow base T sz v n xs) (hb : ∀ r, v.ownBlock = some r → w'.heap[r]? = w.heap[r]?) : w'.ownsRow base T sz v n xs := by
 refine ⟨h.1, ?_⟩
 rcases h.2 with h1 | ⟨g, cap, cur, h1, h2, h3, h4⟩
 ·exact .inl h1
 ·exact .inr ⟨g, cap, cur, h1, h2, (hb g (by rw [h1]; rfl)).trans h3, h4⟩
theorem RowS.lt (h : RowS S T sz R lo hi w v l) : ∀ r, v.ownBlock = some r → lo ≤ r ∧ r < hi ∧ r < w.heap.size := by
 obtain ⟨xs, ho, hh, -⟩ := h
 intro r hr
 exact ⟨(ho.lt r hr).1, hh r hr, (ho.lt r hr).2⟩
theorem RowS.keep (h : RowS S T sz R lo hi w v l) (k : Keep S w w') (hb : ∀ r, v.ownBlock = some r → w'.heap[r]? = w.heap[r]?) : RowS S T sz R lo hi w' v l := by
 obtain ⟨xs, ho, hh, hel⟩ := h
 refine ⟨xs, ownsRow_at ho hb, hh, fun i x hx => ?_⟩
 obtain ⟨ds, h1, h2, h3⟩ := hel i x hx
 exact ⟨ds, h1, h2, h3.keep k⟩
theorem RowS.ext (h : RowS S T sz R lo hi w v l) (k : Ext w w') : RowS S T sz R lo hi w' v l := h.keep (k.keep S) (fun r hr => k.block r (h.lt r hr).2.2)
theorem RowS.mono (h : RowS S T sz R lo hi w v l) (hs : ∀ k, k < w.heap.size → S k → S' k) : RowS S' T sz R lo hi w v l := by
 obtain ⟨xs, ho, hh, hel⟩ := h
 refine ⟨xs, ho, hh, fun i x hx => ?_⟩
 obtain ⟨ds, h1, h2, h3⟩ := hel i x hx
 exact ⟨ds, h1, h2, h3.mono hs⟩
theorem RowS.bounds (h : RowS S T sz R lo hi w v l) {lo' hi' : Nat} (h1 : lo' ≤ lo) (h2 : hi ≤ hi') : RowS S T sz R lo' hi' w v l := by
 obtain ⟨xs, ho, hh, hel⟩ := h
 refine ⟨xs, ⟨ho.1, ?_⟩, fun r hr => Nat.lt_of_lt_of_le (hh r hr) h2, hel⟩
 rcases ho.2 with h3 | ⟨g, cap, cur, g1, g2, g3⟩
 ·exact .inl h3
 ·exact .inr ⟨g, cap, cur, g1, Nat.le_trans h1 g2, g3⟩
theorem RowS.imp {β : Type} {R' : World → List Value → β → Prop} {f : α → β} (h : RowS S T sz R lo hi w v l) (hR : ∀ w ds x, R w ds x → R' w ds (f x)) : RowS S T sz R' lo hi w v (l.map f) := by
 obtain ⟨xs, ho, hh, hel⟩ := h
 refine ⟨xs, by rw [List.length_map]; exact ho, hh, fun i x hx => ?_⟩
 rw [List.getElem?_map] at hx
 obtain ⟨y, hy, rfl⟩ := Option.map_eq_some_iff.1 hx
 obtain ⟨ds, h1, h2, h3⟩ := hel i y hy
 exact ⟨ds, h1, h2, h3.imp fun w _ h => hR w _ _ h⟩
theorem RowS.form (h : RowS S T sz R lo hi w v l) : ∃ A c, v = .slice A l.length c := by
 obtain ⟨xs, ho, -⟩ := h
 rcases ho.2 with ⟨rfl, hn⟩ | ⟨g, cap, cur, rfl, -⟩
 ·exact ⟨none, 0, by rw [hn]⟩
 ·exact ⟨_, _, rfl⟩
/-- Other data, read by another relation. -/
theorem RowS.re {β : Type} {R' : World → List Value → β → Prop} {l' : List β} (h : RowS S T sz R lo hi w v l) (hl : l'.length = l.length) (hr : ∀ (k : Nat) (x : α) (x' : β), l[k]? = some x → l'[k]? = some x' → ∀ ds, On S (fun w => R w ds x) w → On S' (fun w => R' w ds x') w) : RowS S' T sz R' lo hi w v l' := by
 obtain ⟨xs, ho, hh, hel⟩ := h
 refine ⟨xs, by rw [hl]; exact ho, hh, fun i x' hi => ?_⟩
 have hlt := (List.getElem?_eq_some_iff.1 hi).1
 obtain ⟨ds, h1, h2, h3⟩ := hel i _ (List.getElem?_eq_getElem (by omega))
 exact ⟨ds, h1, h2, hr i _ _ (List.getElem?_eq_getElem (by omega)) hi ds h3⟩
/-- One of the elements. -/
theorem RowS.at_ {A : Option Addr} {n c : Nat} (h : RowS S T sz R lo hi w (.slice A n c) l) {k : Nat} (hk : k < l.length) :
  ∃ r ds, A = some ⟨r, 0, none⟩ ∧ lo ≤ r ∧ r < hi ∧ r < w.heap.size ∧ n = l.length ∧ n ≤ c ∧ ds.length = sz ∧ (∀ j u, ds[j]? = some u → w.cell? ⟨r, k * sz + j, none⟩ = some u) ∧ (∀ j, w.frozen? ⟨r, j, none⟩ = false) ∧ On S (fun w => R w ds l[k]) w := by
 obtain ⟨xs, ho, hh, hel⟩ := h
 rcases ho.2 with ⟨h1, h2⟩ | ⟨g, cap, cur, h1, hb, hg, hcap, hcm, hcs, htk⟩
 ·omega
 ·injection h1 with e1 e2 e3
  subst e1 e2 e3
  obtain ⟨ds, d1, d2, d3⟩ := hel k _ (List.getElem?_eq_getElem hk)
  refine ⟨g, ds, rfl, hb, hh g rfl, (Array.getElem?_eq_some_iff.1 hg).1, rfl, hcap, d1, fun j u hj => ?_, fun j => ?_, d3⟩
  ·have h6 := d2 j u hj
   rw [← htk, List.getElem?_take] at h6
   split at h6
   ·rw [cell_of_row w g _ cur _ _ hg]
    simpa using h6
   ·cases h6
  ·simp [World.frozen?, hg]
theorem RowS.len {A : Option Addr} {n c : Nat} (h : RowS S T sz R lo hi w (.slice A n c) l) : n = l.length := by
 obtain ⟨A', c', h1⟩ := h.form
 injection h1
/-- One cell of a row. -/
theorem ownsRow_set {base n r o : Nat} {A : Option Addr} {m c : Nat} {xs : List Value} (h : w.ownsRow base T sz (.slice A m c) n xs) (hr : A = some ⟨r, 0, none⟩) (ho : o < n * sz) (u : Value) : (w.setCell ⟨r, o, none⟩ u).ownsRow base T sz (.slice A m c) n (xs.set o u) := by
 refine ⟨by rw [List.length_set]; exact h.1, ?_⟩
 rcases h.2 with h1 | ⟨g, cap, cur, h1, h2, h3, h4, h5, h6, h7⟩
 ·exact .inl h1
 ·injection h1 with e1 e2 e3
  rw [hr] at e1
  injection e1 with e1
  injection e1 with e1 _ _
  subst e1 e2 e3
  refine .inr ⟨r, c, cur.setIfInBounds o u, by rw [hr], h2, ?_, h4, h5, by rw [Array.size_setIfInBounds]; exact h6, ?_⟩
  ·simp [World.setCell, Array.getElem?_modify, h3]
  ·rw [Array.toList_setIfInBounds, List.take_set, h7]
theorem ownsRow_sets {base n r : Nat} {A : Option Addr} {m c : Nat} (hr : A = some ⟨r, 0, none⟩) : ∀ (us : List Value) (o : Nat) (w : World) (xs : List Value), w.ownsRow base T sz (.slice A m c) n xs → o + us.length ≤ n * sz →
  ∃ ys, (w.setCells r o us).ownsRow base T sz (.slice A m c) n ys ∧ (∀ j, j < o ∨ o + us.length ≤ j → ys[j]? = xs[j]?) ∧ (∀ j u, us[j]? = some u → ys[o + j]? = some u)
 | [], o, w, xs, h, _ => ⟨xs, h, fun _ _ => rfl, fun j u hj => by simp at hj⟩
 | a :: us, o, w, xs, h, hl => by
  obtain ⟨ys, h1, h2, h3⟩ := ownsRow_sets hr us (o + 1) _ _ (ownsRow_set h hr (o := o) (by simp at hl; omega) a) (by simp at hl; omega)
  refine ⟨ys, h1, fun j hj => ?_, fun j u hj => ?_⟩
  ·rw [h2 j (by simp at hj; omega), List.getElem?_set_ne (by simp at hj; omega)]
  ·rcases j with _ | j
   ·simp at hj
    subst hj
    rw [Nat.add_zero, h2 o (by omega), List.getElem?_set_self]
    have := h.1
    rw [this]; simp at hl; omega
   ·have := h3 j u (by simpa using hj)
    rwa [show o + 1 + j = o + (j + 1) by omega] at this
theorem Keep.sets {a : World} (r : Nat) (hr : r < a.heap.size → ¬ S r) : ∀ (us : List Value) (o : Nat) (w : World), Keep S a w → Keep S a (w.setCells r o us)
 | [], _, _, h => h
 | u :: us, o, _, h => Keep.sets r hr us (o + 1) _ (h.pset ⟨r, o, none⟩ u hr)
theorem Ext.sets {a : World} (r : Nat) (hr : a.heap.size ≤ r) : ∀ (us : List Value) (o : Nat) (w : World), Ext a w → Ext a (w.setCells r o us)
 | [], _, _, h => h
 | u :: us, o, _, h => Ext.sets r hr us (o + 1) _ (h.pset hr u)
/-- Some of an element's cells are stored anew. -/
theorem RowS.put {r m c k j0 : Nat} {us : List Value} (h : RowS S T sz R lo hi w (.slice (some ⟨r, 0, none⟩) m c) l) (hk : k < l.length) (hj : j0 + us.length ≤ sz) (hr : ¬ S r) {x' : α}
  (hx : ∀ ds, ds.length = sz → On S (fun w => R w ds l[k]) w → ∀ ds', ds'.length = sz → (∀ j, j < j0 ∨ j0 + us.length ≤ j → ds'[j]? = ds[j]?) → (∀ j u, us[j]? = some u → ds'[j0 + j]? = some u) → On S (fun w => R w ds' x') w) :
  RowS S T sz R lo hi (w.setCells r (k * sz + j0) us) (.slice (some ⟨r, 0, none⟩) m c) (l.set k x') := by
 obtain ⟨xs, ho, hh, hel⟩ := h
 have hks : (k + 1) * sz ≤ l.length * sz := Nat.mul_le_mul_right sz hk
 rw [Nat.add_mul, Nat.one_mul] at hks
 obtain ⟨ys, g1, g2, g3⟩ := ownsRow_sets rfl us (k * sz + j0) w xs ho (by omega)
 have hK : Keep S w (w.setCells r (k * sz + j0) us) := Keep.sets r (fun _ => hr) us _ w (Keep.refl _ _)
 have hyl : ys.length = l.length * sz := g1.1
 refine ⟨ys, by rw [List.length_set]; exact g1, hh, fun i x hi => ?_⟩
 by_cases hik : i = k
 ·subst hik
  rw [List.getElem?_set_self hk] at hi
  injection hi with hi
  subst hi
  obtain ⟨ds, d1, d2, d3⟩ := hel i _ (List.getElem?_eq_getElem hk)
  have hd' : ∀ j, j < sz → ((ys.drop (i * sz)).take sz)[j]? = ys[i * sz + j]? := fun j hj => by rw [List.getElem?_take_of_lt hj, List.getElem?_drop]
  refine ⟨(ys.drop (i * sz)).take sz, by rw [List.length_take, List.length_drop]; omega, fun j u hju => ?_, (hx ds d1 d3 _ (by rw [List.length_take, List.length_drop]; omega) (fun j hjj => ?_) (fun j u hju => ?_)).keep hK⟩
  ·have hjs : j < sz := by
    have := (List.getElem?_eq_some_iff.1 hju).1
    rw [List.length_take] at this; omega
   rwa [hd' j hjs] at hju
  ·rcases Nat.lt_or_ge j sz with hjs | hjs
   ·rw [hd' j hjs, g2 _ (by omega)]
    rw [List.getElem?_eq_getElem (by omega : j < ds.length)]
    exact d2 j _ (List.getElem?_eq_getElem (by omega))
   ·rw [List.getElem?_eq_none (by rw [List.length_take]; omega), List.getElem?_eq_none (by omega)]
  ·have hju' := (List.getElem?_eq_some_iff.1 hju).1
   rw [hd' _ (by omega)]
   have := g3 j u hju
   rwa [show i * sz + j0 + j = i * sz + (j0 + j) by omega] at this
 ·rw [List.getElem?_set_ne (by omega)] at hi
  obtain ⟨ds, d1, d2, d3⟩ := hel i x hi
  refine ⟨ds, d1, fun j u hju => ?_, d3.keep hK⟩
  have hjs := (List.getElem?_eq_some_iff.1 hju).1
  rw [g2]
  ·exact d2 j u hju
  ·rcases Nat.lt_or_gt_of_ne hik with h1 | h1
   ·have := Nat.mul_le_mul_right sz (show i + 1 ≤ k from h1)
    rw [Nat.add_mul] at this; omega
   ·have := Nat.mul_le_mul_right sz (show k + 1 ≤ i from h1)
    rw [Nat.add_mul] at this; omega
/-- The slice as data. -/
theorem RowS.arr (h : RowS S T sz R lo hi w v l) (hl : l.length ≤ 230000000) (hS : ∀ r, v.ownBlock = some r → S' r) (hSS : ∀ k, k < w.heap.size → S k → S' k) : On S' (fun w => ArrAt sz R w v l) w := by
 intro w' hk
 have hlt := h.lt
 have h' := h.keep (hk.mono hSS) (fun r hr => hk.block r (hlt r hr).2.2 (hS r hr))
 obtain ⟨xs, ho, -, hel⟩ := h'
 rcases ho.2 with ⟨rfl, hn⟩ | ⟨g, cap, cur, rfl, hb, hg, hcap, hcm, hcs, htk⟩
 ·obtain rfl := List.eq_nil_of_length_eq_zero hn
  exact ArrAt.nil
 ·refine ⟨some ⟨g, 0, none⟩, cap, rfl, hcap, by omega, fun _ => ⟨g, 0, rfl, (Array.getElem?_eq_some_iff.1 hg).1, fun k x hk => ?_⟩⟩
  obtain ⟨ds, h1, h2, h3⟩ := hel k x hk
  refine ⟨ds, h1, fun j u hj => ?_, h3.out⟩
  have h6 := h2 j u hj
  rw [← htk, List.getElem?_take] at h6
  split at h6
  ·rw [cell_of_row w' g _ cur _ _ hg, Nat.zero_add]
   simpa using h6
  ·cases h6
end
theorem ArrAt.old {α : Type} {sz : Nat} {R : World → List Value → α → Prop} {w0 w : World} {v : Value} {xs : List α} (h : ArrAt sz R w0 v xs) (hx : Ext w0 w) : ArrAt sz (fun _ => R w0) w v xs := by
 obtain ⟨A, c, hv, hl, hm, hc⟩ := h
 refine ⟨A, c, hv, hl, hm, fun hne => ?_⟩
 obtain ⟨b, off, hA, hb, hk⟩ := hc hne
 refine ⟨b, off, hA, Nat.lt_of_lt_of_le hb hx.size, fun k x hkx => ?_⟩
 obtain ⟨cs, hcs, hcell, hr'⟩ := hk k x hkx
 exact ⟨cs, hcs, fun j u hj => (hx.cell (p := ⟨b, off + (k * sz + j), none⟩) hb).trans (hcell j u hj), hr'⟩
/-- Slices of words, as slices of elements. -/
theorem Words.arr {w : World} {v : Value} {xs : List Nat} (h : Words w v xs) : ArrAt 1 WordR w v xs := by
 obtain ⟨A, c, hv, hl, hm, hL, hc⟩ := h
 refine ⟨A, c, hv, hl, hm, fun hne => ?_⟩
 obtain ⟨b, off, hA, hb, hk⟩ := hc (List.length_pos_iff.2 hne)
 refine ⟨b, off, hA, hb, fun k x hx => ?_⟩
 obtain ⟨hkl, hx'⟩ := List.getElem?_eq_some_iff.1 hx
 refine ⟨[.int .u32 (x : Int)], rfl, fun j u hj => ?_, rfl, hL x (by rw [← hx']; exact List.getElem_mem hkl)⟩
 rcases j with _ | j
 ·simp at hj
  subst hj
  have := hk k hkl
  rw [List.getD_eq_getElem?_getD, hx] at this
  simpa using this
 ·simp at hj
theorem ArrAt.words {w : World} {v : Value} {xs : List Nat} (h : ArrAt 1 WordR w v xs) : Words w v xs := by
 obtain ⟨A, c, hv, hl, hm, hc⟩ := h
 have hel : ∀ (hne : xs ≠ []) k (hk : k < xs.length), ∃ b off, A = some ⟨b, off, none⟩ ∧ b < w.heap.size ∧ w.cell? ⟨b, off + k, none⟩ = some (.int .u32 ((xs.getD k 0 : Nat) : Int)) ∧ xs[k] < 4294967296 := by
  intro hne k hk
  obtain ⟨b, off, hA, hb, hx⟩ := hc hne
  obtain ⟨cs, h1, h2, h3, h4⟩ := hx k _ (List.getElem?_eq_getElem hk)
  refine ⟨b, off, hA, hb, ?_, h4⟩
  rw [h3] at h2
  have := h2 0 _ rfl
  rw [List.getD_eq_getElem?_getD, List.getElem?_eq_getElem hk]
  simpa using this
 refine ⟨A, c, hv, hl, hm, fun x hx => ?_, fun h0 => ?_⟩
 ·obtain ⟨k, hk, rfl⟩ := List.mem_iff_getElem.1 hx
  obtain ⟨_, _, _, _, _, h4⟩ := hel (by intro e; rw [e] at hk; simp at hk) k hk
  exact h4
 ·have hne : xs ≠ [] := List.length_pos_iff.1 h0
  obtain ⟨b, off, hA, hb, -⟩ := hc hne
  refine ⟨b, off, hA, hb, fun k hk => ?_⟩
  obtain ⟨b', off', hA', -, h3, -⟩ := hel hne k hk
  rw [hA] at hA'
  injection hA' with hA'
  injection hA' with e1 e2 _
  subst e1 e2
  exact h3
end Go.Proofs.YtceobmnljdhkmaaGreatDoor
namespace Go.Proofs.YtceobmnljdhkmaaGreatDoor
open Go Go.RowKit Go.ChangeShapes Go.WideShapes Go.Deep
section
variable {H : Type} {enc : TypeId × Value → H} {w : World}
/-- The reading of the arguments. -/
noncomputable abbrev TR (enc : TypeId × Value → H) (w : World) (n : Nat) (t : TypeId) (cs : List Value) : Option (DataW H × List MemPlace) := DataW.trod enc Tryz.prog w 0 (fun _ => true) true n t cs
/-- All weights within the reach. -/
def Fits (l : List Nat) : Prop := l.all (· ≤ reachBytes) = true
theorem Fits.left {l m : List Nat} (h : Fits (l ++ m)) : Fits l := by unfold Fits at *; rw [List.all_append, Bool.and_eq_true] at h; exact h.1
theorem Fits.right {l m : List Nat} (h : Fits (l ++ m)) : Fits m := by unfold Fits at *; rw [List.all_append, Bool.and_eq_true] at h; exact h.2
theorem Fits.head {a : Nat} {l : List Nat} (h : Fits (a :: l)) : a ≤ reachBytes := by unfold Fits at h; simp at h; exact h.1
theorem Fits.tail {a : Nat} {l : List Nat} (h : Fits (a :: l)) : Fits l := by unfold Fits at *; simp at h ⊢; exact h.2
theorem fits_all {e : TypeId} {l : List (DataW H)} (h : Fits (DataW.weightsAll Tryz.prog e l)) : ∀ d ∈ l, Fits (d.weights Tryz.prog e) := by
 induction l with
 | nil => simp
 | cons a l ih =>
  intro d hd
  rw [DataW.weightsAll] at h
  rcases List.mem_cons.1 hd with rfl | hd
  ·exact h.left
  ·exact ih h.right d hd
theorem spot_none {a : Addr} {v : Value} (h : w.cell? a = some v) : a = ⟨a.block, a.off, none⟩ ∧ a.block < w.heap.size := by
 unfold World.cell? at h
 obtain ⟨b, o, s⟩ := a
 simp only at h ⊢
 have hlt : b < w.heap.size := by
  rcases Nat.lt_or_ge b w.heap.size with h1 | h1
  ·exact h1
  ·rw [Array.getElem?_eq_none h1] at h; cases h
 cases s with
 | none => exact ⟨rfl, hlt⟩
 | some s => (split at h <;> simp at h)
/-- A slice of structs. -/
theorem arr_read {α : Type} [Inhabited α] {t e : TypeId} {sz bytes : Nat} {R : World → List Value → α → Prop} {n : Nat} {cs : List Value} {x : DataW H × List MemPlace} (ht : Tryz.prog.underlying t = some (.slice e)) (hc : Tryz.prog.cellsOf e = sz) (hsz : 0 < sz) (hb : Tryz.prog.bytesOf e = bytes) (h4 : 4 ≤ bytes)
  (h : TR enc w n t cs = some x) (hw : Fits (x.1.weights Tryz.prog t)) (elem : ∀ m ds y, m < n → ds.length = sz → TR enc w m e ds = some y → Fits (y.1.weights Tryz.prog e) → ∃ a, R w ds a) :
  ∃ v xs, cs = [v] ∧ ArrAt sz R w v xs ∧ ∀ A l c, v = .slice A l c → c ≤ 35184372088832 := by
 rcases DataW.trod_slice ht h with ⟨rfl, -⟩ | ⟨a, len, cap, elems, rest, m, hn, rfl, rfl, -, hl, hm, hlen, hel, hsp, -⟩
 ·exact ⟨_, [], rfl, ⟨none, 0, rfl, Nat.le_refl _, by simp, fun h => absurd rfl h⟩, fun A l c e => by cases e; omega⟩
 ·have hrl := (hsp rfl).1
  simp only [DataW.weights, ht] at hw
  have hw0 := hw.head
  rw [List.length_map, List.length_map, hlen, hrl, hb] at hw0
  have hcap : len + (cap - len) = cap := by omega
  rw [hcap] at hw0
  have hreach : reachBytes ≤ 140737488355328 := by decide
  have hcl : cap * 4 ≤ cap * bytes := Nat.mul_le_mul_left _ h4
  have hcap2 : cap ≤ 35184372088832 := by omega
  have hall := fits_all (hw.tail.left)
  have key : ∀ i, i < len → ∃ p : α × List Value, p.2.length = sz ∧ (∀ j u, p.2[j]? = some u → w.cell? ((a.add (i * sz)).add j) = some u) ∧ R w p.2 p.1 := by
   intro i hi
   have h1 := hel i hi
   rw [hc, List.getElem?_eq_getElem (by omega)] at h1
   obtain ⟨ds, h2, h3⟩ := Option.bind_eq_some_iff.1 h1
   obtain ⟨-, h5, h6⟩ := World.cells?_some h2
   obtain ⟨y, hy⟩ := elem m ds _ (by omega) h5 h3 (hall _ (List.mem_map.2 ⟨_, List.getElem_mem (show i < elems.length by omega), rfl⟩))
   refine ⟨(y, ds), h5, fun j u hj => ?_, hy⟩
   have hj' : j < sz := by rw [← h5]; exact (List.getElem?_eq_some_iff.1 hj).1
   rw [h6 j hj']; exact hj
  obtain ⟨f, hf⟩ := choose_lt (α := α × List Value) key
  refine ⟨_, (List.range len).map fun i => (f i).1, rfl, ⟨some a, cap, by simp, by simpa using hl, by simp; omega, fun hne => ?_⟩, fun A l c e => by cases e; exact hcap2⟩
  have h0 : 0 < len := by
   rcases Nat.eq_zero_or_pos len with h0 | h0
   ·subst h0; simp at hne
   ·exact h0
  obtain ⟨g1, g2, g3⟩ := hf 0 h0
  obtain ⟨u0, hu0⟩ : ∃ u, (f 0).2[0]? = some u := ⟨_, List.getElem?_eq_getElem (by omega)⟩
  have hc0 := g2 0 u0 hu0
  rw [Nat.zero_mul] at hc0
  have hadd : (a.add 0).add 0 = a := by simp [Addr.add]
  rw [hadd] at hc0
  obtain ⟨hs, hlt⟩ := spot_none hc0
  refine ⟨a.block, a.off, by rw [← hs], hlt, fun k x hk => ?_⟩
  have hkl : k < len := by have := (List.getElem?_eq_some_iff.1 hk).1; simpa using this
  obtain ⟨g1, g2, g3⟩ := hf k hkl
  refine ⟨(f k).2, g1, fun j u hj => ?_, ?_⟩
  ·have := g2 j u hj
   rw [hs, add_add, Addr.add_lit] at this
   exact this
  ·have : x = (f k).1 := by
    rw [List.getElem?_map, List.getElem?_range hkl] at hk
    simpa using hk.symm
   rw [this]; exact g3
end
end Go.Proofs.YtceobmnljdhkmaaGreatDoor
namespace Go.Proofs.YtceobmnljdhkmaaGreatDoor
open Go Go.RowKit Go.ChangeShapes Go.WideShapes Go.Deep
theorem cBool : Tryz.prog.cellsOf 4 = 1 := by kernel_rfl
theorem cInt : Tryz.prog.cellsOf 3 = 1 := by kernel_rfl
theorem cStr : Tryz.prog.cellsOf 9 = 1 := by kernel_rfl
theorem cU32 : Tryz.prog.cellsOf 164 = 1 := by kernel_rfl
theorem cWords : Tryz.prog.cellsOf 53 = 1 := by kernel_rfl
theorem cInts : Tryz.prog.cellsOf 36 = 1 := by kernel_rfl
theorem cZ : Tryz.prog.cellsOf 55 = 2 := by kernel_rfl
theorem cQ : Tryz.prog.cellsOf 57 = 4 := by kernel_rfl
theorem cPt : Tryz.prog.cellsOf 71 = 8 := by kernel_rfl
theorem cRd : Tryz.prog.cellsOf 73 = 5 := by kernel_rfl
theorem cSg : Tryz.prog.cellsOf 77 = 2 := by kernel_rfl
theorem cAr : Tryz.prog.cellsOf 79 = 4 := by kernel_rfl
theorem cPc : Tryz.prog.cellsOf 115 = 3 := by kernel_rfl
theorem cCh : Tryz.prog.cellsOf 81 = 1 := by kernel_rfl
theorem cCn : Tryz.prog.cellsOf 45 = 5 := by kernel_rfl
theorem cEx : Tryz.prog.cellsOf 86 = 7 := by kernel_rfl
theorem cExs : Tryz.prog.cellsOf 43 = 1 := by kernel_rfl
theorem cSk : Tryz.prog.cellsOf 29 = 6 := by kernel_rfl
theorem cSks : Tryz.prog.cellsOf 22 = 1 ∧ Tryz.prog.cellsOf 23 = 1 ∧ Tryz.prog.cellsOf 24 = 1 ∧ Tryz.prog.cellsOf 25 = 1 ∧ Tryz.prog.cellsOf 26 = 1 ∧ Tryz.prog.cellsOf 27 = 1 := ⟨by kernel_rfl, by kernel_rfl, by kernel_rfl, by kernel_rfl, by kernel_rfl, by kernel_rfl⟩
section
variable {H : Type} {enc : TypeId × Value → H} {w : World}
theorem words_read {n : Nat} {cs : List Value} {x : DataW H × List MemPlace} (h : TR enc w n 53 cs = some x) (hw : Fits (x.1.weights Tryz.prog 53)) : ∃ v xs, cs = [v] ∧ Words w v xs := by
 obtain ⟨v, xs, rfl, ⟨A, c, hv, hl, hm, hel⟩, -⟩ := arr_read (α := Nat) (R := fun _ ds a => ds = [.int .u32 (a : Int)] ∧ a < 4294967296) (sz := 1) (bytes := 4) Tryz.underlying53 cU32 (by omega) (by kernel_rfl) (by omega) h hw (fun m ds y _ _ hy _ => by
  obtain ⟨k, rfl, -, hwf⟩ := DataW.trod_int Tryz.underlying164 hy
  have h1 : 0 ≤ k ∧ k ≤ 4294967295 := by
   simp only [Lit.wf, Bool.and_eq_true, decide_eq_true_eq] at hwf
   exact ⟨hwf.1, hwf.2⟩
  exact ⟨k.toNat, by rw [show ((k.toNat : Nat) : Int) = k by omega], by omega⟩)
 have hL : ∀ (k y : Nat), xs[k]? = some y → y < 4294967296 := fun k y hk => by
  obtain ⟨b, off, -, -, h3⟩ := hel (by intro e; rw [e] at hk; simp at hk)
  obtain ⟨ds, -, -, -, h5⟩ := h3 k y hk
  exact h5
 refine ⟨v, xs, rfl, A, c, hv, hl, hm, fun y hy => ?_, fun h0 => ?_⟩
 ·obtain ⟨k, hk⟩ := List.getElem?_of_mem hy
  exact hL k y hk
 ·obtain ⟨b, off, h1, h2, h3⟩ := hel (by intro e; rw [e] at h0; simp at h0)
  refine ⟨b, off, h1, h2, fun k hk => ?_⟩
  obtain ⟨ds, h4, h5, h6, -⟩ := h3 k _ (List.getElem?_eq_getElem hk)
  have := h5 0 _ (by rw [h6]; rfl)
  rw [Nat.mul_one, Nat.add_zero] at this
  rw [this, List.getD_eq_getElem?_getD, List.getElem?_eq_getElem hk]; rfl
theorem two_of {α : Type} {l : List α} (h : l.length = 2) : ∃ a b, l = [a, b] := by
 match l, h with
 | [a, b], _ => exact ⟨a, b, rfl⟩
theorem four_of {α : Type} {l : List α} (h : l.length = 4) : ∃ a b c d, l = [a, b, c, d] := by
 match l, h with
 | [a, b, c, d], _ => exact ⟨a, b, c, d, rfl⟩
theorem z_read {n : Nat} {cs : List Value} {x : DataW H × List MemPlace} (h : TR enc w n 55 cs = some x) (hw : Fits (x.1.weights Tryz.prog 55)) : ∃ (z : ZI) (u : Value), cs = [.bool z.neg, u] ∧ Words w u z.mag := by
 obtain ⟨xs, m, rfl, rfl, hl, hxl, hf⟩ := DataW.trod_struct Tryz.underlying55 h
 rw [cZ] at hl
 obtain ⟨a, b, rfl⟩ := two_of hl
 obtain ⟨x0, x1, rfl⟩ := two_of hxl
 have h0 : TR enc w m 4 ((([a, b] : List Value).drop 0).take (Tryz.prog.cellsOf 4)) = some x0 := by have h := hf 0 _ rfl; exact h
 rw [cBool] at h0
 change TR enc w m 4 [a] = some x0 at h0
 have h1 : TR enc w m 53 ((([a, b] : List Value).drop 1).take (Tryz.prog.cellsOf 53)) = some x1 := by have h := hf 1 _ rfl; exact h
 rw [cWords] at h1
 change TR enc w m 53 [b] = some x1 at h1
 simp only [DataW.weights, Tryz.underlying55, List.map_cons, List.map_nil, DataW.weightsEach] at hw
 obtain ⟨b0, e0, -⟩ := DataW.trod_bool Tryz.underlying4 h0
 obtain ⟨v, ys, e1, hv⟩ := words_read h1 hw.right.left
 simp only [List.cons.injEq, and_true] at e0 e1
 exact ⟨⟨b0, ys⟩, v, by rw [e0, e1], hv⟩
theorem q_read {n : Nat} {cs : List Value} {x : DataW H × List MemPlace} (h : TR enc w n 57 cs = some x) (hw : Fits (x.1.weights Tryz.prog 57)) : ∃ (q : QI) (u v : Value), cs = [.bool q.num.neg, u, .bool q.den.neg, v] ∧ Words w u q.num.mag ∧ Words w v q.den.mag := by
 obtain ⟨xs, m, rfl, rfl, hl, hxl, hf⟩ := DataW.trod_struct Tryz.underlying57 h
 rw [cQ] at hl
 obtain ⟨a, b, c, d, rfl⟩ := four_of hl
 obtain ⟨x0, x1, rfl⟩ := two_of hxl
 have h0 : TR enc w m 55 ((([a, b, c, d] : List Value).drop 0).take (Tryz.prog.cellsOf 55)) = some x0 := by have h := hf 0 _ rfl; exact h
 rw [cZ] at h0
 change TR enc w m 55 [a, b] = some x0 at h0
 have h1 : TR enc w m 55 ((([a, b, c, d] : List Value).drop 2).take (Tryz.prog.cellsOf 55)) = some x1 := by have h := hf 1 _ rfl; exact h
 rw [cZ] at h1
 change TR enc w m 55 [c, d] = some x1 at h1
 simp only [DataW.weights, Tryz.underlying57, List.map_cons, List.map_nil, DataW.weightsEach] at hw
 obtain ⟨z0, u0, e0, hu⟩ := z_read h0 hw.left
 obtain ⟨z1, u1, e1, hv⟩ := z_read h1 hw.right.left
 simp only [List.cons.injEq, and_true] at e0 e1
 exact ⟨⟨z0, z1⟩, u0, u1, by rw [e0.1, e0.2, e1.1, e1.2], hu, hv⟩
end
end Go.Proofs.YtceobmnljdhkmaaGreatDoor
namespace Go.Proofs.YtceobmnljdhkmaaGreatDoor
open Go Go.RowKit Go.ChangeShapes Go.WideShapes Go.Deep
theorem three_of {α : Type} {l : List α} (h : l.length = 3) : ∃ a b c, l = [a, b, c] := by
 match l, h with
 | [a, b, c], _ => exact ⟨a, b, c, rfl⟩
theorem five_of {α : Type} {l : List α} (h : l.length = 5) : ∃ a b c d e, l = [a, b, c, d, e] := by
 match l, h with
 | [a, b, c, d, e], _ => exact ⟨a, b, c, d, e, rfl⟩
theorem six_of {α : Type} {l : List α} (h : l.length = 6) : ∃ a b c d e f, l = [a, b, c, d, e, f] := by
 match l, h with
 | [a, b, c, d, e, f], _ => exact ⟨a, b, c, d, e, f, rfl⟩
theorem seven_ofX {α : Type} {l : List α} (h : l.length = 7) : ∃ a b c d e f g, l = [a, b, c, d, e, f, g] := by
 match l, h with
 | [a, b, c, d, e, f, g], _ => exact ⟨a, b, c, d, e, f, g, rfl⟩
theorem eight_of {α : Type} {l : List α} (h : l.length = 8) : ∃ a b c d e f g i, l = [a, b, c, d, e, f, g, i] := by
 match l, h with
 | [a, b, c, d, e, f, g, i], _ => exact ⟨a, b, c, d, e, f, g, i, rfl⟩
section
variable {H : Type} {enc : TypeId × Value → H} {w : World}
theorem int_read {n : Nat} {cs : List Value} {x : DataW H × List MemPlace} (h : TR enc w n 3 cs = some x) : ∃ k : Int, cs = [.int .i64 k] := by
 obtain ⟨k, h1, _⟩ := DataW.trod_int Tryz.underlying3 h
 exact ⟨k, h1⟩
theorem bool_read {n : Nat} {cs : List Value} {x : DataW H × List MemPlace} (h : TR enc w n 4 cs = some x) : ∃ k : Bool, cs = [.bool k] := by
 obtain ⟨k, h1, _⟩ := DataW.trod_bool Tryz.underlying4 h
 exact ⟨k, h1⟩
theorem str_read {n : Nat} {cs : List Value} {x : DataW H × List MemPlace} (h : TR enc w n 9 cs = some x) : ∃ k : ByteArray, cs = [.string k] := by
 obtain ⟨k, h1, _⟩ := DataW.trod_string Tryz.underlying9 h
 exact ⟨k, h1⟩
theorem pt_read {n : Nat} {cs : List Value} {x : DataW H × List MemPlace} (h : TR enc w n 71 cs = some x) (hw : Fits (x.1.weights Tryz.prog 71)) : ∃ p, PtR w cs p := by
 obtain ⟨xs, m, rfl, rfl, hl, hxl, hf⟩ := DataW.trod_struct Tryz.underlying71 h
 rw [cPt] at hl
 obtain ⟨a0, a1, a2, a3, a4, a5, a6, a7, rfl⟩ := eight_of hl
 obtain ⟨x0, x1, rfl⟩ := two_of hxl
 have h0 : TR enc w m 57 ((([a0, a1, a2, a3, a4, a5, a6, a7] : List Value).drop 0).take (Tryz.prog.cellsOf 57)) = some x0 := by have h := hf 0 _ rfl; exact h
 rw [cQ] at h0
 change TR enc w m 57 [a0, a1, a2, a3] = some x0 at h0
 have h1 : TR enc w m 57 ((([a0, a1, a2, a3, a4, a5, a6, a7] : List Value).drop 4).take (Tryz.prog.cellsOf 57)) = some x1 := by have h := hf 1 _ rfl; exact h
 rw [cQ] at h1
 change TR enc w m 57 [a4, a5, a6, a7] = some x1 at h1
 simp only [DataW.weights, Tryz.underlying71, List.map_cons, List.map_nil, DataW.weightsEach] at hw
 obtain ⟨q0, u0, v0, e0, hu0, hv0⟩ := q_read h0 hw.left
 obtain ⟨q1, u1, v1, e1, hu1, hv1⟩ := q_read h1 hw.right.left
 simp only [List.cons.injEq, and_true] at e0 e1
 obtain ⟨rfl, rfl, rfl, rfl⟩ := e0
 obtain ⟨rfl, rfl, rfl, rfl⟩ := e1
 exact ⟨⟨q0, q1⟩, _, _, _, _, rfl, hu0, hv0, hu1, hv1⟩
theorem rd_read {n : Nat} {cs : List Value} {x : DataW H × List MemPlace} (h : TR enc w n 73 cs = some x) (hw : Fits (x.1.weights Tryz.prog 73)) : ∃ p, RdR w cs p := by
 obtain ⟨xs, m, rfl, rfl, hl, hxl, hf⟩ := DataW.trod_struct Tryz.underlying73 h
 rw [cRd] at hl
 obtain ⟨a0, a1, a2, a3, a4, rfl⟩ := five_of hl
 obtain ⟨x0, x1, rfl⟩ := two_of hxl
 have h0 : TR enc w m 3 ((([a0, a1, a2, a3, a4] : List Value).drop 0).take (Tryz.prog.cellsOf 3)) = some x0 := by have h := hf 0 _ rfl; exact h
 rw [cInt] at h0
 change TR enc w m 3 [a0] = some x0 at h0
 have h1 : TR enc w m 57 ((([a0, a1, a2, a3, a4] : List Value).drop 1).take (Tryz.prog.cellsOf 57)) = some x1 := by have h := hf 1 _ rfl; exact h
 rw [cQ] at h1
 change TR enc w m 57 [a1, a2, a3, a4] = some x1 at h1
 simp only [DataW.weights, Tryz.underlying73, List.map_cons, List.map_nil, DataW.weightsEach] at hw
 obtain ⟨k, e0⟩ := int_read h0
 obtain ⟨q1, u1, v1, e1, hu1, hv1⟩ := q_read h1 hw.right.left
 simp only [List.cons.injEq, and_true] at e0 e1
 subst e0
 obtain ⟨rfl, rfl, rfl, rfl⟩ := e1
 exact ⟨⟨k, q1⟩, _, _, rfl, hu1, hv1⟩
theorem sg_read {n : Nat} {cs : List Value} {x : DataW H × List MemPlace} (h : TR enc w n 77 cs = some x) : ∃ p, SgR w cs p := by
 obtain ⟨xs, m, rfl, rfl, hl, hxl, hf⟩ := DataW.trod_struct Tryz.underlying77 h
 rw [cSg] at hl
 obtain ⟨a0, a1, rfl⟩ := two_of hl
 obtain ⟨x0, x1, rfl⟩ := two_of hxl
 have h0 : TR enc w m 3 ((([a0, a1] : List Value).drop 0).take (Tryz.prog.cellsOf 3)) = some x0 := by have h := hf 0 _ rfl; exact h
 rw [cInt] at h0
 change TR enc w m 3 [a0] = some x0 at h0
 have h1 : TR enc w m 3 ((([a0, a1] : List Value).drop 1).take (Tryz.prog.cellsOf 3)) = some x1 := by have h := hf 1 _ rfl; exact h
 rw [cInt] at h1
 change TR enc w m 3 [a1] = some x1 at h1
 obtain ⟨k0, e0⟩ := int_read h0
 obtain ⟨k1, e1⟩ := int_read h1
 simp only [List.cons.injEq, and_true] at e0 e1
 subst e0 e1
 exact ⟨⟨k0, k1⟩, rfl⟩
theorem ar_read {n : Nat} {cs : List Value} {x : DataW H × List MemPlace} (h : TR enc w n 79 cs = some x) : ∃ p, ArR w cs p := by
 obtain ⟨xs, m, rfl, rfl, hl, hxl, hf⟩ := DataW.trod_struct Tryz.underlying79 h
 rw [cAr] at hl
 obtain ⟨a0, a1, a2, a3, rfl⟩ := four_of hl
 obtain ⟨x0, x1, x2, x3, rfl⟩ := four_of hxl
 have h0 : TR enc w m 3 ((([a0, a1, a2, a3] : List Value).drop 0).take (Tryz.prog.cellsOf 3)) = some x0 := by have h := hf 0 _ rfl; exact h
 rw [cInt] at h0
 change TR enc w m 3 [a0] = some x0 at h0
 have h1 : TR enc w m 3 ((([a0, a1, a2, a3] : List Value).drop 1).take (Tryz.prog.cellsOf 3)) = some x1 := by have h := hf 1 _ rfl; exact h
 rw [cInt] at h1
 change TR enc w m 3 [a1] = some x1 at h1
 have h2 : TR enc w m 3 ((([a0, a1, a2, a3] : List Value).drop 2).take (Tryz.prog.cellsOf 3)) = some x2 := by have h := hf 2 _ rfl; exact h
 rw [cInt] at h2
 change TR enc w m 3 [a2] = some x2 at h2
 have h3 : TR enc w m 4 ((([a0, a1, a2, a3] : List Value).drop 3).take (Tryz.prog.cellsOf 4)) = some x3 := by have h := hf 3 _ rfl; exact h
 rw [cBool] at h3
 change TR enc w m 4 [a3] = some x3 at h3
 obtain ⟨k0, e0⟩ := int_read h0
 obtain ⟨k1, e1⟩ := int_read h1
 obtain ⟨k2, e2⟩ := int_read h2
 obtain ⟨k3, e3⟩ := bool_read h3
 simp only [List.cons.injEq, and_true] at e0 e1 e2 e3
 subst e0 e1 e2 e3
 exact ⟨⟨k0, k1, k2, k3⟩, rfl⟩
theorem pc_read {n : Nat} {cs : List Value} {x : DataW H × List MemPlace} (h : TR enc w n 115 cs = some x) : ∃ p, PcR w cs p := by
 obtain ⟨xs, m, rfl, rfl, hl, hxl, hf⟩ := DataW.trod_struct Tryz.underlying115 h
 rw [cPc] at hl
 obtain ⟨a0, a1, a2, rfl⟩ := three_of hl
 obtain ⟨x0, x1, x2, rfl⟩ := three_of hxl
 have h0 : TR enc w m 4 ((([a0, a1, a2] : List Value).drop 0).take (Tryz.prog.cellsOf 4)) = some x0 := by have h := hf 0 _ rfl; exact h
 rw [cBool] at h0
 change TR enc w m 4 [a0] = some x0 at h0
 have h1 : TR enc w m 3 ((([a0, a1, a2] : List Value).drop 1).take (Tryz.prog.cellsOf 3)) = some x1 := by have h := hf 1 _ rfl; exact h
 rw [cInt] at h1
 change TR enc w m 3 [a1] = some x1 at h1
 have h2 : TR enc w m 4 ((([a0, a1, a2] : List Value).drop 2).take (Tryz.prog.cellsOf 4)) = some x2 := by have h := hf 2 _ rfl; exact h
 rw [cBool] at h2
 change TR enc w m 4 [a2] = some x2 at h2
 obtain ⟨k0, e0⟩ := bool_read h0
 obtain ⟨k1, e1⟩ := int_read h1
 obtain ⟨k2, e2⟩ := bool_read h2
 simp only [List.cons.injEq, and_true] at e0 e1 e2
 subst e0 e1 e2
 exact ⟨⟨k0, k1, k2⟩, rfl⟩
instance : Inhabited ZI := ⟨⟨false, []⟩⟩
instance : Inhabited QI := ⟨⟨default, default⟩⟩
instance : Inhabited PtI := ⟨⟨default, default⟩⟩
instance : Inhabited RdI := ⟨⟨0, default⟩⟩
instance : Inhabited SgI := ⟨⟨0, 0⟩⟩
instance : Inhabited ArI := ⟨⟨0, 0, 0, false⟩⟩
instance : Inhabited PcI := ⟨⟨false, 0, false⟩⟩
instance : Inhabited EI := ⟨.mk 0 default ⟨#[]⟩ []⟩
instance : Inhabited CI := ⟨⟨0, [], [], [], 0⟩⟩
theorem ch_read {n : Nat} {cs : List Value} {x : DataW H × List MemPlace} (h : TR enc w n 81 cs = some x) (hw : Fits (x.1.weights Tryz.prog 81)) : ∃ p, ChR w cs p := by
 obtain ⟨v, xs, rfl, ha, -⟩ := arr_read (R := PcR) (sz := 3) (bytes := 24) Tryz.underlying81 cPc (by omega) (by kernel_rfl) (by omega) h hw (fun m ds y _ _ hy _ => pc_read hy)
 exact ⟨xs, v, rfl, ha⟩
theorem ints_read {n : Nat} {cs : List Value} {x : DataW H × List MemPlace} (h : TR enc w n 36 cs = some x) (hw : Fits (x.1.weights Tryz.prog 36)) : ∃ v xs, cs = [v] ∧ Ints w v xs := by
 obtain ⟨v, xs, rfl, ha, -⟩ := arr_read (R := IntR) (sz := 1) (bytes := 8) Tryz.underlying36 cInt (by omega) (by kernel_rfl) (by omega) h hw (fun m ds y _ _ hy _ => by
  obtain ⟨k, rfl⟩ := int_read hy
  exact ⟨k, rfl⟩)
 exact ⟨v, xs, rfl, ha⟩
theorem ex_read (K : Nat) : ∀ {n : Nat} {cs : List Value} {x : DataW H × List MemPlace}, n ≤ K → TR enc w n 86 cs = some x → Fits (x.1.weights Tryz.prog 86) → ∃ e, ExprR K w cs e := by
 induction K with
 | zero =>
  intro n cs x hn h hw
  obtain ⟨xs, m, rfl, -⟩ := DataW.trod_struct Tryz.underlying86 h
  omega
 | succ K ih =>
  intro n cs x hn h hw
  obtain ⟨xs, m, rfl, rfl, hl, hxl, hf⟩ := DataW.trod_struct Tryz.underlying86 h
  rw [cEx] at hl
  obtain ⟨a0, a1, a2, a3, a4, a5, a6, rfl⟩ := seven_ofX hl
  obtain ⟨x0, x1, x2, x3, rfl⟩ := four_of hxl
  have h0 : TR enc w m 3 ((([a0, a1, a2, a3, a4, a5, a6] : List Value).drop 0).take (Tryz.prog.cellsOf 3)) = some x0 := by have h := hf 0 _ rfl; exact h
  rw [cInt] at h0
  change TR enc w m 3 [a0] = some x0 at h0
  have h1 : TR enc w m 57 ((([a0, a1, a2, a3, a4, a5, a6] : List Value).drop 1).take (Tryz.prog.cellsOf 57)) = some x1 := by have h := hf 1 _ rfl; exact h
  rw [cQ] at h1
  change TR enc w m 57 [a1, a2, a3, a4] = some x1 at h1
  have h2 : TR enc w m 9 ((([a0, a1, a2, a3, a4, a5, a6] : List Value).drop 5).take (Tryz.prog.cellsOf 9)) = some x2 := by have h := hf 2 _ rfl; exact h
  rw [cStr] at h2
  change TR enc w m 9 [a5] = some x2 at h2
  have h3 : TR enc w m 43 ((([a0, a1, a2, a3, a4, a5, a6] : List Value).drop 6).take (Tryz.prog.cellsOf 43)) = some x3 := by have h := hf 3 _ rfl; exact h
  rw [cExs] at h3
  change TR enc w m 43 [a6] = some x3 at h3
  simp only [DataW.weights, Tryz.underlying86, List.map_cons, List.map_nil, DataW.weightsEach] at hw
  obtain ⟨k0, e0⟩ := int_read h0
  obtain ⟨q1, u1, v1, e1, hu1, hv1⟩ := q_read h1 hw.right.left
  obtain ⟨k2, e2⟩ := str_read h2
  obtain ⟨v, ys, e3, ha, hcap⟩ := arr_read (R := ExprR K) (sz := 7) (bytes := 112) Tryz.underlying43 cEx (by omega) (by kernel_rfl) (by omega) h3 hw.right.right.right.left (fun m' ds y hm' _ hy hwy => ih (by omega) hy hwy)
  simp only [List.cons.injEq, and_true] at e0 e1 e2 e3
  subst e0 e2 e3
  obtain ⟨rfl, rfl, rfl, rfl⟩ := e1
  obtain ⟨A, c, rfl, hl, hm, hel⟩ := ha
  refine ⟨.mk k0 q1 k2 ys, _, _, _, rfl, hu1, hv1, A, c, rfl, hl, ?_, hel⟩
  have := hcap A _ c rfl
  unfold maxLen
  omega
theorem cn_read (K : Nat) {n : Nat} {cs : List Value} {x : DataW H × List MemPlace} (hn : n ≤ K) (h : TR enc w n 45 cs = some x) (hw : Fits (x.1.weights Tryz.prog 45)) : ∃ c, ConR K w cs c := by
 obtain ⟨xs, m, rfl, rfl, hl, hxl, hf⟩ := DataW.trod_struct Tryz.underlying45 h
 rw [cCn] at hl
 obtain ⟨a0, a1, a2, a3, a4, rfl⟩ := five_of hl
 obtain ⟨x0, x1, x2, x3, x4, rfl⟩ := five_of hxl
 have h0 : TR enc w m 3 ((([a0, a1, a2, a3, a4] : List Value).drop 0).take (Tryz.prog.cellsOf 3)) = some x0 := by have h := hf 0 _ rfl; exact h
 rw [cInt] at h0
 change TR enc w m 3 [a0] = some x0 at h0
 have h1 : TR enc w m 36 ((([a0, a1, a2, a3, a4] : List Value).drop 1).take (Tryz.prog.cellsOf 36)) = some x1 := by have h := hf 1 _ rfl; exact h
 rw [cInts] at h1
 change TR enc w m 36 [a1] = some x1 at h1
 have h2 : TR enc w m 36 ((([a0, a1, a2, a3, a4] : List Value).drop 2).take (Tryz.prog.cellsOf 36)) = some x2 := by have h := hf 2 _ rfl; exact h
 rw [cInts] at h2
 change TR enc w m 36 [a2] = some x2 at h2
 have h3 : TR enc w m 43 ((([a0, a1, a2, a3, a4] : List Value).drop 3).take (Tryz.prog.cellsOf 43)) = some x3 := by have h := hf 3 _ rfl; exact h
 rw [cExs] at h3
 change TR enc w m 43 [a3] = some x3 at h3
 have h4 : TR enc w m 3 ((([a0, a1, a2, a3, a4] : List Value).drop 4).take (Tryz.prog.cellsOf 3)) = some x4 := by have h := hf 4 _ rfl; exact h
 rw [cInt] at h4
 change TR enc w m 3 [a4] = some x4 at h4
 simp only [DataW.weights, Tryz.underlying45, List.map_cons, List.map_nil, DataW.weightsEach] at hw
 obtain ⟨k0, e0⟩ := int_read h0
 obtain ⟨v1, l1, e1, i1⟩ := ints_read h1 hw.right.left
 obtain ⟨v2, l2, e2, i2⟩ := ints_read h2 hw.right.right.left
 obtain ⟨v3, l3, e3, i3, -⟩ := arr_read (R := ExprR K) (sz := 7) (bytes := 112) Tryz.underlying43 cEx (by omega) (by kernel_rfl) (by omega) h3 hw.right.right.right.left (fun m' ds y hm' _ hy hwy => ex_read K (by omega) hy hwy)
 obtain ⟨k4, e4⟩ := int_read h4
 simp only [List.cons.injEq, and_true] at e0 e1 e2 e3 e4
 subst e0 e1 e2 e3 e4
 exact ⟨⟨k0, l1, l2, l3, k4⟩, _, _, _, rfl, i1, i2, i3⟩
/-- The sketch. -/
theorem sk_read {n : Nat} {cs : List Value} {x : DataW H × List MemPlace} (h : TR enc w n 29 cs = some x) (hw : Fits (x.1.weights Tryz.prog 29)) : ∃ v0 v1 v2 v3 v4 v5 s, cs = [v0, v1, v2, v3, v4, v5] ∧ SkAt n w v0 v1 v2 v3 v4 v5 s := by
 obtain ⟨xs, m, rfl, rfl, hl, hxl, hf⟩ := DataW.trod_struct Tryz.underlying29 h
 rw [cSk] at hl
 obtain ⟨a0, a1, a2, a3, a4, a5, rfl⟩ := six_of hl
 obtain ⟨x0, x1, x2, x3, x4, x5, rfl⟩ := six_of hxl
 have h0 : TR enc w m 22 ((([a0, a1, a2, a3, a4, a5] : List Value).drop 0).take (Tryz.prog.cellsOf 22)) = some x0 := by have h := hf 0 _ rfl; exact h
 rw [cSks.1] at h0
 change TR enc w m 22 [a0] = some x0 at h0
 have h1 : TR enc w m 23 ((([a0, a1, a2, a3, a4, a5] : List Value).drop 1).take (Tryz.prog.cellsOf 23)) = some x1 := by have h := hf 1 _ rfl; exact h
 rw [cSks.2.1] at h1
 change TR enc w m 23 [a1] = some x1 at h1
 have h2 : TR enc w m 24 ((([a0, a1, a2, a3, a4, a5] : List Value).drop 2).take (Tryz.prog.cellsOf 24)) = some x2 := by have h := hf 2 _ rfl; exact h
 rw [cSks.2.2.1] at h2
 change TR enc w m 24 [a2] = some x2 at h2
 have h3 : TR enc w m 25 ((([a0, a1, a2, a3, a4, a5] : List Value).drop 3).take (Tryz.prog.cellsOf 25)) = some x3 := by have h := hf 3 _ rfl; exact h
 rw [cSks.2.2.2.1] at h3
 change TR enc w m 25 [a3] = some x3 at h3
 have h4 : TR enc w m 26 ((([a0, a1, a2, a3, a4, a5] : List Value).drop 4).take (Tryz.prog.cellsOf 26)) = some x4 := by have h := hf 4 _ rfl; exact h
 rw [cSks.2.2.2.2.1] at h4
 change TR enc w m 26 [a4] = some x4 at h4
 have h5 : TR enc w m 27 ((([a0, a1, a2, a3, a4, a5] : List Value).drop 5).take (Tryz.prog.cellsOf 27)) = some x5 := by have h := hf 5 _ rfl; exact h
 rw [cSks.2.2.2.2.2] at h5
 change TR enc w m 27 [a5] = some x5 at h5
 simp only [DataW.weights, Tryz.underlying29, List.map_cons, List.map_nil, DataW.weightsEach] at hw
 obtain ⟨v0, l0, e0, i0, -⟩ := arr_read (R := PtR) (sz := 8) (bytes := 128) Tryz.underlying22 cPt (by omega) (by kernel_rfl) (by omega) h0 hw.left (fun m' ds y hm' _ hy hwy => pt_read hy hwy)
 obtain ⟨v1, l1, e1, i1, -⟩ := arr_read (R := RdR) (sz := 5) (bytes := 72) Tryz.underlying23 cRd (by omega) (by kernel_rfl) (by omega) h1 hw.right.left (fun m' ds y hm' _ hy hwy => rd_read hy hwy)
 obtain ⟨v2, l2, e2, i2, -⟩ := arr_read (R := SgR) (sz := 2) (bytes := 16) Tryz.underlying24 cSg (by omega) (by kernel_rfl) (by omega) h2 hw.right.right.left (fun m' ds y hm' _ hy hwy => sg_read hy)
 obtain ⟨v3, l3, e3, i3, -⟩ := arr_read (R := ArR) (sz := 4) (bytes := 32) Tryz.underlying25 cAr (by omega) (by kernel_rfl) (by omega) h3 hw.right.right.right.left (fun m' ds y hm' _ hy hwy => ar_read hy)
 obtain ⟨v4, l4, e4, i4, -⟩ := arr_read (R := ChR) (sz := 1) (bytes := 24) Tryz.underlying26 cCh (by omega) (by kernel_rfl) (by omega) h4 hw.right.right.right.right.left (fun m' ds y hm' _ hy hwy => ch_read hy hwy)
 obtain ⟨v5, l5, e5, i5, -⟩ := arr_read (R := ConR (m + 1)) (sz := 5) (bytes := 88) Tryz.underlying27 cCn (by omega) (by kernel_rfl) (by omega) h5 hw.right.right.right.right.right.left (fun m' ds y hm' _ hy hwy => cn_read (m + 1) (by omega) hy hwy)
 simp only [List.cons.injEq, and_true] at e0 e1 e2 e3 e4 e5
 subst e0 e1 e2 e3 e4 e5
 exact ⟨_, _, _, _, _, _, ⟨l0, l1, l2, l3, l4, l5⟩, rfl, i0, i1, i2, i3, i4, i5⟩
end
end Go.Proofs.YtceobmnljdhkmaaGreatDoor
namespace Go.Proofs.YtceobmnljdhkmaaGreatDoor
open Go Go.RowKit
end Go.Proofs.YtceobmnljdhkmaaGreatDoor
namespace Go.Proofs.YtceobmnljdhkmaaGreatDoor
open Go Go.RowKit
/-- From the base on. -/
abbrev From (b : Nat) : Nat → Prop := fun k => b ≤ k
/-- What a copy of a rational reads as. -/
def RatOn (S : Nat → Prop) (q : QI) (r : Value) (w' : World) : Prop := ∃ A c A' c', r = .agg #[.bool q.num.neg, .slice A q.num.mag.length c, .bool q.den.neg, .slice A' q.den.mag.length c'] ∧ On S (fun w => Words w (.slice A q.num.mag.length c) q.num.mag) w' ∧ On S (fun w => Words w (.slice A' q.den.mag.length c') q.den.mag) w'
theorem RatOn.mono {S S' : Nat → Prop} {q : QI} {r : Value} {w : World} (h : RatOn S q r w) (hs : ∀ k, k < w.heap.size → S k → S' k) : RatOn S' q r w := by
 obtain ⟨A, c, A', c', h1, h2, h3⟩ := h
 exact ⟨A, c, A', c', h1, h2.mono hs, h3.mono hs⟩
theorem RatOn.keep {S : Nat → Prop} {q : QI} {r : Value} {w w' : World} (h : RatOn S q r w) (hk : Keep S w w') : RatOn S q r w' := by
 obtain ⟨A, c, A', c', h1, h2, h3⟩ := h
 exact ⟨A, c, A', c', h1, h2.keep hk, h3.keep hk⟩
end Go.Proofs.YtceobmnljdhkmaaGreatDoor
namespace Go.Proofs.YtceobmnljdhkmaaGreatDoor
open Go Go.RowKit
/-- An element that is still the old one (as it lay in w0), or that has been copied. -/
def Fl {α : Type} (R : World → List Value → α → Prop) (w0 w : World) (ds : List Value) (x : α × Bool) : Prop := if x.2 then R w0 ds x.1 else R w ds x.1
/-- A constraint; the points' own row, if it has been copied; the values' own row, while they are being copied. -/
structure CX where
 c : CI
 pv : Option Value
 vv : Option Value
def ConX (K : Nat) (w0 w : World) (ds : List Value) (x : CX) : Prop := ∃ pv cv vv, ds = [.int .i64 x.c.kind, pv, cv, vv, .int .i64 x.c.side] ∧
 match x.pv with
 | none => Ints w0 pv x.c.points ∧ Ints w0 cv x.c.circles ∧ ArrAt 7 (ExprR K) w0 vv x.c.values
 | some p => pv = p ∧ Ints w cv x.c.circles ∧ match x.vv with
  | none => ArrAt 7 (ExprR K) w vv x.c.values
  | some q => vv = q
/-- The blocks on which copies may depend. -/
def Sx (hi : Nat) (l : List CX) (k : Nat) : Prop := hi ≤ k ∧ ∀ x ∈ l, (∀ p, x.pv = some p → p.ownBlock ≠ some k) ∧ (∀ q, x.vv = some q → q.ownBlock ≠ some k)
structure ClS (K : Nat) (w0 : World) (lo hh : Nat) (w : World) (v0 v1 v2 v3 v4 v5 : Value) (lp : List (PtI × Bool)) (lr : List (RdI × Bool)) (sg : List SgI) (ar : List ArI) (lc : List (List PcI × Bool)) (l : List CX) : Prop where
 hi : hh ≤ w.heap.size
 pts : RowS (Sx (hh) l) 71 8 (Fl PtR w0) lo hh w v0 lp
 rds : RowS (Sx (hh) l) 73 5 (Fl RdR w0) lo hh w v1 lr
 sgs : RowS (Sx (hh) l) 77 2 SgR lo hh w v2 sg
 ars : RowS (Sx (hh) l) 79 4 ArR lo hh w v3 ar
 chs : RowS (Sx (hh) l) 81 1 (Fl ChR w0) lo hh w v4 lc
 cns : RowS (Sx (hh) l) 45 5 (ConX K w0) lo hh w v5 l
 prow : ∀ (i : Nat) x p, l[i]? = some x → x.pv = some p → RowS (fun _ => False) 3 1 IntR (hh) w.heap.size w p x.c.points
 dst : ∀ (i j : Nat) a b r, i ≠ j → [v0, v1, v2, v3, v4, v5][i]? = some a → [v0, v1, v2, v3, v4, v5][j]? = some b → a.ownBlock = some r → b.ownBlock ≠ some r
 dis : ∀ (i j : Nat) x y p q r, i ≠ j → l[i]? = some x → l[j]? = some y → x.pv = some p → y.pv = some q → p.ownBlock = some r → q.ownBlock ≠ some r
 hot : ∀ (i j : Nat) x y p q r, l[i]? = some x → l[j]? = some y → x.pv = some p → y.vv = some q → p.ownBlock = some r → q.ownBlock ≠ some r
section
variable {α : Type} {S S' : Nat → Prop} {T sz lo hi : Nat} {R : World → List Value → α → Prop} {w w' : World} {v : Value} {l : List α}
theorem grownBy.keep {row : Option Nat} (hg : w.grownBy w' row) (hS : ∀ r, row = some r → ¬ S r) : Keep S w w' :=
 ⟨hg.os, hg.tape, hg.output, hg.size, fun k hk hs => hg.block k hk (by intro e; exact hS k e.symm hs)⟩
theorem RowS.far {row : Option Nat} (h : RowS S T sz R lo hi w v l) (hg : w.grownBy w' row) (hr : ∀ r, row = some r → v.ownBlock ≠ some r) (hS : ∀ r, row = some r → ¬ S r) : RowS S T sz R lo hi w' v l :=
 h.keep (grownBy.keep hg hS) (fun r hv => hg.block r (h.lt r hv).2.2 (by intro e; exact hr r e.symm hv))
theorem RowS.far' {row : Option Nat} (h : RowS S T sz R lo hi w v l) (hg : w.grownBy w' row) (hr : ∀ r, row = some r → r < lo ∨ hi ≤ r) (hS : ∀ r, row = some r → ¬ S r) : RowS S T sz R lo hi w' v l :=
 h.far hg (fun r e hv => by have h1 := h.lt r hv; have h2 := hr r e; omega) hS
theorem grownBy_sets (r : Nat) : ∀ (us : List Value) (o : Nat) (w : World), w.grownBy (w.setCells r o us) (some r)
 | us, o, w => by
  have h1 := Keep.sets (S := fun k => k ≠ r) (a := w) r (fun _ h => h rfl) us o w (Keep.refl _ _)
  exact ⟨h1.os, h1.tape, h1.output, h1.size, fun k hk hne => h1.block k hk (by intro e; exact hne (by rw [e]))⟩
end
section
variable {K : Nat} {w0 : World} {lo hh : Nat} {w w' : World} {v0 v1 v2 v3 v4 v5 : Value} {lp : List (PtI × Bool)} {lr : List (RdI × Bool)} {sg : List SgI} {ar : List ArI} {lc : List (List PcI × Bool)} {l : List CX}
theorem ClS.ext (h : ClS K w0 lo hh w v0 v1 v2 v3 v4 v5 lp lr sg ar lc l) (hx : Ext w w') : ClS K w0 lo hh w' v0 v1 v2 v3 v4 v5 lp lr sg ar lc l where
 hi := Nat.le_trans h.hi hx.size
 pts := h.pts.ext hx
 rds := h.rds.ext hx
 sgs := h.sgs.ext hx
 ars := h.ars.ext hx
 chs := h.chs.ext hx
 cns := h.cns.ext hx
 prow := fun i x p h1 h2 => ((h.prow i x p h1 h2).ext hx).bounds (Nat.le_refl _) hx.size
 dst := h.dst
 dis := h.dis
 hot := h.hot
theorem Sx.not {hi k : Nat} {l : List CX} (h : k < hi) : ¬ Sx hi l k := fun h' => by have := h'.1; omega
theorem mem_of_getElem? {α : Type} {l : List α} {i : Nat} {x : α} (h : l[i]? = some x) : x ∈ l := List.mem_of_getElem? h
end
end Go.Proofs.YtceobmnljdhkmaaGreatDoor
namespace Go.Proofs.YtceobmnljdhkmaaGreatDoor
open Go Go.RowKit
theorem CellsAt.two {w : World} {g : Nat} {a b : Value} (k : CellsAt w g [a, b]) : w.cell? ⟨g, 0, none⟩ = some a ∧ w.cell? ⟨g, 1, none⟩ = some b := ⟨k.2 0 _ rfl, k.2 1 _ rfl⟩
/-- Two boxes, one behind the other. -/
theorem boxes {w : World} {cs ds : List Value} {T : TypeId} : ∃ W, (w.alloc (.cells cs.toArray T)).alloc (.cells ds.toArray T) = W ∧ CellsAt W w.heap.size cs ∧ CellsAt W (w.heap.size + 1) ds ∧ Ext w W := by
 refine ⟨_, rfl, (CellsAt.new _ _ _).ext (Ext.alloc _ _), ?_, (Ext.alloc _ _).palloc _⟩
 have := CellsAt.new (w.alloc (.cells cs.toArray T)) ds T
 rwa [World.size_alloc] at this
end Go.Proofs.YtceobmnljdhkmaaGreatDoor
namespace Go.Proofs.YtceobmnljdhkmaaGreatDoor
open Go Go.RowKit
end Go.Proofs.YtceobmnljdhkmaaGreatDoor
namespace Go.Proofs.YtceobmnljdhkmaaGreatDoor
open Go Go.RowKit
/-- A block of the call's own, which may be stored into. -/
def BoxF (w : World) (g : Nat) (cs : List Value) : Prop := CellsAt w g cs ∧ ∀ j, w.frozen? ⟨g, j, none⟩ = false
theorem BoxF.new (w : World) (cs : List Value) (T : TypeId) : BoxF (w.alloc (.cells cs.toArray T)) w.heap.size cs := ⟨CellsAt.new _ _ _, fun j => by simp [go_sem]⟩
theorem BoxF.ext {w w' : World} {g : Nat} {cs : List Value} (h : BoxF w g cs) (hx : Ext w w') : BoxF w' g cs := ⟨h.1.ext hx, fun j => (Below.frozen hx h.1.1).trans (h.2 j)⟩
theorem BoxF.grown {w w' : World} {g : Nat} {cs : List Value} {row : Option Nat} (h : BoxF w g cs) (hg : w.grownBy w' row) (hr : row ≠ some g) : BoxF w' g cs :=
 ⟨⟨Nat.lt_of_lt_of_le h.1.1 hg.size, fun i v hi => (World.cell?_of_block (hg.block g h.1.1 (fun e => hr e.symm))).trans (h.1.2 i v hi)⟩, fun j => (World.frozen?_of_block (hg.block g h.1.1 (fun e => hr e.symm))).trans (h.2 j)⟩
theorem BoxF.set_ {w : World} {g i : Nat} {cs : List Value} (h : BoxF w g cs) (u : Value) : BoxF (w.setCell ⟨g, i, none⟩ u) g (cs.set i u) := by
 refine ⟨⟨by simpa [World.setCell] using h.1.1, fun j v hj => ?_⟩, fun j => by rw [World.frozen?_setCell]; exact h.2 j⟩
 by_cases hij : i = j
 ·subst hij
  have hl := (List.getElem?_eq_some_iff.1 hj).1
  rw [List.length_set] at hl
  rw [List.getElem?_set_self hl] at hj
  injection hj with hj
  subst hj
  exact World.cell?_setCell_same _ _ _ (h.1.2 i _ (List.getElem?_eq_getElem hl))
 ·rw [List.getElem?_set_ne hij] at hj
  rw [cell_set_off hij]
  exact h.1.2 j v hj
theorem BoxF.sets {g : Nat} : ∀ (us : List Value) (o : Nat) (w : World) (cs : List Value), BoxF w g cs → o + us.length ≤ cs.length → BoxF (w.setCells g o us) g (cs.take o ++ us ++ cs.drop (o + us.length))
 | [], o, w, cs, h, _ => by
  have e : cs.take o ++ [] ++ cs.drop (o + ([] : List Value).length) = cs := by simp
  rw [e]; exact h
 | u :: us, o, w, cs, h, hl => by
  have := BoxF.sets us (o + 1) _ _ (h.set_ (i := o) u) (by simp at hl ⊢; omega)
  rw [World.setCells]
  have e : (cs.set o u).take (o + 1) ++ us ++ (cs.set o u).drop (o + 1 + us.length) = cs.take o ++ (u :: us) ++ cs.drop (o + (u :: us).length) := by
   have hlo : o < cs.length := by simp at hl; omega
   rw [List.take_succ_eq_append_getElem (by rw [List.length_set]; exact hlo), List.take_set, List.getElem_set_self, List.drop_set_of_lt (by omega)]
   rw [List.set_eq_of_length_le (by rw [List.length_take]; omega)]
   simp [Nat.add_assoc, Nat.add_comm 1]
  rw [e] at this
  exact this
theorem RowS.sliceAt {α : Type} {S S' : Nat → Prop} {T sz lo hi : Nat} {R : World → List Value → α → Prop} {w : World} {v : Value} {l : List α} (h : RowS S T sz R lo hi w v l) (hl : l.length ≤ 230000000) (hS : ∀ r, v.ownBlock = some r → S' r) (hSS : ∀ k, k < w.heap.size → S k → S' k) : On S' (fun w => SliceAt sz R w v l) w := by
 have hc : ∀ A c, v = .slice A l.length c → c ≤ maxLen := by
  intro A c hv
  obtain ⟨xs, ho, -⟩ := h
  rcases ho.2 with ⟨rfl, hn⟩ | ⟨g, cap, cur, rfl, hb, hg, hcap, hcm, hcs, htk⟩
  ·injection hv with _ _ e; rw [← e]; exact Nat.zero_le _
  ·injection hv with _ _ e; rw [← e]; exact hcm
 refine (h.arr hl hS hSS).imp fun w' _ ⟨A, c, hv, h1, h2, h3⟩ => ⟨A, c, hv, h1, hc A c hv, h3⟩
/-- From b on, but for a slice's own block. -/
def Sq (b : Nat) (v : Value) (k : Nat) : Prop := b ≤ k ∧ v.ownBlock ≠ some k
/-- The state of cloneExpr behind its two clones. -/
structure CEs (K : Nat) (w wr : World) (q : QI) (op : Int) (nm : ByteArray) (A1 A2 A : Option Addr) (c1 c2 c n : Nat) (args : List EI) (lx : List (EI × Bool)) : Prop where
 box : BoxF wr w.heap.size [.int .i64 op, .bool q.num.neg, .slice A1 q.num.mag.length c1, .bool q.den.neg, .slice A2 q.den.mag.length c2, .string nm, .slice A n c]
 res : BoxF wr (w.heap.size + 1) [.int .i64 0, .bool false, .slice none 0 0, .bool false, .slice none 0 0, .string ⟨#[]⟩, .slice none 0 0]
 num : On (Sq (w.heap.size + 2) (.slice A n c)) (fun w => Words w (.slice A1 q.num.mag.length c1) q.num.mag) wr
 den : On (Sq (w.heap.size + 2) (.slice A n c)) (fun w => Words w (.slice A2 q.den.mag.length c2) q.den.mag) wr
 row : RowS (Sq (w.heap.size + 2) (.slice A n c)) 86 7 (Fl (ExprR K) w) (w.heap.size + 2) wr.heap.size wr (.slice A n c) lx
 ext : Ext w wr
 len : lx.map (·.1) = args
theorem set_fst {α : Type} {lx : List (α × Bool)} {i : Nat} (hi : i < lx.length) : (lx.set i (lx[i].1, false)).map (·.1) = lx.map (·.1) := by
 rw [List.map_set]
 have : lx[i].1 = (lx.map (·.1))[i]'(by simpa using hi) := by simp
 rw [this, List.set_getElem_self]
theorem CEs.move {K : Nat} {w wr w3 : World} {q : QI} {op : Int} {nm : ByteArray} {A1 A2 A : Option Addr} {c1 c2 c n : Nat} {args : List EI} {lx : List (EI × Bool)} (h : CEs K w wr q op nm A1 A2 A c1 c2 c n args lx) (hx : Ext wr w3) : CEs K w w3 q op nm A1 A2 A c1 c2 c n args lx :=
 ⟨h.box.ext hx, h.res.ext hx, h.num.ext hx, h.den.ext hx, (h.row.ext hx).bounds (Nat.le_refl _) hx.size, h.ext.trans hx, h.len⟩
theorem CEs.put {K : Nat} {w wr w3 : World} {q : QI} {op : Int} {nm : ByteArray} {A1 A2 : Option Addr} {c1 c2 c n r i : Nat} {args : List EI} {lx : List (EI × Bool)} (h : CEs K w wr q op nm A1 A2 (some ⟨r, 0, none⟩) c1 c2 c n args lx) (hx : Ext wr w3) (hi : i < lx.length) {us : List Value} (hu : us.length = 7)
  (ho : On (From wr.heap.size) (fun w => ExprR K w us lx[i].1) w3) : CEs K w (w3.setCells r (i * 7) us) q op nm A1 A2 (some ⟨r, 0, none⟩) c1 c2 c n args (lx.set i (lx[i].1, false)) := by
 obtain ⟨hlo, hhi, hlt⟩ := h.row.lt r rfl
 have hg := grownBy_sets r us (i * 7) w3
 have hS : ¬ Sq (w.heap.size + 2) (.slice (some ⟨r, 0, none⟩) n c) r := fun h => h.2 rfl
 have hn : ∀ r', some r = some r' → ¬ Sq (w.heap.size + 2) (.slice (some ⟨r, 0, none⟩) n c) r' := fun r' e => by injection e with e; subst e; exact hS
 have h3 := h.move hx
 have hp := h3.row.put (j0 := 0) (us := us) (x' := (lx[i].1, false)) hi (by omega) hS (fun ds g1 g2 ds' g3 g4 g5 => by
  have : ds' = us := by
   apply List.ext_getElem?
   intro j
   rcases Nat.lt_or_ge j us.length with h6 | h6
   ·rw [List.getElem?_eq_getElem h6]
    have := g5 j _ (List.getElem?_eq_getElem h6)
    rwa [Nat.zero_add] at this
   ·rw [List.getElem?_eq_none h6, List.getElem?_eq_none (by omega)]
  rw [this]
  exact (ho.mono (fun k _ hk => ⟨by have : wr.heap.size ≤ k := hk; omega, fun e => absurd (show r = k from Option.some.inj e) (by have : wr.heap.size ≤ k := hk; omega)⟩)).imp (fun _ _ h => h))
 rw [Nat.add_zero] at hp
 exact ⟨h3.box.grown hg (by simp; omega), h3.res.grown hg (by simp; omega), h3.num.keep (grownBy.keep hg hn), h3.den.keep (grownBy.keep hg hn), hp.bounds (Nat.le_refl _) hg.size, Ext.sets r (by omega) _ _ _ h3.ext, (set_fst hi).trans h.len⟩
/-- What the copy reads as. -/
theorem CEs.done {K : Nat} {w wr : World} {q : QI} {op : Int} {nm : ByteArray} {A1 A2 A : Option Addr} {c1 c2 c n : Nat} {args : List EI} {lx : List (EI × Bool)} (h : CEs K w wr q op nm A1 A2 A c1 c2 c n args lx) (hf : ∀ (j : Nat) x, lx[j]? = some x → x.2 = false) (hl : args.length ≤ 230000000) (us : List Value) :
  On (From w.heap.size) (fun w => Words w (.slice A1 q.num.mag.length c1) q.num.mag) (wr.setCells (w.heap.size + 1) 0 us) ∧ On (From w.heap.size) (fun w => Words w (.slice A2 q.den.mag.length c2) q.den.mag) (wr.setCells (w.heap.size + 1) 0 us) ∧ On (From w.heap.size) (fun w => SliceAt 7 (ExprR K) w (.slice A n c) args) (wr.setCells (w.heap.size + 1) 0 us) := by
 have hg := grownBy_sets (w.heap.size + 1) us 0 wr
 have hn : ∀ r', some (w.heap.size + 1) = some r' → ¬ Sq (w.heap.size + 2) (.slice A n c) r' := fun r' e h => by injection e with e; have := h.1; omega
 have hm : ∀ k, k < (wr.setCells (w.heap.size + 1) 0 us).heap.size → Sq (w.heap.size + 2) (.slice A n c) k → From w.heap.size k := fun k _ hk => Nat.le_trans (Nat.le_add_right _ _) hk.1
 have h1 : RowS (Sq (w.heap.size + 2) (.slice A n c)) 86 7 (ExprR K) (w.heap.size + 2) wr.heap.size wr (.slice A n c) args := h.row.re (by rw [← h.len, List.length_map]) (fun k x x' hx hx' ds hR => by
  rw [← h.len, List.getElem?_map, hx] at hx'
  injection hx' with hx'
  subst hx'
  exact hR.imp (fun w'' _ hh => by unfold Fl at hh; rw [hf k x hx] at hh; exact hh))
 have h2 := h1.far hg (fun r' e hb => by injection e with e; have := (h1.lt r' hb).1; omega) hn
 exact ⟨(h.num.keep (grownBy.keep hg hn)).mono hm, (h.den.keep (grownBy.keep hg hn)).mono hm, h2.sliceAt hl (fun r hr => by have := (h2.lt r hr).1; exact Nat.le_trans (Nat.le_add_right _ _) this) hm⟩
end Go.Proofs.YtceobmnljdhkmaaGreatDoor
namespace Go.Proofs.YtceobmnljdhkmaaGreatDoor
open Go Go.RowKit
theorem ExprR.shape {K : Nat} {w : World} {cs : List Value} {e : EI} (h : ExprR K w cs e) : ∃ op b1 A1 n1 c1 b2 A2 n2 c2 nm A n c, cs = [.int .i64 op, .bool b1, .slice A1 n1 c1, .bool b2, .slice A2 n2 c2, .string nm, .slice A n c] := by
 cases K with
 | zero => exact h.elim
 | succ K =>
  obtain ⟨u, v, sl, rfl, hu, hv, A, c, rfl, -⟩ := h
  obtain ⟨A1, c1, rfl, -⟩ := hu.form
  obtain ⟨A2, c2, rfl, -⟩ := hv.form
  exact ⟨_, _, _, _, _, _, _, _, _, _, _, _, _, rfl⟩
end Go.Proofs.YtceobmnljdhkmaaGreatDoor
