/- What depends on some blocks alone; rows of a call's own into which it stores. -/
import Derived.Test.YtonleohlplkglaaGreatDoorYM
import Derived.Test.YtonleohlplkglaaGreatDoorYK
namespace Go.Proofs.YtonleohlplkglaaGreatDoor
open Go Go.RowKit
/-- The blocks of S are as they were. -/
structure Keep (S : Nat → Prop) (w w' : World) : Prop where
 os : w'.os = w.os
 tape : w'.tape = w.tape
 output : w'.output = w.output
 size : w.heap.size ≤ w'.heap.size
 block : ∀ k, k < w.heap.size → S k → w'.heap[k]? = w.heap[k]?
/-- P holds, and goes on to hold whatever becomes of the blocks outside S. -/
def On (S : Nat → Prop) (P : World → Prop) (w : World) : Prop := ∀ w', Keep S w w' → P w'
section
variable {S S' : Nat → Prop} {a w w' : World} {P Q : World → Prop}
theorem Keep.refl (S : Nat → Prop) (w : World) : Keep S w w := ⟨rfl, rfl, rfl, Nat.le_refl _, fun _ _ _ => rfl⟩
theorem Keep.trans (h : Keep S a w) (k : Keep S w w') : Keep S a w' :=
 ⟨k.os.trans h.os, k.tape.trans h.tape, k.output.trans h.output, Nat.le_trans h.size k.size, fun i hi hs => (k.block i (Nat.lt_of_lt_of_le hi h.size) hs).trans (h.block i hi hs)⟩
theorem Keep.mono (h : Keep S w w') (hs : ∀ k, k < w.heap.size → S' k → S k) : Keep S' w w' := ⟨h.os, h.tape, h.output, h.size, fun i hi hk => h.block i hi (hs i hi hk)⟩
theorem Ext.keep (h : Ext w w') (S : Nat → Prop) : Keep S w w' := ⟨h.os, h.tape, h.output, h.size, fun i hi _ => h.block i hi⟩
theorem Keep.ext (h : Keep S w w') (hs : ∀ k, k < w.heap.size → S k) : Ext w w' := ⟨h.os, h.tape, h.output, h.size, fun i hi => h.block i hi (hs i hi)⟩
theorem Keep.set_ (w : World) (p : Addr) (u : Value) (hp : ¬ S p.block) : Keep S w (w.setCell p u) :=
 ⟨rfl, rfl, rfl, by simp [World.setCell], fun k _ hk => Below.heap_setCell _ _ _ _ (by intro e; exact hp (e ▸ hk))⟩
theorem Keep.pset (h : Keep S a w) (p : Addr) (u : Value) (hp : p.block < a.heap.size → ¬ S p.block) : Keep S a (w.setCell p u) :=
 ⟨h.os, h.tape, h.output, by simpa [World.setCell] using h.size, fun k hk hs => (Below.heap_setCell _ _ _ _ (by intro e; exact hp (e ▸ hk) (e ▸ hs))).trans (h.block k hk hs)⟩
theorem On.out (h : On S P w) : P w := h w (Keep.refl _ _)
theorem On.keep (h : On S P w) (k : Keep S w w') : On S P w' := fun w'' h' => h w'' (k.trans h')
theorem On.ext (h : On S P w) (k : Ext w w') : On S P w' := h.keep (k.keep S)
theorem On.mono (h : On S P w) (hs : ∀ k, k < w.heap.size → S k → S' k) : On S' P w := fun w'' h' => h w'' (h'.mono hs)
theorem On.imp (h : On S P w) (hq : ∀ w', Keep S w w' → P w' → Q w') : On S Q w := fun w'' h' => hq w'' h' (h w'' h')
theorem On.stable (hP : ∀ w w', Ext w w' → P w → P w') (h : P a) (hx : Ext a w) (hs : ∀ k, k < a.heap.size → S k) : On S P w := fun w' hk =>
 hP a w' ⟨hk.os.trans hx.os, hk.tape.trans hx.tape, hk.output.trans hx.output, Nat.le_trans hx.size hk.size, fun i hi => (hk.block i (Nat.lt_of_lt_of_le hi hx.size) (hs i hi)).trans (hx.block i hi)⟩ h
theorem On.and (h : On S P w) (k : On S Q w) : On S (fun w => P w ∧ Q w) w := fun w' hk => ⟨h w' hk, k w' hk⟩
end
/-- A slice that the call owns; its block lies in [lo, hi), its elements read by R, in S. -/
def RowS {α : Type} (S : Nat → Prop) (T sz : Nat) (R : World → List Value → α → Prop) (lo hi : Nat) (w : World) (v : Value) (l : List α) : Prop :=
 ∃ xs, w.ownsRow lo T sz v l.length xs ∧ (∀ r, v.ownBlock = some r → r < hi) ∧ ∀ k x, l[k]? = some x → ∃ ds, ds.length = sz ∧ (∀ j u, ds[j]? = some u → xs[k * sz + j]? = some u) ∧ On S (fun w => R w ds x) w
section
variable {α : Type} {S S' : Nat → Prop} {T sz lo hi : Nat} {R : World → List Value → α → Prop} {w w' : World} {v : Value} {l : List α}
theorem ownsRow_at {base n : Nat} {xs : List Value} {w w' : World} {v : Value} (h : w.ownsRow base T sz v n xs) (hb : ∀ r, v.ownBlock = some r → w'.heap[r]? = w.heap[r]?) : w'.ownsRow base T sz v n xs := by
 refine ⟨h.1, ?_⟩
 rcases h.2 with h1 | ⟨g, cap, cur, h1, h2, h3, h4⟩
 ·exact .inl h1
 ·exact .inr ⟨g, cap, cur, h1, h2, (hb g (by rw [h1]; rfl)).trans h3, h4⟩
theorem RowS.lt (h : RowS S T sz R lo hi w v l) : ∀ r, v.ownBlock = some r → lo ≤ r ∧ r < hi ∧ r < w.heap.size := by
 obtain ⟨xs, ho, hh, -⟩ := h
 intro r hr
 exact ⟨(ho.lt r hr).1, hh r hr, (ho.lt r hr).2⟩
theorem RowS.keep (h : RowS S T sz R lo hi w v l) (k : Keep S w w') (hb : ∀ r, v.ownBlock = some r → w'.heap[r]? = w.heap[r]?) : RowS S T sz R lo hi w' v l := by
 obtain ⟨xs, ho, hh, hel⟩ := h
 refine ⟨xs, ownsRow_at ho hb, hh, fun i x hx => ?_⟩
 obtain ⟨ds, h1, h2, h3⟩ := hel i x hx
 exact ⟨ds, h1, h2, h3.keep k⟩
theorem RowS.ext (h : RowS S T sz R lo hi w v l) (k : Ext w w') : RowS S T sz R lo hi w' v l := h.keep (k.keep S) (fun r hr => k.block r (h.lt r hr).2.2)
theorem RowS.mono (h : RowS S T sz R lo hi w v l) (hs : ∀ k, k < w.heap.size → S k → S' k) : RowS S' T sz R lo hi w v l := by
 obtain ⟨xs, ho, hh, hel⟩ := h
 refine ⟨xs, ho, hh, fun i x hx => ?_⟩
 obtain ⟨ds, h1, h2, h3⟩ := hel i x hx
 exact ⟨ds, h1, h2, h3.mono hs⟩
theorem RowS.bounds (h : RowS S T sz R lo hi w v l) {lo' hi' : Nat} (h1 : lo' ≤ lo) (h2 : hi ≤ hi') : RowS S T sz R lo' hi' w v l := by
 obtain ⟨xs, ho, hh, hel⟩ := h
 refine ⟨xs, ⟨ho.1, ?_⟩, fun r hr => Nat.lt_of_lt_of_le (hh r hr) h2, hel⟩
 rcases ho.2 with h3 | ⟨g, cap, cur, g1, g2, g3⟩
 ·exact .inl h3
 ·exact .inr ⟨g, cap, cur, g1, Nat.le_trans h1 g2, g3⟩
theorem RowS.imp {β : Type} {R' : World → List Value → β → Prop} {f : α → β} (h : RowS S T sz R lo hi w v l) (hR : ∀ w ds x, R w ds x → R' w ds (f x)) : RowS S T sz R' lo hi w v (l.map f) := by
 obtain ⟨xs, ho, hh, hel⟩ := h
 refine ⟨xs, by rw [List.length_map]; exact ho, hh, fun i x hx => ?_⟩
 rw [List.getElem?_map] at hx
 obtain ⟨y, hy, rfl⟩ := Option.map_eq_some_iff.1 hx
 obtain ⟨ds, h1, h2, h3⟩ := hel i y hy
 exact ⟨ds, h1, h2, h3.imp fun w _ h => hR w _ _ h⟩
theorem RowS.form (h : RowS S T sz R lo hi w v l) : ∃ A c, v = .slice A l.length c := by
 obtain ⟨xs, ho, -⟩ := h
 rcases ho.2 with ⟨rfl, hn⟩ | ⟨g, cap, cur, rfl, -⟩
 ·exact ⟨none, 0, by rw [hn]⟩
 ·exact ⟨_, _, rfl⟩
/-- Other data, read by another relation. -/
theorem RowS.re {β : Type} {R' : World → List Value → β → Prop} {l' : List β} (h : RowS S T sz R lo hi w v l) (hl : l'.length = l.length) (hr : ∀ (k : Nat) (x : α) (x' : β), l[k]? = some x → l'[k]? = some x' → ∀ ds, On S (fun w => R w ds x) w → On S' (fun w => R' w ds x') w) : RowS S' T sz R' lo hi w v l' := by
 obtain ⟨xs, ho, hh, hel⟩ := h
 refine ⟨xs, by rw [hl]; exact ho, hh, fun i x' hi => ?_⟩
 have hlt := (List.getElem?_eq_some_iff.1 hi).1
 obtain ⟨ds, h1, h2, h3⟩ := hel i _ (List.getElem?_eq_getElem (by omega))
 exact ⟨ds, h1, h2, hr i _ _ (List.getElem?_eq_getElem (by omega)) hi ds h3⟩
/-- One of the elements. -/
theorem RowS.at_ {A : Option Addr} {n c : Nat} (h : RowS S T sz R lo hi w (.slice A n c) l) {k : Nat} (hk : k < l.length) :
  ∃ r ds, A = some ⟨r, 0, none⟩ ∧ lo ≤ r ∧ r < hi ∧ r < w.heap.size ∧ n = l.length ∧ n ≤ c ∧ ds.length = sz ∧ (∀ j u, ds[j]? = some u → w.cell? ⟨r, k * sz + j, none⟩ = some u) ∧ (∀ j, w.frozen? ⟨r, j, none⟩ = false) ∧ On S (fun w => R w ds l[k]) w := by
 obtain ⟨xs, ho, hh, hel⟩ := h
 rcases ho.2 with ⟨h1, h2⟩ | ⟨g, cap, cur, h1, hb, hg, hcap, hcm, hcs, htk⟩
 ·omega
 ·injection h1 with e1 e2 e3
  subst e1 e2 e3
  obtain ⟨ds, d1, d2, d3⟩ := hel k _ (List.getElem?_eq_getElem hk)
  refine ⟨g, ds, rfl, hb, hh g rfl, (Array.getElem?_eq_some_iff.1 hg).1, rfl, hcap, d1, fun j u hj => ?_, fun j => ?_, d3⟩
  ·have h6 := d2 j u hj
   rw [← htk, List.getElem?_take] at h6
   split at h6
   ·rw [cell_of_row w g _ cur _ _ hg]
    simpa using h6
   ·cases h6
  ·simp [World.frozen?, hg]
theorem RowS.len {A : Option Addr} {n c : Nat} (h : RowS S T sz R lo hi w (.slice A n c) l) : n = l.length := by
 obtain ⟨A', c', h1⟩ := h.form
 injection h1
/-- One cell of a row. -/
theorem ownsRow_set {base n r o : Nat} {A : Option Addr} {m c : Nat} {xs : List Value} (h : w.ownsRow base T sz (.slice A m c) n xs) (hr : A = some ⟨r, 0, none⟩) (ho : o < n * sz) (u : Value) : (w.setCell ⟨r, o, none⟩ u).ownsRow base T sz (.slice A m c) n (xs.set o u) := by
 refine ⟨by rw [List.length_set]; exact h.1, ?_⟩
 rcases h.2 with h1 | ⟨g, cap, cur, h1, h2, h3, h4, h5, h6, h7⟩
 ·exact .inl h1
 ·injection h1 with e1 e2 e3
  rw [hr] at e1
  injection e1 with e1
  injection e1 with e1 _ _
  subst e1 e2 e3
  refine .inr ⟨r, c, cur.setIfInBounds o u, by rw [hr], h2, ?_, h4, h5, by rw [Array.size_setIfInBounds]; exact h6, ?_⟩
  ·simp [World.setCell, Array.getElem?_modify, h3]
  ·rw [Array.toList_setIfInBounds, List.take_set, h7]
theorem ownsRow_sets {base n r : Nat} {A : Option Addr} {m c : Nat} (hr : A = some ⟨r, 0, none⟩) : ∀ (us : List Value) (o : Nat) (w : World) (xs : List Value), w.ownsRow base T sz (.slice A m c) n xs → o + us.length ≤ n * sz →
  ∃ ys, (w.setCells r o us).ownsRow base T sz (.slice A m c) n ys ∧ (∀ j, j < o ∨ o + us.length ≤ j → ys[j]? = xs[j]?) ∧ (∀ j u, us[j]? = some u → ys[o + j]? = some u)
 | [], o, w, xs, h, _ => ⟨xs, h, fun _ _ => rfl, fun j u hj => by simp at hj⟩
 | a :: us, o, w, xs, h, hl => by
  obtain ⟨ys, h1, h2, h3⟩ := ownsRow_sets hr us (o + 1) _ _ (ownsRow_set h hr (o := o) (by simp at hl; omega) a) (by simp at hl; omega)
  refine ⟨ys, h1, fun j hj => ?_, fun j u hj => ?_⟩
  ·rw [h2 j (by simp at hj; omega), List.getElem?_set_ne (by simp at hj; omega)]
  ·rcases j with _ | j
   ·simp at hj
    subst hj
    rw [Nat.add_zero, h2 o (by omega), List.getElem?_set_self]
    have := h.1
    rw [this]; simp at hl; omega
   ·have := h3 j u (by simpa using hj)
    rwa [show o + 1 + j = o + (j + 1) by omega] at this
theorem Keep.sets {a : World} (r : Nat) (hr : r < a.heap.size → ¬ S r) : ∀ (us : List Value) (o : Nat) (w : World), Keep S a w → Keep S a (w.setCells r o us)
 | [], _, _, h => h
 | u :: us, o, _, h => Keep.sets r hr us (o + 1) _ (h.pset ⟨r, o, none⟩ u hr)
theorem Ext.sets {a : World} (r : Nat) (hr : a.heap.size ≤ r) : ∀ (us : List Value) (o : Nat) (w : World), Ext a w → Ext a (w.setCells r o us)
 | [], _, _, h => h
 | u :: us, o, _, h => Ext.sets r hr us (o + 1) _ (h.pset hr u)
/-- Some of an element's cells are stored anew. -/
theorem RowS.put {r m c k j0 : Nat} {us : List Value} (h : RowS S T sz R lo hi w (.slice (some ⟨r, 0, none⟩) m c) l) (hk : k < l.length) (hj : j0 + us.length ≤ sz) (hr : ¬ S r) {x' : α}
  (hx : ∀ ds, ds.length = sz → On S (fun w => R w ds l[k]) w → ∀ ds', ds'.length = sz → (∀ j, j < j0 ∨ j0 + us.length ≤ j → ds'[j]? = ds[j]?) → (∀ j u, us[j]? = some u → ds'[j0 + j]? = some u) → On S (fun w => R w ds' x') w) :
  RowS S T sz R lo hi (w.setCells r (k * sz + j0) us) (.slice (some ⟨r, 0, none⟩) m c) (l.set k x') := by
 obtain ⟨xs, ho, hh, hel⟩ := h
 have hks : (k + 1) * sz ≤ l.length * sz := Nat.mul_le_mul_right sz hk
 rw [Nat.add_mul, Nat.one_mul] at hks
 obtain ⟨ys, g1, g2, g3⟩ := ownsRow_sets rfl us (k * sz + j0) w xs ho (by omega)
 have hK : Keep S w (w.setCells r (k * sz + j0) us) := Keep.sets r (fun _ => hr) us _ w (Keep.refl _ _)
 have hyl : ys.length = l.length * sz := g1.1
 refine ⟨ys, by rw [List.length_set]; exact g1, hh, fun i x hi => ?_⟩
 by_cases hik : i = k
 ·subst hik
  rw [List.getElem?_set_self hk] at hi
  injection hi with hi
  subst hi
  obtain ⟨ds, d1, d2, d3⟩ := hel i _ (List.getElem?_eq_getElem hk)
  have hd' : ∀ j, j < sz → ((ys.drop (i * sz)).take sz)[j]? = ys[i * sz + j]? := fun j hj => by rw [List.getElem?_take_of_lt hj, List.getElem?_drop]
  refine ⟨(ys.drop (i * sz)).take sz, by rw [List.length_take, List.length_drop]; omega, fun j u hju => ?_, (hx ds d1 d3 _ (by rw [List.length_take, List.length_drop]; omega) (fun j hjj => ?_) (fun j u hju => ?_)).keep hK⟩
  ·have hjs : j < sz := by
    have := (List.getElem?_eq_some_iff.1 hju).1
    rw [List.length_take] at this; omega
   rwa [hd' j hjs] at hju
  ·rcases Nat.lt_or_ge j sz with hjs | hjs
   ·rw [hd' j hjs, g2 _ (by omega)]
    rw [List.getElem?_eq_getElem (by omega : j < ds.length)]
    exact d2 j _ (List.getElem?_eq_getElem (by omega))
   ·rw [List.getElem?_eq_none (by rw [List.length_take]; omega), List.getElem?_eq_none (by omega)]
  ·have hju' := (List.getElem?_eq_some_iff.1 hju).1
   rw [hd' _ (by omega)]
   have := g3 j u hju
   rwa [show i * sz + j0 + j = i * sz + (j0 + j) by omega] at this
 ·rw [List.getElem?_set_ne (by omega)] at hi
  obtain ⟨ds, d1, d2, d3⟩ := hel i x hi
  refine ⟨ds, d1, fun j u hju => ?_, d3.keep hK⟩
  have hjs := (List.getElem?_eq_some_iff.1 hju).1
  rw [g2]
  ·exact d2 j u hju
  ·rcases Nat.lt_or_gt_of_ne hik with h1 | h1
   ·have := Nat.mul_le_mul_right sz (show i + 1 ≤ k from h1)
    rw [Nat.add_mul] at this; omega
   ·have := Nat.mul_le_mul_right sz (show k + 1 ≤ i from h1)
    rw [Nat.add_mul] at this; omega
/-- The slice as data. -/
theorem RowS.arr (h : RowS S T sz R lo hi w v l) (hl : l.length ≤ 1000000) (hS : ∀ r, v.ownBlock = some r → S' r) (hSS : ∀ k, k < w.heap.size → S k → S' k) : On S' (fun w => ArrAt sz R w v l) w := by
 intro w' hk
 have hlt := h.lt
 have h' := h.keep (hk.mono hSS) (fun r hr => hk.block r (hlt r hr).2.2 (hS r hr))
 obtain ⟨xs, ho, -, hel⟩ := h'
 rcases ho.2 with ⟨rfl, hn⟩ | ⟨g, cap, cur, rfl, hb, hg, hcap, hcm, hcs, htk⟩
 ·obtain rfl := List.eq_nil_of_length_eq_zero hn
  exact ArrAt.nil
 ·refine ⟨some ⟨g, 0, none⟩, cap, rfl, hcap, by omega, fun _ => ⟨g, 0, rfl, (Array.getElem?_eq_some_iff.1 hg).1, fun k x hk => ?_⟩⟩
  obtain ⟨ds, h1, h2, h3⟩ := hel k x hk
  refine ⟨ds, h1, fun j u hj => ?_, h3.out⟩
  have h6 := h2 j u hj
  rw [← htk, List.getElem?_take] at h6
  split at h6
  ·rw [cell_of_row w' g _ cur _ _ hg, Nat.zero_add]
   simpa using h6
  ·cases h6
end
theorem ArrAt.old {α : Type} {sz : Nat} {R : World → List Value → α → Prop} {w0 w : World} {v : Value} {xs : List α} (h : ArrAt sz R w0 v xs) (hx : Ext w0 w) : ArrAt sz (fun _ => R w0) w v xs := by
 obtain ⟨A, c, hv, hl, hm, hc⟩ := h
 refine ⟨A, c, hv, hl, hm, fun hne => ?_⟩
 obtain ⟨b, off, hA, hb, hk⟩ := hc hne
 refine ⟨b, off, hA, Nat.lt_of_lt_of_le hb hx.size, fun k x hkx => ?_⟩
 obtain ⟨cs, hcs, hcell, hr'⟩ := hk k x hkx
 exact ⟨cs, hcs, fun j u hj => (hx.cell (p := ⟨b, off + (k * sz + j), none⟩) hb).trans (hcell j u hj), hr'⟩
/-- Slices of words, as slices of elements. -/
theorem Words.arr {w : World} {v : Value} {xs : List Nat} (h : Words w v xs) : ArrAt 1 WordR w v xs := by
 obtain ⟨A, c, hv, hl, hm, hL, hc⟩ := h
 refine ⟨A, c, hv, hl, hm, fun hne => ?_⟩
 obtain ⟨b, off, hA, hb, hk⟩ := hc (List.length_pos_iff.2 hne)
 refine ⟨b, off, hA, hb, fun k x hx => ?_⟩
 obtain ⟨hkl, hx'⟩ := List.getElem?_eq_some_iff.1 hx
 refine ⟨[.int .u32 (x : Int)], rfl, fun j u hj => ?_, rfl, hL x (by rw [← hx']; exact List.getElem_mem hkl)⟩
 rcases j with _ | j
 ·simp at hj
  subst hj
  have := hk k hkl
  rw [List.getD_eq_getElem?_getD, hx] at this
  simpa using this
 ·simp at hj
theorem ArrAt.words {w : World} {v : Value} {xs : List Nat} (h : ArrAt 1 WordR w v xs) : Words w v xs := by
 obtain ⟨A, c, hv, hl, hm, hc⟩ := h
 have hel : ∀ (hne : xs ≠ []) k (hk : k < xs.length), ∃ b off, A = some ⟨b, off, none⟩ ∧ b < w.heap.size ∧ w.cell? ⟨b, off + k, none⟩ = some (.int .u32 ((xs.getD k 0 : Nat) : Int)) ∧ xs[k] < 4294967296 := by
  intro hne k hk
  obtain ⟨b, off, hA, hb, hx⟩ := hc hne
  obtain ⟨cs, h1, h2, h3, h4⟩ := hx k _ (List.getElem?_eq_getElem hk)
  refine ⟨b, off, hA, hb, ?_, h4⟩
  rw [h3] at h2
  have := h2 0 _ rfl
  rw [List.getD_eq_getElem?_getD, List.getElem?_eq_getElem hk]
  simpa using this
 refine ⟨A, c, hv, hl, hm, fun x hx => ?_, fun h0 => ?_⟩
 ·obtain ⟨k, hk, rfl⟩ := List.mem_iff_getElem.1 hx
  obtain ⟨_, _, _, _, _, h4⟩ := hel (by intro e; rw [e] at hk; simp at hk) k hk
  exact h4
 ·have hne : xs ≠ [] := List.length_pos_iff.1 h0
  obtain ⟨b, off, hA, hb, -⟩ := hc hne
  refine ⟨b, off, hA, hb, fun k hk => ?_⟩
  obtain ⟨b', off', hA', -, h3, -⟩ := hel hne k hk
  rw [hA] at hA'
  injection hA' with hA'
  injection hA' with e1 e2 _
  subst e1 e2
  exact h3
end Go.Proofs.YtonleohlplkglaaGreatDoor
namespace Go.Proofs.YtonleohlplkglaaGreatDoor
open Go Go.RowKit
theorem inf_Point : (Tryz.prog.info? 40).map (fun i => (i.zero, i.size, i.bytes)) = some (some (.agg #[.bool false, .slice none 0 0, .bool false, .slice none 0 0, .bool false, .slice none 0 0, .bool false, .slice none 0 0]), 8, 128) := by kernel_rfl
theorem inf_Segment : (Tryz.prog.info? 42).map (fun i => (i.zero, i.size, i.bytes)) = some (some (.agg #[.int .i64 0, .int .i64 0]), 2, 16) := by kernel_rfl
theorem inf_Chain : (Tryz.prog.info? 43).map (fun i => (i.zero, i.size, i.bytes)) = some (some (.slice none 0 0), 1, 24) := by kernel_rfl
theorem inf_Piece : (Tryz.prog.info? 45).map (fun i => (i.zero, i.size, i.bytes)) = some (some (.agg #[.bool false, .int .i64 0, .bool false]), 3, 24) := by kernel_rfl
end Go.Proofs.YtonleohlplkglaaGreatDoor
namespace Go.Proofs.YtonleohlplkglaaGreatDoor
open Go Go.RowKit
/-- From the base on. -/
abbrev From (b : Nat) : Nat → Prop := fun k => b ≤ k
/-- What a copy of a rational reads as. -/
def RatOn (S : Nat → Prop) (q : QI) (r : Value) (w' : World) : Prop := ∃ A c A' c', r = .agg #[.bool q.num.neg, .slice A q.num.mag.length c, .bool q.den.neg, .slice A' q.den.mag.length c'] ∧ On S (fun w => Words w (.slice A q.num.mag.length c) q.num.mag) w' ∧ On S (fun w => Words w (.slice A' q.den.mag.length c') q.den.mag) w'
theorem RatOn.mono {S S' : Nat → Prop} {q : QI} {r : Value} {w : World} (h : RatOn S q r w) (hs : ∀ k, k < w.heap.size → S k → S' k) : RatOn S' q r w := by
 obtain ⟨A, c, A', c', h1, h2, h3⟩ := h
 exact ⟨A, c, A', c', h1, h2.mono hs, h3.mono hs⟩
theorem RatOn.keep {S : Nat → Prop} {q : QI} {r : Value} {w w' : World} (h : RatOn S q r w) (hk : Keep S w w') : RatOn S q r w' := by
 obtain ⟨A, c, A', c', h1, h2, h3⟩ := h
 exact ⟨A, c, A', c', h1, h2.keep hk, h3.keep hk⟩
end Go.Proofs.YtonleohlplkglaaGreatDoor
namespace Go.Proofs.YtonleohlplkglaaGreatDoor
open Go Go.RowKit
/-- An element that is still the old one (as it lay in w0), or that has been copied. -/
def Fl {α : Type} (R : World → List Value → α → Prop) (w0 w : World) (ds : List Value) (x : α × Bool) : Prop := if x.2 then R w0 ds x.1 else R w ds x.1
/-- A constraint; the points' own row, if it has been copied; the values' own row, while they are being copied. -/
structure CX where
 c : CI
 pv : Option Value
 vv : Option Value
def ConX (K : Nat) (w0 w : World) (ds : List Value) (x : CX) : Prop := ∃ pv cv vv, ds = [.int .i64 x.c.kind, pv, cv, vv, .int .i64 x.c.side] ∧
 match x.pv with
 | none => Ints w0 pv x.c.points ∧ Ints w0 cv x.c.circles ∧ ArrAt 7 (ExprR K) w0 vv x.c.values
 | some p => pv = p ∧ Ints w cv x.c.circles ∧ match x.vv with
  | none => ArrAt 7 (ExprR K) w vv x.c.values
  | some q => vv = q
/-- The blocks on which copies may depend. -/
def Sx (hi : Nat) (l : List CX) (k : Nat) : Prop := hi ≤ k ∧ ∀ x ∈ l, (∀ p, x.pv = some p → p.ownBlock ≠ some k) ∧ (∀ q, x.vv = some q → q.ownBlock ≠ some k)
structure ClS (K : Nat) (w0 : World) (lo hh : Nat) (w : World) (v0 v1 v2 v3 v4 v5 : Value) (lp : List (PtI × Bool)) (lr : List (RdI × Bool)) (sg : List SgI) (ar : List ArI) (lc : List (List PcI × Bool)) (l : List CX) : Prop where
 hi : hh ≤ w.heap.size
 pts : RowS (Sx (hh) l) 40 8 (Fl PtR w0) lo hh w v0 lp
 rds : RowS (Sx (hh) l) 66 5 (Fl RdR w0) lo hh w v1 lr
 sgs : RowS (Sx (hh) l) 42 2 SgR lo hh w v2 sg
 ars : RowS (Sx (hh) l) 81 4 ArR lo hh w v3 ar
 chs : RowS (Sx (hh) l) 43 1 (Fl ChR w0) lo hh w v4 lc
 cns : RowS (Sx (hh) l) 52 5 (ConX K w0) lo hh w v5 l
 prow : ∀ (i : Nat) x p, l[i]? = some x → x.pv = some p → RowS (fun _ => False) 3 1 IntR (hh) w.heap.size w p x.c.points
 dst : ∀ (i j : Nat) a b r, i ≠ j → [v0, v1, v2, v3, v4, v5][i]? = some a → [v0, v1, v2, v3, v4, v5][j]? = some b → a.ownBlock = some r → b.ownBlock ≠ some r
 dis : ∀ (i j : Nat) x y p q r, i ≠ j → l[i]? = some x → l[j]? = some y → x.pv = some p → y.pv = some q → p.ownBlock = some r → q.ownBlock ≠ some r
 hot : ∀ (i j : Nat) x y p q r, l[i]? = some x → l[j]? = some y → x.pv = some p → y.vv = some q → p.ownBlock = some r → q.ownBlock ≠ some r
section
variable {α : Type} {S S' : Nat → Prop} {T sz lo hi : Nat} {R : World → List Value → α → Prop} {w w' : World} {v : Value} {l : List α}
theorem grownBy.keep {row : Option Nat} (hg : w.grownBy w' row) (hS : ∀ r, row = some r → ¬ S r) : Keep S w w' :=
 ⟨hg.os, hg.tape, hg.output, hg.size, fun k hk hs => hg.block k hk (by intro e; exact hS k e.symm hs)⟩
theorem RowS.far {row : Option Nat} (h : RowS S T sz R lo hi w v l) (hg : w.grownBy w' row) (hr : ∀ r, row = some r → v.ownBlock ≠ some r) (hS : ∀ r, row = some r → ¬ S r) : RowS S T sz R lo hi w' v l :=
 h.keep (grownBy.keep hg hS) (fun r hv => hg.block r (h.lt r hv).2.2 (by intro e; exact hr r e.symm hv))
theorem grownBy_sets (r : Nat) : ∀ (us : List Value) (o : Nat) (w : World), w.grownBy (w.setCells r o us) (some r)
 | us, o, w => by
  have h1 := Keep.sets (S := fun k => k ≠ r) (a := w) r (fun _ h => h rfl) us o w (Keep.refl _ _)
  exact ⟨h1.os, h1.tape, h1.output, h1.size, fun k hk hne => h1.block k hk (by intro e; exact hne (by rw [e]))⟩
end
section
variable {K : Nat} {w0 : World} {lo hh : Nat} {w w' : World} {v0 v1 v2 v3 v4 v5 : Value} {lp : List (PtI × Bool)} {lr : List (RdI × Bool)} {sg : List SgI} {ar : List ArI} {lc : List (List PcI × Bool)} {l : List CX}
theorem ClS.ext (h : ClS K w0 lo hh w v0 v1 v2 v3 v4 v5 lp lr sg ar lc l) (hx : Ext w w') : ClS K w0 lo hh w' v0 v1 v2 v3 v4 v5 lp lr sg ar lc l where
 hi := Nat.le_trans h.hi hx.size
 pts := h.pts.ext hx
 rds := h.rds.ext hx
 sgs := h.sgs.ext hx
 ars := h.ars.ext hx
 chs := h.chs.ext hx
 cns := h.cns.ext hx
 prow := fun i x p h1 h2 => ((h.prow i x p h1 h2).ext hx).bounds (Nat.le_refl _) hx.size
 dst := h.dst
 dis := h.dis
 hot := h.hot
theorem Sx.not {hi k : Nat} {l : List CX} (h : k < hi) : ¬ Sx hi l k := fun h' => by have := h'.1; omega
theorem mem_of_getElem? {α : Type} {l : List α} {i : Nat} {x : α} (h : l[i]? = some x) : x ∈ l := List.mem_of_getElem? h
end
end Go.Proofs.YtonleohlplkglaaGreatDoor
namespace Go.Proofs.YtonleohlplkglaaGreatDoor
open Go Go.RowKit
/-- A block of the call's own, which may be stored into. -/
def BoxF (w : World) (g : Nat) (cs : List Value) : Prop := CellsAt w g cs ∧ ∀ j, w.frozen? ⟨g, j, none⟩ = false
theorem BoxF.new (w : World) (cs : List Value) (T : TypeId) : BoxF (w.alloc (.cells cs.toArray T)) w.heap.size cs := ⟨CellsAt.new _ _ _, fun j => by simp [go_sem]⟩
theorem BoxF.ext {w w' : World} {g : Nat} {cs : List Value} (h : BoxF w g cs) (hx : Ext w w') : BoxF w' g cs := ⟨h.1.ext hx, fun j => (Below.frozen hx h.1.1).trans (h.2 j)⟩
theorem BoxF.grown {w w' : World} {g : Nat} {cs : List Value} {row : Option Nat} (h : BoxF w g cs) (hg : w.grownBy w' row) (hr : row ≠ some g) : BoxF w' g cs :=
 ⟨⟨Nat.lt_of_lt_of_le h.1.1 hg.size, fun i v hi => (World.cell?_of_block (hg.block g h.1.1 (fun e => hr e.symm))).trans (h.1.2 i v hi)⟩, fun j => (World.frozen?_of_block (hg.block g h.1.1 (fun e => hr e.symm))).trans (h.2 j)⟩
theorem BoxF.set_ {w : World} {g i : Nat} {cs : List Value} (h : BoxF w g cs) (u : Value) : BoxF (w.setCell ⟨g, i, none⟩ u) g (cs.set i u) := by
 refine ⟨⟨by simpa [World.setCell] using h.1.1, fun j v hj => ?_⟩, fun j => by rw [World.frozen?_setCell]; exact h.2 j⟩
 by_cases hij : i = j
 ·subst hij
  have hl := (List.getElem?_eq_some_iff.1 hj).1
  rw [List.length_set] at hl
  rw [List.getElem?_set_self hl] at hj
  injection hj with hj
  subst hj
  exact World.cell?_setCell_same _ _ _ (h.1.2 i _ (List.getElem?_eq_getElem hl))
 ·rw [List.getElem?_set_ne hij] at hj
  rw [cell_set_off hij]
  exact h.1.2 j v hj
theorem BoxF.sets {g : Nat} : ∀ (us : List Value) (o : Nat) (w : World) (cs : List Value), BoxF w g cs → o + us.length ≤ cs.length → BoxF (w.setCells g o us) g (cs.take o ++ us ++ cs.drop (o + us.length))
 | [], o, w, cs, h, _ => by
  have e : cs.take o ++ [] ++ cs.drop (o + ([] : List Value).length) = cs := by simp
  rw [e]; exact h
 | u :: us, o, w, cs, h, hl => by
  have := BoxF.sets us (o + 1) _ _ (h.set_ (i := o) u) (by simp at hl ⊢; omega)
  rw [World.setCells]
  have e : (cs.set o u).take (o + 1) ++ us ++ (cs.set o u).drop (o + 1 + us.length) = cs.take o ++ (u :: us) ++ cs.drop (o + (u :: us).length) := by
   have hlo : o < cs.length := by simp at hl; omega
   rw [List.take_succ_eq_append_getElem (by rw [List.length_set]; exact hlo), List.take_set, List.getElem_set_self, List.drop_set_of_lt (by omega)]
   rw [List.set_eq_of_length_le (by rw [List.length_take]; omega)]
   simp [Nat.add_assoc, Nat.add_comm 1]
  rw [e] at this
  exact this
theorem RowS.sliceAt {α : Type} {S S' : Nat → Prop} {T sz lo hi : Nat} {R : World → List Value → α → Prop} {w : World} {v : Value} {l : List α} (h : RowS S T sz R lo hi w v l) (hl : l.length ≤ 1000000) (hS : ∀ r, v.ownBlock = some r → S' r) (hSS : ∀ k, k < w.heap.size → S k → S' k) : On S' (fun w => SliceAt sz R w v l) w := by
 have hc : ∀ A c, v = .slice A l.length c → c ≤ maxLen := by
  intro A c hv
  obtain ⟨xs, ho, -⟩ := h
  rcases ho.2 with ⟨rfl, hn⟩ | ⟨g, cap, cur, rfl, hb, hg, hcap, hcm, hcs, htk⟩
  ·injection hv with _ _ e; rw [← e]; exact Nat.zero_le _
  ·injection hv with _ _ e; rw [← e]; exact hcm
 refine (h.arr hl hS hSS).imp fun w' _ ⟨A, c, hv, h1, h2, h3⟩ => ⟨A, c, hv, h1, hc A c hv, h3⟩
/-- From b on, but for a slice's own block. -/
def Sq (b : Nat) (v : Value) (k : Nat) : Prop := b ≤ k ∧ v.ownBlock ≠ some k
/-- The state of cloneExpr behind its two clones. -/
structure CEs (K : Nat) (w wr : World) (q : QI) (op : Int) (nm : ByteArray) (A1 A2 A : Option Addr) (c1 c2 c n : Nat) (args : List EI) (lx : List (EI × Bool)) : Prop where
 box : BoxF wr w.heap.size [.int .i64 op, .bool q.num.neg, .slice A1 q.num.mag.length c1, .bool q.den.neg, .slice A2 q.den.mag.length c2, .string nm, .slice A n c]
 res : BoxF wr (w.heap.size + 1) [.int .i64 0, .bool false, .slice none 0 0, .bool false, .slice none 0 0, .string ⟨#[]⟩, .slice none 0 0]
 num : On (Sq (w.heap.size + 2) (.slice A n c)) (fun w => Words w (.slice A1 q.num.mag.length c1) q.num.mag) wr
 den : On (Sq (w.heap.size + 2) (.slice A n c)) (fun w => Words w (.slice A2 q.den.mag.length c2) q.den.mag) wr
 row : RowS (Sq (w.heap.size + 2) (.slice A n c)) 69 7 (Fl (ExprR K) w) (w.heap.size + 2) wr.heap.size wr (.slice A n c) lx
 ext : Ext w wr
 len : lx.map (·.1) = args
theorem set_fst {α : Type} {lx : List (α × Bool)} {i : Nat} (hi : i < lx.length) : (lx.set i (lx[i].1, false)).map (·.1) = lx.map (·.1) := by
 rw [List.map_set]
 have : lx[i].1 = (lx.map (·.1))[i]'(by simpa using hi) := by simp
 rw [this, List.set_getElem_self]
theorem CEs.move {K : Nat} {w wr w3 : World} {q : QI} {op : Int} {nm : ByteArray} {A1 A2 A : Option Addr} {c1 c2 c n : Nat} {args : List EI} {lx : List (EI × Bool)} (h : CEs K w wr q op nm A1 A2 A c1 c2 c n args lx) (hx : Ext wr w3) : CEs K w w3 q op nm A1 A2 A c1 c2 c n args lx :=
 ⟨h.box.ext hx, h.res.ext hx, h.num.ext hx, h.den.ext hx, (h.row.ext hx).bounds (Nat.le_refl _) hx.size, h.ext.trans hx, h.len⟩
theorem CEs.put {K : Nat} {w wr w3 : World} {q : QI} {op : Int} {nm : ByteArray} {A1 A2 : Option Addr} {c1 c2 c n r i : Nat} {args : List EI} {lx : List (EI × Bool)} (h : CEs K w wr q op nm A1 A2 (some ⟨r, 0, none⟩) c1 c2 c n args lx) (hx : Ext wr w3) (hi : i < lx.length) {us : List Value} (hu : us.length = 7)
  (ho : On (From wr.heap.size) (fun w => ExprR K w us lx[i].1) w3) : CEs K w (w3.setCells r (i * 7) us) q op nm A1 A2 (some ⟨r, 0, none⟩) c1 c2 c n args (lx.set i (lx[i].1, false)) := by
 obtain ⟨hlo, hhi, hlt⟩ := h.row.lt r rfl
 have hg := grownBy_sets r us (i * 7) w3
 have hS : ¬ Sq (w.heap.size + 2) (.slice (some ⟨r, 0, none⟩) n c) r := fun h => h.2 rfl
 have hn : ∀ r', some r = some r' → ¬ Sq (w.heap.size + 2) (.slice (some ⟨r, 0, none⟩) n c) r' := fun r' e => by injection e with e; subst e; exact hS
 have h3 := h.move hx
 have hp := h3.row.put (j0 := 0) (us := us) (x' := (lx[i].1, false)) hi (by omega) hS (fun ds g1 g2 ds' g3 g4 g5 => by
  have : ds' = us := by
   apply List.ext_getElem?
   intro j
   rcases Nat.lt_or_ge j us.length with h6 | h6
   ·rw [List.getElem?_eq_getElem h6]
    have := g5 j _ (List.getElem?_eq_getElem h6)
    rwa [Nat.zero_add] at this
   ·rw [List.getElem?_eq_none h6, List.getElem?_eq_none (by omega)]
  rw [this]
  exact (ho.mono (fun k _ hk => ⟨by have : wr.heap.size ≤ k := hk; omega, fun e => absurd (show r = k from Option.some.inj e) (by have : wr.heap.size ≤ k := hk; omega)⟩)).imp (fun _ _ h => h))
 rw [Nat.add_zero] at hp
 exact ⟨h3.box.grown hg (by simp; omega), h3.res.grown hg (by simp; omega), h3.num.keep (grownBy.keep hg hn), h3.den.keep (grownBy.keep hg hn), hp.bounds (Nat.le_refl _) hg.size, Ext.sets r (by omega) _ _ _ h3.ext, (set_fst hi).trans h.len⟩
/-- What the copy reads as. -/
theorem CEs.done {K : Nat} {w wr : World} {q : QI} {op : Int} {nm : ByteArray} {A1 A2 A : Option Addr} {c1 c2 c n : Nat} {args : List EI} {lx : List (EI × Bool)} (h : CEs K w wr q op nm A1 A2 A c1 c2 c n args lx) (hf : ∀ (j : Nat) x, lx[j]? = some x → x.2 = false) (hl : args.length ≤ 1000000) (us : List Value) :
  On (From w.heap.size) (fun w => Words w (.slice A1 q.num.mag.length c1) q.num.mag) (wr.setCells (w.heap.size + 1) 0 us) ∧ On (From w.heap.size) (fun w => Words w (.slice A2 q.den.mag.length c2) q.den.mag) (wr.setCells (w.heap.size + 1) 0 us) ∧ On (From w.heap.size) (fun w => SliceAt 7 (ExprR K) w (.slice A n c) args) (wr.setCells (w.heap.size + 1) 0 us) := by
 have hg := grownBy_sets (w.heap.size + 1) us 0 wr
 have hn : ∀ r', some (w.heap.size + 1) = some r' → ¬ Sq (w.heap.size + 2) (.slice A n c) r' := fun r' e h => by injection e with e; have := h.1; omega
 have hm : ∀ k, k < (wr.setCells (w.heap.size + 1) 0 us).heap.size → Sq (w.heap.size + 2) (.slice A n c) k → From w.heap.size k := fun k _ hk => Nat.le_trans (Nat.le_add_right _ _) hk.1
 have h1 : RowS (Sq (w.heap.size + 2) (.slice A n c)) 69 7 (ExprR K) (w.heap.size + 2) wr.heap.size wr (.slice A n c) args := h.row.re (by rw [← h.len, List.length_map]) (fun k x x' hx hx' ds hR => by
  rw [← h.len, List.getElem?_map, hx] at hx'
  injection hx' with hx'
  subst hx'
  exact hR.imp (fun w'' _ hh => by unfold Fl at hh; rw [hf k x hx] at hh; exact hh))
 have h2 := h1.far hg (fun r' e hb => by injection e with e; have := (h1.lt r' hb).1; omega) hn
 exact ⟨(h.num.keep (grownBy.keep hg hn)).mono hm, (h.den.keep (grownBy.keep hg hn)).mono hm, h2.sliceAt hl (fun r hr => by have := (h2.lt r hr).1; exact Nat.le_trans (Nat.le_add_right _ _) this) hm⟩
end Go.Proofs.YtonleohlplkglaaGreatDoor
namespace Go.Proofs.YtonleohlplkglaaGreatDoor
open Go Go.RowKit
theorem ExprR.shape {K : Nat} {w : World} {cs : List Value} {e : EI} (h : ExprR K w cs e) : ∃ op b1 A1 n1 c1 b2 A2 n2 c2 nm A n c, cs = [.int .i64 op, .bool b1, .slice A1 n1 c1, .bool b2, .slice A2 n2 c2, .string nm, .slice A n c] := by
 cases K with
 | zero => exact h.elim
 | succ K =>
  obtain ⟨u, v, sl, rfl, hu, hv, A, c, rfl, -⟩ := h
  obtain ⟨A1, c1, rfl, -⟩ := hu.form
  obtain ⟨A2, c2, rfl, -⟩ := hv.form
  exact ⟨_, _, _, _, _, _, _, _, _, _, _, _, _, rfl⟩
end Go.Proofs.YtonleohlplkglaaGreatDoor
