/- What depends on some blocks alone; rows of a call's own into which it stores. -/
import Derived.Test.YtonleohlplkglaaGreatDoorWH
import Derived.Test.YtonleohlplkglaaGreatDoorWE
namespace Go.Proofs.YtonleohlplkglaaGreatDoor
open Go Go.RowKit
/-- The blocks of S are as they were. -/
structure Keep (S : Nat → Prop) (w w' : World) : Prop where
 os : w'.os = w.os
 tape : w'.tape = w.tape
 output : w'.output = w.output
 size : w.heap.size ≤ w'.heap.size
 block : ∀ k, k < w.heap.size → S k → w'.heap[k]? = w.heap[k]?
/-- P holds, and goes on to hold whatever becomes of the blocks outside S. -/
def On (S : Nat → Prop) (P : World → Prop) (w : World) : Prop := ∀ w', Keep S w w' → P w'
section
variable {S S' : Nat → Prop} {a w w' : World} {P Q : World → Prop}
theorem Keep.refl (S : Nat → Prop) (w : World) : Keep S w w := ⟨rfl, rfl, rfl, Nat.le_refl _, fun _ _ _ => rfl⟩
theorem Keep.trans (h : Keep S a w) (k : Keep S w w') : Keep S a w' :=
 ⟨k.os.trans h.os, k.tape.trans h.tape, k.output.trans h.output, Nat.le_trans h.size k.size, fun i hi hs => (k.block i (Nat.lt_of_lt_of_le hi h.size) hs).trans (h.block i hi hs)⟩
theorem Keep.mono (h : Keep S w w') (hs : ∀ k, k < w.heap.size → S' k → S k) : Keep S' w w' := ⟨h.os, h.tape, h.output, h.size, fun i hi hk => h.block i hi (hs i hi hk)⟩
theorem Ext.keep (h : Ext w w') (S : Nat → Prop) : Keep S w w' := ⟨h.os, h.tape, h.output, h.size, fun i hi _ => h.block i hi⟩
theorem Keep.ext (h : Keep S w w') (hs : ∀ k, k < w.heap.size → S k) : Ext w w' := ⟨h.os, h.tape, h.output, h.size, fun i hi => h.block i hi (hs i hi)⟩
theorem Keep.pext (h : Keep S a w) (k : Ext w w') : Keep S a w' := h.trans (k.keep S)
theorem Keep.set_ (w : World) (p : Addr) (u : Value) (hp : ¬ S p.block) : Keep S w (w.setCell p u) :=
 ⟨rfl, rfl, rfl, by simp [World.setCell], fun k _ hk => Below.heap_setCell _ _ _ _ (by intro e; exact hp (e ▸ hk))⟩
theorem Keep.pset (h : Keep S a w) (p : Addr) (u : Value) (hp : p.block < a.heap.size → ¬ S p.block) : Keep S a (w.setCell p u) :=
 ⟨h.os, h.tape, h.output, by simpa [World.setCell] using h.size, fun k hk hs => (Below.heap_setCell _ _ _ _ (by intro e; exact hp (e ▸ hk) (e ▸ hs))).trans (h.block k hk hs)⟩
theorem On.out (h : On S P w) : P w := h w (Keep.refl _ _)
theorem On.keep (h : On S P w) (k : Keep S w w') : On S P w' := fun w'' h' => h w'' (k.trans h')
theorem On.ext (h : On S P w) (k : Ext w w') : On S P w' := h.keep (k.keep S)
theorem On.mono (h : On S P w) (hs : ∀ k, k < w.heap.size → S k → S' k) : On S' P w := fun w'' h' => h w'' (h'.mono hs)
theorem On.imp (h : On S P w) (hq : ∀ w', Keep S w w' → P w' → Q w') : On S Q w := fun w'' h' => hq w'' h' (h w'' h')
theorem On.stable (hP : ∀ w w', Ext w w' → P w → P w') (h : P a) (hx : Ext a w) (hs : ∀ k, k < a.heap.size → S k) : On S P w := fun w' hk =>
 hP a w' ⟨hk.os.trans hx.os, hk.tape.trans hx.tape, hk.output.trans hx.output, Nat.le_trans hx.size hk.size, fun i hi => (hk.block i (Nat.lt_of_lt_of_le hi hx.size) (hs i hi)).trans (hx.block i hi)⟩ h
theorem On.const {p : Prop} (h : p) : On S (fun _ => p) w := fun _ _ => h
theorem On.and (h : On S P w) (k : On S Q w) : On S (fun w => P w ∧ Q w) w := fun w' hk => ⟨h w' hk, k w' hk⟩
end
/-- A slice that the call owns; its block lies in [lo, hi), its elements read by R, in S. -/
def RowS {α : Type} (S : Nat → Prop) (T sz : Nat) (R : World → List Value → α → Prop) (lo hi : Nat) (w : World) (v : Value) (l : List α) : Prop :=
 ∃ xs, w.ownsRow lo T sz v l.length xs ∧ (∀ r, v.ownBlock = some r → r < hi) ∧ ∀ k x, l[k]? = some x → ∃ ds, ds.length = sz ∧ (∀ j u, ds[j]? = some u → xs[k * sz + j]? = some u) ∧ On S (fun w => R w ds x) w
section
variable {α : Type} {S S' : Nat → Prop} {T sz lo hi : Nat} {R : World → List Value → α → Prop} {w w' : World} {v : Value} {l : List α}
theorem ownsRow_at {base n : Nat} {xs : List Value} {w w' : World} {v : Value} (h : w.ownsRow base T sz v n xs) (hb : ∀ r, v.ownBlock = some r → w'.heap[r]? = w.heap[r]?) : w'.ownsRow base T sz v n xs := by
 refine ⟨h.1, ?_⟩
 rcases h.2 with h1 | ⟨g, cap, cur, h1, h2, h3, h4⟩
 ·exact .inl h1
 ·exact .inr ⟨g, cap, cur, h1, h2, (hb g (by rw [h1]; rfl)).trans h3, h4⟩
theorem RowS.lt (h : RowS S T sz R lo hi w v l) : ∀ r, v.ownBlock = some r → lo ≤ r ∧ r < hi ∧ r < w.heap.size := by
 obtain ⟨xs, ho, hh, -⟩ := h
 intro r hr
 exact ⟨(ho.lt r hr).1, hh r hr, (ho.lt r hr).2⟩
theorem RowS.keep (h : RowS S T sz R lo hi w v l) (k : Keep S w w') (hb : ∀ r, v.ownBlock = some r → w'.heap[r]? = w.heap[r]?) : RowS S T sz R lo hi w' v l := by
 obtain ⟨xs, ho, hh, hel⟩ := h
 refine ⟨xs, ownsRow_at ho hb, hh, fun i x hx => ?_⟩
 obtain ⟨ds, h1, h2, h3⟩ := hel i x hx
 exact ⟨ds, h1, h2, h3.keep k⟩
theorem RowS.ext (h : RowS S T sz R lo hi w v l) (k : Ext w w') : RowS S T sz R lo hi w' v l := h.keep (k.keep S) (fun r hr => k.block r (h.lt r hr).2.2)
theorem RowS.mono (h : RowS S T sz R lo hi w v l) (hs : ∀ k, k < w.heap.size → S k → S' k) : RowS S' T sz R lo hi w v l := by
 obtain ⟨xs, ho, hh, hel⟩ := h
 refine ⟨xs, ho, hh, fun i x hx => ?_⟩
 obtain ⟨ds, h1, h2, h3⟩ := hel i x hx
 exact ⟨ds, h1, h2, h3.mono hs⟩
theorem RowS.bounds (h : RowS S T sz R lo hi w v l) {lo' hi' : Nat} (h1 : lo' ≤ lo) (h2 : hi ≤ hi') : RowS S T sz R lo' hi' w v l := by
 obtain ⟨xs, ho, hh, hel⟩ := h
 refine ⟨xs, ⟨ho.1, ?_⟩, fun r hr => Nat.lt_of_lt_of_le (hh r hr) h2, hel⟩
 rcases ho.2 with h3 | ⟨g, cap, cur, g1, g2, g3⟩
 ·exact .inl h3
 ·exact .inr ⟨g, cap, cur, g1, Nat.le_trans h1 g2, g3⟩
theorem RowS.imp {β : Type} {R' : World → List Value → β → Prop} {f : α → β} (h : RowS S T sz R lo hi w v l) (hR : ∀ w ds x, R w ds x → R' w ds (f x)) : RowS S T sz R' lo hi w v (l.map f) := by
 obtain ⟨xs, ho, hh, hel⟩ := h
 refine ⟨xs, by rw [List.length_map]; exact ho, hh, fun i x hx => ?_⟩
 rw [List.getElem?_map] at hx
 obtain ⟨y, hy, rfl⟩ := Option.map_eq_some_iff.1 hx
 obtain ⟨ds, h1, h2, h3⟩ := hel i y hy
 exact ⟨ds, h1, h2, h3.imp fun w _ h => hR w _ _ h⟩
theorem RowS.form (h : RowS S T sz R lo hi w v l) : ∃ A c, v = .slice A l.length c := by
 obtain ⟨xs, ho, -⟩ := h
 rcases ho.2 with ⟨rfl, hn⟩ | ⟨g, cap, cur, rfl, -⟩
 ·exact ⟨none, 0, by rw [hn]⟩
 ·exact ⟨_, _, rfl⟩
theorem RowS.of_const {R0 : List Value → α → Prop} (h : RowOf T sz (fun _ => R0) lo w v l) (hR : ∀ w ds x, R0 ds x → R w ds x) (hh : w.heap.size ≤ hi) : RowS S T sz R lo hi w v l := by
 have hlt := h.lt
 obtain ⟨xs, ho, hel⟩ := h
 refine ⟨xs, ho, fun r hr => Nat.lt_of_lt_of_le (hlt r hr).2 hh, fun i x hx' => ?_⟩
 obtain ⟨ds, h1, h2, h3⟩ := hel i x hx'
 exact ⟨ds, h1, h2, fun w'' _ => hR w'' ds x h3.out⟩
/-- Other data, read by another relation. -/
theorem RowS.re {β : Type} {R' : World → List Value → β → Prop} {l' : List β} (h : RowS S T sz R lo hi w v l) (hl : l'.length = l.length) (hr : ∀ (k : Nat) (x : α) (x' : β), l[k]? = some x → l'[k]? = some x' → ∀ ds, On S (fun w => R w ds x) w → On S' (fun w => R' w ds x') w) : RowS S' T sz R' lo hi w v l' := by
 obtain ⟨xs, ho, hh, hel⟩ := h
 refine ⟨xs, by rw [hl]; exact ho, hh, fun i x' hi => ?_⟩
 have hlt := (List.getElem?_eq_some_iff.1 hi).1
 obtain ⟨ds, h1, h2, h3⟩ := hel i _ (List.getElem?_eq_getElem (by omega))
 exact ⟨ds, h1, h2, hr i _ _ (List.getElem?_eq_getElem (by omega)) hi ds h3⟩
/-- One of the elements. -/
theorem RowS.at_ {A : Option Addr} {n c : Nat} (h : RowS S T sz R lo hi w (.slice A n c) l) {k : Nat} (hk : k < l.length) :
  ∃ r ds, A = some ⟨r, 0, none⟩ ∧ lo ≤ r ∧ r < hi ∧ r < w.heap.size ∧ n = l.length ∧ n ≤ c ∧ ds.length = sz ∧ (∀ j u, ds[j]? = some u → w.cell? ⟨r, k * sz + j, none⟩ = some u) ∧ (∀ j, w.frozen? ⟨r, j, none⟩ = false) ∧ On S (fun w => R w ds l[k]) w := by
 obtain ⟨xs, ho, hh, hel⟩ := h
 rcases ho.2 with ⟨h1, h2⟩ | ⟨g, cap, cur, h1, hb, hg, hcap, hcm, hcs, htk⟩
 ·omega
 ·injection h1 with e1 e2 e3
  subst e1 e2 e3
  obtain ⟨ds, d1, d2, d3⟩ := hel k _ (List.getElem?_eq_getElem hk)
  refine ⟨g, ds, rfl, hb, hh g rfl, (Array.getElem?_eq_some_iff.1 hg).1, rfl, hcap, d1, fun j u hj => ?_, fun j => ?_, d3⟩
  ·have h6 := d2 j u hj
   rw [← htk, List.getElem?_take] at h6
   split at h6
   ·rw [cell_of_row w g _ cur _ _ hg]
    simpa using h6
   ·cases h6
  ·simp [World.frozen?, hg]
theorem RowS.len {A : Option Addr} {n c : Nat} (h : RowS S T sz R lo hi w (.slice A n c) l) : n = l.length := by
 obtain ⟨A', c', h1⟩ := h.form
 injection h1
/-- One cell of a row. -/
theorem ownsRow_set {base n r o : Nat} {A : Option Addr} {m c : Nat} {xs : List Value} (h : w.ownsRow base T sz (.slice A m c) n xs) (hr : A = some ⟨r, 0, none⟩) (ho : o < n * sz) (u : Value) : (w.setCell ⟨r, o, none⟩ u).ownsRow base T sz (.slice A m c) n (xs.set o u) := by
 refine ⟨by rw [List.length_set]; exact h.1, ?_⟩
 rcases h.2 with h1 | ⟨g, cap, cur, h1, h2, h3, h4, h5, h6, h7⟩
 ·exact .inl h1
 ·injection h1 with e1 e2 e3
  rw [hr] at e1
  injection e1 with e1
  injection e1 with e1 _ _
  subst e1 e2 e3
  refine .inr ⟨r, c, cur.setIfInBounds o u, by rw [hr], h2, ?_, h4, h5, by rw [Array.size_setIfInBounds]; exact h6, ?_⟩
  ·simp [World.setCell, Array.getElem?_modify, h3]
  ·rw [Array.toList_setIfInBounds, List.take_set, h7]
theorem ownsRow_sets {base n r : Nat} {A : Option Addr} {m c : Nat} (hr : A = some ⟨r, 0, none⟩) : ∀ (us : List Value) (o : Nat) (w : World) (xs : List Value), w.ownsRow base T sz (.slice A m c) n xs → o + us.length ≤ n * sz →
  ∃ ys, (w.setCells r o us).ownsRow base T sz (.slice A m c) n ys ∧ (∀ j, j < o ∨ o + us.length ≤ j → ys[j]? = xs[j]?) ∧ (∀ j u, us[j]? = some u → ys[o + j]? = some u)
 | [], o, w, xs, h, _ => ⟨xs, h, fun _ _ => rfl, fun j u hj => by simp at hj⟩
 | a :: us, o, w, xs, h, hl => by
  obtain ⟨ys, h1, h2, h3⟩ := ownsRow_sets hr us (o + 1) _ _ (ownsRow_set h hr (o := o) (by simp at hl; omega) a) (by simp at hl; omega)
  refine ⟨ys, h1, fun j hj => ?_, fun j u hj => ?_⟩
  ·rw [h2 j (by simp at hj; omega), List.getElem?_set_ne (by simp at hj; omega)]
  ·rcases j with _ | j
   ·simp at hj
    subst hj
    rw [Nat.add_zero, h2 o (by omega), List.getElem?_set_self]
    have := h.1
    rw [this]; simp at hl; omega
   ·have := h3 j u (by simpa using hj)
    rwa [show o + 1 + j = o + (j + 1) by omega] at this
theorem Keep.sets {a : World} (r : Nat) (hr : r < a.heap.size → ¬ S r) : ∀ (us : List Value) (o : Nat) (w : World), Keep S a w → Keep S a (w.setCells r o us)
 | [], _, _, h => h
 | u :: us, o, _, h => Keep.sets r hr us (o + 1) _ (h.pset ⟨r, o, none⟩ u hr)
theorem size_sets (r : Nat) : ∀ (us : List Value) (o : Nat) (w : World), (w.setCells r o us).heap.size = w.heap.size
 | [], _, _ => rfl
 | _ :: us, o, _ => (size_sets r us (o + 1) _).trans (by simp [World.setCell])
theorem Ext.sets {a : World} (r : Nat) (hr : a.heap.size ≤ r) : ∀ (us : List Value) (o : Nat) (w : World), Ext a w → Ext a (w.setCells r o us)
 | [], _, _, h => h
 | u :: us, o, _, h => Ext.sets r hr us (o + 1) _ (h.pset hr u)
/-- Some of an element's cells are stored anew. -/
theorem RowS.put {r m c k j0 : Nat} {us : List Value} (h : RowS S T sz R lo hi w (.slice (some ⟨r, 0, none⟩) m c) l) (hk : k < l.length) (hj : j0 + us.length ≤ sz) (hr : ¬ S r) {x' : α}
  (hx : ∀ ds, ds.length = sz → On S (fun w => R w ds l[k]) w → ∀ ds', ds'.length = sz → (∀ j, j < j0 ∨ j0 + us.length ≤ j → ds'[j]? = ds[j]?) → (∀ j u, us[j]? = some u → ds'[j0 + j]? = some u) → On S (fun w => R w ds' x') w) :
  RowS S T sz R lo hi (w.setCells r (k * sz + j0) us) (.slice (some ⟨r, 0, none⟩) m c) (l.set k x') := by
 obtain ⟨xs, ho, hh, hel⟩ := h
 have hks : (k + 1) * sz ≤ l.length * sz := Nat.mul_le_mul_right sz hk
 rw [Nat.add_mul, Nat.one_mul] at hks
 obtain ⟨ys, g1, g2, g3⟩ := ownsRow_sets rfl us (k * sz + j0) w xs ho (by omega)
 have hK : Keep S w (w.setCells r (k * sz + j0) us) := Keep.sets r (fun _ => hr) us _ w (Keep.refl _ _)
 have hyl : ys.length = l.length * sz := g1.1
 refine ⟨ys, by rw [List.length_set]; exact g1, hh, fun i x hi => ?_⟩
 by_cases hik : i = k
 ·subst hik
  rw [List.getElem?_set_self hk] at hi
  injection hi with hi
  subst hi
  obtain ⟨ds, d1, d2, d3⟩ := hel i _ (List.getElem?_eq_getElem hk)
  have hd' : ∀ j, j < sz → ((ys.drop (i * sz)).take sz)[j]? = ys[i * sz + j]? := fun j hj => by rw [List.getElem?_take_of_lt hj, List.getElem?_drop]
  refine ⟨(ys.drop (i * sz)).take sz, by rw [List.length_take, List.length_drop]; omega, fun j u hju => ?_, (hx ds d1 d3 _ (by rw [List.length_take, List.length_drop]; omega) (fun j hjj => ?_) (fun j u hju => ?_)).keep hK⟩
  ·have hjs : j < sz := by
    have := (List.getElem?_eq_some_iff.1 hju).1
    rw [List.length_take] at this; omega
   rwa [hd' j hjs] at hju
  ·rcases Nat.lt_or_ge j sz with hjs | hjs
   ·rw [hd' j hjs, g2 _ (by omega)]
    rw [List.getElem?_eq_getElem (by omega : j < ds.length)]
    exact d2 j _ (List.getElem?_eq_getElem (by omega))
   ·rw [List.getElem?_eq_none (by rw [List.length_take]; omega), List.getElem?_eq_none (by omega)]
  ·have hju' := (List.getElem?_eq_some_iff.1 hju).1
   rw [hd' _ (by omega)]
   have := g3 j u hju
   rwa [show i * sz + j0 + j = i * sz + (j0 + j) by omega] at this
 ·rw [List.getElem?_set_ne (by omega)] at hi
  obtain ⟨ds, d1, d2, d3⟩ := hel i x hi
  refine ⟨ds, d1, fun j u hju => ?_, d3.keep hK⟩
  have hjs := (List.getElem?_eq_some_iff.1 hju).1
  rw [g2]
  ·exact d2 j u hju
  ·rcases Nat.lt_or_gt_of_ne hik with h1 | h1
   ·have := Nat.mul_le_mul_right sz (show i + 1 ≤ k from h1)
    rw [Nat.add_mul] at this; omega
   ·have := Nat.mul_le_mul_right sz (show k + 1 ≤ i from h1)
    rw [Nat.add_mul] at this; omega
/-- The slice as data. -/
theorem RowS.arr (h : RowS S T sz R lo hi w v l) (hl : l.length ≤ 1000000) (hS : ∀ r, v.ownBlock = some r → S' r) (hSS : ∀ k, k < w.heap.size → S k → S' k) : On S' (fun w => ArrAt sz R w v l) w := by
 intro w' hk
 have hlt := h.lt
 have h' := h.keep (hk.mono hSS) (fun r hr => hk.block r (hlt r hr).2.2 (hS r hr))
 obtain ⟨xs, ho, -, hel⟩ := h'
 rcases ho.2 with ⟨rfl, hn⟩ | ⟨g, cap, cur, rfl, hb, hg, hcap, hcm, hcs, htk⟩
 ·obtain rfl := List.eq_nil_of_length_eq_zero hn
  exact ArrAt.nil
 ·refine ⟨some ⟨g, 0, none⟩, cap, rfl, hcap, by omega, fun _ => ⟨g, 0, rfl, (Array.getElem?_eq_some_iff.1 hg).1, fun k x hk => ?_⟩⟩
  obtain ⟨ds, h1, h2, h3⟩ := hel k x hk
  refine ⟨ds, h1, fun j u hj => ?_, h3.out⟩
  have h6 := h2 j u hj
  rw [← htk, List.getElem?_take] at h6
  split at h6
  ·rw [cell_of_row w' g _ cur _ _ hg, Nat.zero_add]
   simpa using h6
  ·cases h6
end
theorem ArrAt.old {α : Type} {sz : Nat} {R : World → List Value → α → Prop} {w0 w : World} {v : Value} {xs : List α} (h : ArrAt sz R w0 v xs) (hx : Ext w0 w) : ArrAt sz (fun _ => R w0) w v xs := by
 obtain ⟨A, c, hv, hl, hm, hc⟩ := h
 refine ⟨A, c, hv, hl, hm, fun hne => ?_⟩
 obtain ⟨b, off, hA, hb, hk⟩ := hc hne
 refine ⟨b, off, hA, Nat.lt_of_lt_of_le hb hx.size, fun k x hkx => ?_⟩
 obtain ⟨cs, hcs, hcell, hr'⟩ := hk k x hkx
 exact ⟨cs, hcs, fun j u hj => (hx.cell (p := ⟨b, off + (k * sz + j), none⟩) hb).trans (hcell j u hj), hr'⟩
/-- Slices of words, as slices of elements. -/
theorem Words.arr {w : World} {v : Value} {xs : List Nat} (h : Words w v xs) : ArrAt 1 WordR w v xs := by
 obtain ⟨A, c, hv, hl, hm, hL, hc⟩ := h
 refine ⟨A, c, hv, hl, hm, fun hne => ?_⟩
 obtain ⟨b, off, hA, hb, hk⟩ := hc (List.length_pos_iff.2 hne)
 refine ⟨b, off, hA, hb, fun k x hx => ?_⟩
 obtain ⟨hkl, hx'⟩ := List.getElem?_eq_some_iff.1 hx
 refine ⟨[.int .u32 (x : Int)], rfl, fun j u hj => ?_, rfl, hL x (by rw [← hx']; exact List.getElem_mem hkl)⟩
 rcases j with _ | j
 ·simp at hj
  subst hj
  have := hk k hkl
  rw [List.getD_eq_getElem?_getD, hx] at this
  simpa using this
 ·simp at hj
theorem ArrAt.words {w : World} {v : Value} {xs : List Nat} (h : ArrAt 1 WordR w v xs) : Words w v xs := by
 obtain ⟨A, c, hv, hl, hm, hc⟩ := h
 have hel : ∀ (hne : xs ≠ []) k (hk : k < xs.length), ∃ b off, A = some ⟨b, off, none⟩ ∧ b < w.heap.size ∧ w.cell? ⟨b, off + k, none⟩ = some (.int .u32 ((xs.getD k 0 : Nat) : Int)) ∧ xs[k] < 4294967296 := by
  intro hne k hk
  obtain ⟨b, off, hA, hb, hx⟩ := hc hne
  obtain ⟨cs, h1, h2, h3, h4⟩ := hx k _ (List.getElem?_eq_getElem hk)
  refine ⟨b, off, hA, hb, ?_, h4⟩
  rw [h3] at h2
  have := h2 0 _ rfl
  rw [List.getD_eq_getElem?_getD, List.getElem?_eq_getElem hk]
  simpa using this
 refine ⟨A, c, hv, hl, hm, fun x hx => ?_, fun h0 => ?_⟩
 ·obtain ⟨k, hk, rfl⟩ := List.mem_iff_getElem.1 hx
  obtain ⟨_, _, _, _, _, h4⟩ := hel (by intro e; rw [e] at hk; simp at hk) k hk
  exact h4
 ·have hne : xs ≠ [] := List.length_pos_iff.1 h0
  obtain ⟨b, off, hA, hb, -⟩ := hc hne
  refine ⟨b, off, hA, hb, fun k hk => ?_⟩
  obtain ⟨b', off', hA', -, h3, -⟩ := hel hne k hk
  rw [hA] at hA'
  injection hA' with hA'
  injection hA' with e1 e2 _
  subst e1 e2
  exact h3
end Go.Proofs.YtonleohlplkglaaGreatDoor
namespace Go.Proofs.YtonleohlplkglaaGreatDoor
open Go Go.RowKit
theorem one_pt : ∀ (w : World) (ds : List Value) (x : PtI), PtR w ds x → ∀ u ∈ ds, u.oneCell' = true := by
 rintro w ds x ⟨a, b, c, d, rfl, h1, h2, h3, h4⟩ u hu
 obtain ⟨_, _, rfl, _⟩ := h1.form
 obtain ⟨_, _, rfl, _⟩ := h2.form
 obtain ⟨_, _, rfl, _⟩ := h3.form
 obtain ⟨_, _, rfl, _⟩ := h4.form
 simp only [List.mem_cons, List.not_mem_nil, or_false] at hu
 rcases hu with rfl | rfl | rfl | rfl | rfl | rfl | rfl | rfl <;> rfl
theorem one_rd : ∀ (w : World) (ds : List Value) (x : RdI), RdR w ds x → ∀ u ∈ ds, u.oneCell' = true := by
 rintro w ds x ⟨a, b, rfl, h1, h2⟩ u hu
 obtain ⟨_, _, rfl, _⟩ := h1.form
 obtain ⟨_, _, rfl, _⟩ := h2.form
 simp only [List.mem_cons, List.not_mem_nil, or_false] at hu
 rcases hu with rfl | rfl | rfl | rfl | rfl <;> rfl
theorem one_sg : ∀ (w : World) (ds : List Value) (x : SgI), SgR w ds x → ∀ u ∈ ds, u.oneCell' = true := by
 intro w ds x h u hu
 rw [show ds = _ from h] at hu
 simp only [List.mem_cons, List.not_mem_nil, or_false] at hu
 rcases hu with rfl | rfl <;> rfl
theorem one_ar : ∀ (w : World) (ds : List Value) (x : ArI), ArR w ds x → ∀ u ∈ ds, u.oneCell' = true := by
 intro w ds x h u hu
 rw [show ds = _ from h] at hu
 simp only [List.mem_cons, List.not_mem_nil, or_false] at hu
 rcases hu with rfl | rfl | rfl | rfl <;> rfl
theorem one_pc : ∀ (w : World) (ds : List Value) (x : PcI), PcR w ds x → ∀ u ∈ ds, u.oneCell' = true := by
 intro w ds x h u hu
 rw [show ds = _ from h] at hu
 simp only [List.mem_cons, List.not_mem_nil, or_false] at hu
 rcases hu with rfl | rfl | rfl <;> rfl
theorem one_ch : ∀ (w : World) (ds : List Value) (x : List PcI), ChR w ds x → ∀ u ∈ ds, u.oneCell' = true := by
 rintro w ds x ⟨v, rfl, h⟩ u hu
 obtain ⟨_, _, rfl, _⟩ := h.form
 simp only [List.mem_cons, List.not_mem_nil, or_false] at hu
 subst hu; rfl
theorem one_cn {K : Nat} : ∀ (w : World) (ds : List Value) (x : CI), ConR K w ds x → ∀ u ∈ ds, u.oneCell' = true := ConR.one
theorem one_it : ∀ (w : World) (ds : List Value) (x : Int), IntR w ds x → ∀ u ∈ ds, u.oneCell' = true := by
 intro w ds x h u hu
 rw [show ds = _ from h] at hu
 simp only [List.mem_cons, List.not_mem_nil, or_false] at hu
 subst hu; rfl
theorem one_wd : ∀ (w : World) (ds : List Value) (x : Nat), WordR w ds x → ∀ u ∈ ds, u.oneCell' = true := by
 intro w ds x h u hu
 rw [h.1] at hu
 simp only [List.mem_cons, List.not_mem_nil, or_false] at hu
 subst hu; rfl
theorem one_ex {K : Nat} : ∀ (w : World) (ds : List Value) (x : EI), ExprR K w ds x → ∀ u ∈ ds, u.oneCell' = true := by
 intro w ds x h u hu
 cases K with
 | zero => exact h.elim
 | succ K =>
  obtain ⟨a, b, c, rfl, h1, h2, A, cp, rfl, -⟩ := h
  obtain ⟨_, _, rfl, _⟩ := h1.form
  obtain ⟨_, _, rfl, _⟩ := h2.form
  simp only [List.mem_cons, List.not_mem_nil, or_false] at hu
  rcases hu with rfl | rfl | rfl | rfl | rfl | rfl | rfl <;> rfl
theorem inf_Point : (Tryz.prog.info? 40).map (fun i => (i.zero, i.size, i.bytes)) = some (some (.agg #[.bool false, .slice none 0 0, .bool false, .slice none 0 0, .bool false, .slice none 0 0, .bool false, .slice none 0 0]), 8, 128) := by kernel_rfl
set_option maxHeartbeats 800000 in
theorem clone_Point {α : Type} {R0 : List Value → α → Prop} {v : Value} {xs : List α} {w : World} (h : ArrAt 8 (fun _ => R0) w v xs) (hone : ∀ ds x, R0 ds x → ∀ u ∈ ds, u.oneCell' = true) (hl : xs.length ≤ 1000000) :
  Calls Tryz.prog 112 #[v] w (Ret w fun r w' => RowOf 40 8 (fun _ => R0) w.heap.size w' r xs) := by
 obtain ⟨A, c, rfl, hl1, hm⟩ := h.form
 have qn : ∀ (w : World) (a : Option Addr) (n c n' c' : Nat), (binOp .eql 22 (.slice a n c) (.slice none n' c')).run Tryz.prog w = .ok (.bool a.isNone) w := fun w a n c n' c' => Lib.run_eql_slice_nil w _ _ a n c n' c' Tryz.underlying22
 have HL := Lib.hid hl
 clear hl hl1 hm
 cases A with
 | none =>
  have HX : Hid (xs = []) := by
   show xs = []
   obtain ⟨A', c', hv, -, -, hc⟩ := h
   injection hv with h1 h2 h3
   by_cases hne : xs = []
   ·exact hne
   ·obtain ⟨b, off, hA, -⟩ := hc hne
    rw [hA] at h1; cases h1
  clear h hone HL
  go_enter Tryz.func112, Tryz.ntmps112
  go_wp2_with fail
  go_ret
  exact ⟨_, rfl, by rw [HX.out]; exact RowOf.nil, (by repeat first|exact xA _|assumption|refine xB ?_ _|refine xC ?_|refine xD ?_ _|refine xE ?_ (by simp <;> omega) _|refine xF ?_ (by assumption))⟩
 | some a =>
  have HR0 : Hid (RowOf 40 8 (fun _ => R0) w.heap.size (w.alloc (.cells #[] 40)) (.slice (some ⟨w.heap.size, 0, none⟩) 0 0) ([] : List α)) := ⟨[], World.ownsRow_made w #[] 0 (Nat.le_refl _) (by unfold maxLen; omega) (by simp), fun k x hk => by simp at hk⟩
  have HS0 := Lib.hid (h.const (Ext.alloc w (.cells #[] 40)) (some w.heap.size))
  have HONE : Hid (∀ (w' : World) (ds : List Value) (x : α), R0 ds x → ∀ u ∈ ds, u.oneCell' = true) := fun _ ds x h => hone ds x h
  clear h hone
  obtain ⟨i0, hi, hz0, hz1, hz2⟩ := info_parts inf_Point
  go_enter Tryz.func112, Tryz.ntmps112
  go_wp2_with (at_builtin; refine wpList_append_row _ rfl _ _ 22 rfl 40 i0 (.agg #[.bool false, .slice none 0 0, .bool false, .slice none 0 0, .bool false, .slice none 0 0, .bool false, .slice none 0 0]) 8 128 Tryz.underlying22 hi hz0 hz1 hz2 rfl (by decide) _ rfl HR0.out _ rfl HS0.out HONE.out (by have := HL.out; unfold maxLen; simp; omega) (by have := HL.out; simp; omega) (by simp) ?_; intro A c w2 hrow2 hg2 hat2)
  go_ret
  rw [List.nil_append] at hrow2
  exact ⟨_, rfl, by simpa using hrow2, ext_grown hg2 (Ext.alloc _ _) (fun r hr => by have h1 : some w.heap.size = some r := hr; injection h1 with h1; omega)⟩
theorem inf_Round : (Tryz.prog.info? 66).map (fun i => (i.zero, i.size, i.bytes)) = some (some (.agg #[.int .i64 0, .bool false, .slice none 0 0, .bool false, .slice none 0 0]), 5, 72) := by kernel_rfl
set_option maxHeartbeats 800000 in
theorem clone_Round {α : Type} {R0 : List Value → α → Prop} {v : Value} {xs : List α} {w : World} (h : ArrAt 5 (fun _ => R0) w v xs) (hone : ∀ ds x, R0 ds x → ∀ u ∈ ds, u.oneCell' = true) (hl : xs.length ≤ 1000000) :
  Calls Tryz.prog 113 #[v] w (Ret w fun r w' => RowOf 66 5 (fun _ => R0) w.heap.size w' r xs) := by
 obtain ⟨A, c, rfl, hl1, hm⟩ := h.form
 have qn : ∀ (w : World) (a : Option Addr) (n c n' c' : Nat), (binOp .eql 23 (.slice a n c) (.slice none n' c')).run Tryz.prog w = .ok (.bool a.isNone) w := fun w a n c n' c' => Lib.run_eql_slice_nil w _ _ a n c n' c' Tryz.underlying23
 have HL := Lib.hid hl
 clear hl hl1 hm
 cases A with
 | none =>
  have HX : Hid (xs = []) := by
   show xs = []
   obtain ⟨A', c', hv, -, -, hc⟩ := h
   injection hv with h1 h2 h3
   by_cases hne : xs = []
   ·exact hne
   ·obtain ⟨b, off, hA, -⟩ := hc hne
    rw [hA] at h1; cases h1
  clear h hone HL
  go_enter Tryz.func113, Tryz.ntmps113
  go_wp2_with fail
  go_ret
  exact ⟨_, rfl, by rw [HX.out]; exact RowOf.nil, (by repeat first|exact xA _|assumption|refine xB ?_ _|refine xC ?_|refine xD ?_ _|refine xE ?_ (by simp <;> omega) _|refine xF ?_ (by assumption))⟩
 | some a =>
  have HR0 : Hid (RowOf 66 5 (fun _ => R0) w.heap.size (w.alloc (.cells #[] 66)) (.slice (some ⟨w.heap.size, 0, none⟩) 0 0) ([] : List α)) := ⟨[], World.ownsRow_made w #[] 0 (Nat.le_refl _) (by unfold maxLen; omega) (by simp), fun k x hk => by simp at hk⟩
  have HS0 := Lib.hid (h.const (Ext.alloc w (.cells #[] 66)) (some w.heap.size))
  have HONE : Hid (∀ (w' : World) (ds : List Value) (x : α), R0 ds x → ∀ u ∈ ds, u.oneCell' = true) := fun _ ds x h => hone ds x h
  clear h hone
  obtain ⟨i0, hi, hz0, hz1, hz2⟩ := info_parts inf_Round
  go_enter Tryz.func113, Tryz.ntmps113
  go_wp2_with (at_builtin; refine wpList_append_row _ rfl _ _ 23 rfl 66 i0 (.agg #[.int .i64 0, .bool false, .slice none 0 0, .bool false, .slice none 0 0]) 5 72 Tryz.underlying23 hi hz0 hz1 hz2 rfl (by decide) _ rfl HR0.out _ rfl HS0.out HONE.out (by have := HL.out; unfold maxLen; simp; omega) (by have := HL.out; simp; omega) (by simp) ?_; intro A c w2 hrow2 hg2 hat2)
  go_ret
  rw [List.nil_append] at hrow2
  exact ⟨_, rfl, by simpa using hrow2, ext_grown hg2 (Ext.alloc _ _) (fun r hr => by have h1 : some w.heap.size = some r := hr; injection h1 with h1; omega)⟩
theorem inf_Segment : (Tryz.prog.info? 42).map (fun i => (i.zero, i.size, i.bytes)) = some (some (.agg #[.int .i64 0, .int .i64 0]), 2, 16) := by kernel_rfl
set_option maxHeartbeats 800000 in
theorem clone_Segment {α : Type} {R0 : List Value → α → Prop} {v : Value} {xs : List α} {w : World} (h : ArrAt 2 (fun _ => R0) w v xs) (hone : ∀ ds x, R0 ds x → ∀ u ∈ ds, u.oneCell' = true) (hl : xs.length ≤ 1000000) :
  Calls Tryz.prog 114 #[v] w (Ret w fun r w' => RowOf 42 2 (fun _ => R0) w.heap.size w' r xs) := by
 obtain ⟨A, c, rfl, hl1, hm⟩ := h.form
 have qn : ∀ (w : World) (a : Option Addr) (n c n' c' : Nat), (binOp .eql 24 (.slice a n c) (.slice none n' c')).run Tryz.prog w = .ok (.bool a.isNone) w := fun w a n c n' c' => Lib.run_eql_slice_nil w _ _ a n c n' c' Tryz.underlying24
 have HL := Lib.hid hl
 clear hl hl1 hm
 cases A with
 | none =>
  have HX : Hid (xs = []) := by
   show xs = []
   obtain ⟨A', c', hv, -, -, hc⟩ := h
   injection hv with h1 h2 h3
   by_cases hne : xs = []
   ·exact hne
   ·obtain ⟨b, off, hA, -⟩ := hc hne
    rw [hA] at h1; cases h1
  clear h hone HL
  go_enter Tryz.func114, Tryz.ntmps114
  go_wp2_with fail
  go_ret
  exact ⟨_, rfl, by rw [HX.out]; exact RowOf.nil, (by repeat first|exact xA _|assumption|refine xB ?_ _|refine xC ?_|refine xD ?_ _|refine xE ?_ (by simp <;> omega) _|refine xF ?_ (by assumption))⟩
 | some a =>
  have HR0 : Hid (RowOf 42 2 (fun _ => R0) w.heap.size (w.alloc (.cells #[] 42)) (.slice (some ⟨w.heap.size, 0, none⟩) 0 0) ([] : List α)) := ⟨[], World.ownsRow_made w #[] 0 (Nat.le_refl _) (by unfold maxLen; omega) (by simp), fun k x hk => by simp at hk⟩
  have HS0 := Lib.hid (h.const (Ext.alloc w (.cells #[] 42)) (some w.heap.size))
  have HONE : Hid (∀ (w' : World) (ds : List Value) (x : α), R0 ds x → ∀ u ∈ ds, u.oneCell' = true) := fun _ ds x h => hone ds x h
  clear h hone
  obtain ⟨i0, hi, hz0, hz1, hz2⟩ := info_parts inf_Segment
  go_enter Tryz.func114, Tryz.ntmps114
  go_wp2_with (at_builtin; refine wpList_append_row _ rfl _ _ 24 rfl 42 i0 (.agg #[.int .i64 0, .int .i64 0]) 2 16 Tryz.underlying24 hi hz0 hz1 hz2 rfl (by decide) _ rfl HR0.out _ rfl HS0.out HONE.out (by have := HL.out; unfold maxLen; simp; omega) (by have := HL.out; simp; omega) (by simp) ?_; intro A c w2 hrow2 hg2 hat2)
  go_ret
  rw [List.nil_append] at hrow2
  exact ⟨_, rfl, by simpa using hrow2, ext_grown hg2 (Ext.alloc _ _) (fun r hr => by have h1 : some w.heap.size = some r := hr; injection h1 with h1; omega)⟩
theorem inf_Arc : (Tryz.prog.info? 81).map (fun i => (i.zero, i.size, i.bytes)) = some (some (.agg #[.int .i64 0, .int .i64 0, .int .i64 0, .bool false]), 4, 32) := by kernel_rfl
set_option maxHeartbeats 800000 in
theorem clone_Arc {α : Type} {R0 : List Value → α → Prop} {v : Value} {xs : List α} {w : World} (h : ArrAt 4 (fun _ => R0) w v xs) (hone : ∀ ds x, R0 ds x → ∀ u ∈ ds, u.oneCell' = true) (hl : xs.length ≤ 1000000) :
  Calls Tryz.prog 115 #[v] w (Ret w fun r w' => RowOf 81 4 (fun _ => R0) w.heap.size w' r xs) := by
 obtain ⟨A, c, rfl, hl1, hm⟩ := h.form
 have qn : ∀ (w : World) (a : Option Addr) (n c n' c' : Nat), (binOp .eql 25 (.slice a n c) (.slice none n' c')).run Tryz.prog w = .ok (.bool a.isNone) w := fun w a n c n' c' => Lib.run_eql_slice_nil w _ _ a n c n' c' Tryz.underlying25
 have HL := Lib.hid hl
 clear hl hl1 hm
 cases A with
 | none =>
  have HX : Hid (xs = []) := by
   show xs = []
   obtain ⟨A', c', hv, -, -, hc⟩ := h
   injection hv with h1 h2 h3
   by_cases hne : xs = []
   ·exact hne
   ·obtain ⟨b, off, hA, -⟩ := hc hne
    rw [hA] at h1; cases h1
  clear h hone HL
  go_enter Tryz.func115, Tryz.ntmps115
  go_wp2_with fail
  go_ret
  exact ⟨_, rfl, by rw [HX.out]; exact RowOf.nil, (by repeat first|exact xA _|assumption|refine xB ?_ _|refine xC ?_|refine xD ?_ _|refine xE ?_ (by simp <;> omega) _|refine xF ?_ (by assumption))⟩
 | some a =>
  have HR0 : Hid (RowOf 81 4 (fun _ => R0) w.heap.size (w.alloc (.cells #[] 81)) (.slice (some ⟨w.heap.size, 0, none⟩) 0 0) ([] : List α)) := ⟨[], World.ownsRow_made w #[] 0 (Nat.le_refl _) (by unfold maxLen; omega) (by simp), fun k x hk => by simp at hk⟩
  have HS0 := Lib.hid (h.const (Ext.alloc w (.cells #[] 81)) (some w.heap.size))
  have HONE : Hid (∀ (w' : World) (ds : List Value) (x : α), R0 ds x → ∀ u ∈ ds, u.oneCell' = true) := fun _ ds x h => hone ds x h
  clear h hone
  obtain ⟨i0, hi, hz0, hz1, hz2⟩ := info_parts inf_Arc
  go_enter Tryz.func115, Tryz.ntmps115
  go_wp2_with (at_builtin; refine wpList_append_row _ rfl _ _ 25 rfl 81 i0 (.agg #[.int .i64 0, .int .i64 0, .int .i64 0, .bool false]) 4 32 Tryz.underlying25 hi hz0 hz1 hz2 rfl (by decide) _ rfl HR0.out _ rfl HS0.out HONE.out (by have := HL.out; unfold maxLen; simp; omega) (by have := HL.out; simp; omega) (by simp) ?_; intro A c w2 hrow2 hg2 hat2)
  go_ret
  rw [List.nil_append] at hrow2
  exact ⟨_, rfl, by simpa using hrow2, ext_grown hg2 (Ext.alloc _ _) (fun r hr => by have h1 : some w.heap.size = some r := hr; injection h1 with h1; omega)⟩
theorem inf_Chain : (Tryz.prog.info? 43).map (fun i => (i.zero, i.size, i.bytes)) = some (some (.slice none 0 0), 1, 24) := by kernel_rfl
set_option maxHeartbeats 800000 in
theorem clone_Chain {α : Type} {R0 : List Value → α → Prop} {v : Value} {xs : List α} {w : World} (h : ArrAt 1 (fun _ => R0) w v xs) (hone : ∀ ds x, R0 ds x → ∀ u ∈ ds, u.oneCell' = true) (hl : xs.length ≤ 1000000) :
  Calls Tryz.prog 116 #[v] w (Ret w fun r w' => RowOf 43 1 (fun _ => R0) w.heap.size w' r xs) := by
 obtain ⟨A, c, rfl, hl1, hm⟩ := h.form
 have qn : ∀ (w : World) (a : Option Addr) (n c n' c' : Nat), (binOp .eql 26 (.slice a n c) (.slice none n' c')).run Tryz.prog w = .ok (.bool a.isNone) w := fun w a n c n' c' => Lib.run_eql_slice_nil w _ _ a n c n' c' Tryz.underlying26
 have HL := Lib.hid hl
 clear hl hl1 hm
 cases A with
 | none =>
  have HX : Hid (xs = []) := by
   show xs = []
   obtain ⟨A', c', hv, -, -, hc⟩ := h
   injection hv with h1 h2 h3
   by_cases hne : xs = []
   ·exact hne
   ·obtain ⟨b, off, hA, -⟩ := hc hne
    rw [hA] at h1; cases h1
  clear h hone HL
  go_enter Tryz.func116, Tryz.ntmps116
  go_wp2_with fail
  go_ret
  exact ⟨_, rfl, by rw [HX.out]; exact RowOf.nil, (by repeat first|exact xA _|assumption|refine xB ?_ _|refine xC ?_|refine xD ?_ _|refine xE ?_ (by simp <;> omega) _|refine xF ?_ (by assumption))⟩
 | some a =>
  have HR0 : Hid (RowOf 43 1 (fun _ => R0) w.heap.size (w.alloc (.cells #[] 43)) (.slice (some ⟨w.heap.size, 0, none⟩) 0 0) ([] : List α)) := ⟨[], World.ownsRow_made w #[] 0 (Nat.le_refl _) (by unfold maxLen; omega) (by simp), fun k x hk => by simp at hk⟩
  have HS0 := Lib.hid (h.const (Ext.alloc w (.cells #[] 43)) (some w.heap.size))
  have HONE : Hid (∀ (w' : World) (ds : List Value) (x : α), R0 ds x → ∀ u ∈ ds, u.oneCell' = true) := fun _ ds x h => hone ds x h
  clear h hone
  obtain ⟨i0, hi, hz0, hz1, hz2⟩ := info_parts inf_Chain
  go_enter Tryz.func116, Tryz.ntmps116
  go_wp2_with (at_builtin; refine wpList_append_row _ rfl _ _ 26 rfl 43 i0 (.slice none 0 0) 1 24 Tryz.underlying26 hi hz0 hz1 hz2 rfl (by decide) _ rfl HR0.out _ rfl HS0.out HONE.out (by have := HL.out; unfold maxLen; simp; omega) (by have := HL.out; simp; omega) (by simp) ?_; intro A c w2 hrow2 hg2 hat2)
  go_ret
  rw [List.nil_append] at hrow2
  exact ⟨_, rfl, by simpa using hrow2, ext_grown hg2 (Ext.alloc _ _) (fun r hr => by have h1 : some w.heap.size = some r := hr; injection h1 with h1; omega)⟩
theorem inf_Con : (Tryz.prog.info? 52).map (fun i => (i.zero, i.size, i.bytes)) = some (some (.agg #[.int .i64 0, .slice none 0 0, .slice none 0 0, .slice none 0 0, .int .i64 0]), 5, 88) := by kernel_rfl
set_option maxHeartbeats 800000 in
theorem clone_Con {α : Type} {R0 : List Value → α → Prop} {v : Value} {xs : List α} {w : World} (h : ArrAt 5 (fun _ => R0) w v xs) (hone : ∀ ds x, R0 ds x → ∀ u ∈ ds, u.oneCell' = true) (hl : xs.length ≤ 1000000) :
  Calls Tryz.prog 117 #[v] w (Ret w fun r w' => RowOf 52 5 (fun _ => R0) w.heap.size w' r xs) := by
 obtain ⟨A, c, rfl, hl1, hm⟩ := h.form
 have qn : ∀ (w : World) (a : Option Addr) (n c n' c' : Nat), (binOp .eql 27 (.slice a n c) (.slice none n' c')).run Tryz.prog w = .ok (.bool a.isNone) w := fun w a n c n' c' => Lib.run_eql_slice_nil w _ _ a n c n' c' Tryz.underlying27
 have HL := Lib.hid hl
 clear hl hl1 hm
 cases A with
 | none =>
  have HX : Hid (xs = []) := by
   show xs = []
   obtain ⟨A', c', hv, -, -, hc⟩ := h
   injection hv with h1 h2 h3
   by_cases hne : xs = []
   ·exact hne
   ·obtain ⟨b, off, hA, -⟩ := hc hne
    rw [hA] at h1; cases h1
  clear h hone HL
  go_enter Tryz.func117, Tryz.ntmps117
  go_wp2_with fail
  go_ret
  exact ⟨_, rfl, by rw [HX.out]; exact RowOf.nil, (by repeat first|exact xA _|assumption|refine xB ?_ _|refine xC ?_|refine xD ?_ _|refine xE ?_ (by simp <;> omega) _|refine xF ?_ (by assumption))⟩
 | some a =>
  have HR0 : Hid (RowOf 52 5 (fun _ => R0) w.heap.size (w.alloc (.cells #[] 52)) (.slice (some ⟨w.heap.size, 0, none⟩) 0 0) ([] : List α)) := ⟨[], World.ownsRow_made w #[] 0 (Nat.le_refl _) (by unfold maxLen; omega) (by simp), fun k x hk => by simp at hk⟩
  have HS0 := Lib.hid (h.const (Ext.alloc w (.cells #[] 52)) (some w.heap.size))
  have HONE : Hid (∀ (w' : World) (ds : List Value) (x : α), R0 ds x → ∀ u ∈ ds, u.oneCell' = true) := fun _ ds x h => hone ds x h
  clear h hone
  obtain ⟨i0, hi, hz0, hz1, hz2⟩ := info_parts inf_Con
  go_enter Tryz.func117, Tryz.ntmps117
  go_wp2_with (at_builtin; refine wpList_append_row _ rfl _ _ 27 rfl 52 i0 (.agg #[.int .i64 0, .slice none 0 0, .slice none 0 0, .slice none 0 0, .int .i64 0]) 5 88 Tryz.underlying27 hi hz0 hz1 hz2 rfl (by decide) _ rfl HR0.out _ rfl HS0.out HONE.out (by have := HL.out; unfold maxLen; simp; omega) (by have := HL.out; simp; omega) (by simp) ?_; intro A c w2 hrow2 hg2 hat2)
  go_ret
  rw [List.nil_append] at hrow2
  exact ⟨_, rfl, by simpa using hrow2, ext_grown hg2 (Ext.alloc _ _) (fun r hr => by have h1 : some w.heap.size = some r := hr; injection h1 with h1; omega)⟩
theorem inf_Piece : (Tryz.prog.info? 45).map (fun i => (i.zero, i.size, i.bytes)) = some (some (.agg #[.bool false, .int .i64 0, .bool false]), 3, 24) := by kernel_rfl
set_option maxHeartbeats 800000 in
theorem clone_Piece {α : Type} {R0 : List Value → α → Prop} {v : Value} {xs : List α} {w : World} (h : ArrAt 3 (fun _ => R0) w v xs) (hone : ∀ ds x, R0 ds x → ∀ u ∈ ds, u.oneCell' = true) (hl : xs.length ≤ 1000000) :
  Calls Tryz.prog 119 #[v] w (Ret w fun r w' => RowOf 45 3 (fun _ => R0) w.heap.size w' r xs) := by
 obtain ⟨A, c, rfl, hl1, hm⟩ := h.form
 have qn : ∀ (w : World) (a : Option Addr) (n c n' c' : Nat), (binOp .eql 43 (.slice a n c) (.slice none n' c')).run Tryz.prog w = .ok (.bool a.isNone) w := fun w a n c n' c' => Lib.run_eql_slice_nil w _ _ a n c n' c' Tryz.underlying43
 have HL := Lib.hid hl
 clear hl hl1 hm
 cases A with
 | none =>
  have HX : Hid (xs = []) := by
   show xs = []
   obtain ⟨A', c', hv, -, -, hc⟩ := h
   injection hv with h1 h2 h3
   by_cases hne : xs = []
   ·exact hne
   ·obtain ⟨b, off, hA, -⟩ := hc hne
    rw [hA] at h1; cases h1
  clear h hone HL
  go_enter Tryz.func119, Tryz.ntmps119
  go_wp2_with fail
  go_ret
  exact ⟨_, rfl, by rw [HX.out]; exact RowOf.nil, (by repeat first|exact xA _|assumption|refine xB ?_ _|refine xC ?_|refine xD ?_ _|refine xE ?_ (by simp <;> omega) _|refine xF ?_ (by assumption))⟩
 | some a =>
  have HR0 : Hid (RowOf 45 3 (fun _ => R0) w.heap.size (w.alloc (.cells #[] 45)) (.slice (some ⟨w.heap.size, 0, none⟩) 0 0) ([] : List α)) := ⟨[], World.ownsRow_made w #[] 0 (Nat.le_refl _) (by unfold maxLen; omega) (by simp), fun k x hk => by simp at hk⟩
  have HS0 := Lib.hid (h.const (Ext.alloc w (.cells #[] 45)) (some w.heap.size))
  have HONE : Hid (∀ (w' : World) (ds : List Value) (x : α), R0 ds x → ∀ u ∈ ds, u.oneCell' = true) := fun _ ds x h => hone ds x h
  clear h hone
  obtain ⟨i0, hi, hz0, hz1, hz2⟩ := info_parts inf_Piece
  go_enter Tryz.func119, Tryz.ntmps119
  go_wp2_with (at_builtin; refine wpList_append_row _ rfl _ _ 43 rfl 45 i0 (.agg #[.bool false, .int .i64 0, .bool false]) 3 24 Tryz.underlying43 hi hz0 hz1 hz2 rfl (by decide) _ rfl HR0.out _ rfl HS0.out HONE.out (by have := HL.out; unfold maxLen; simp; omega) (by have := HL.out; simp; omega) (by simp) ?_; intro A c w2 hrow2 hg2 hat2)
  go_ret
  rw [List.nil_append] at hrow2
  exact ⟨_, rfl, by simpa using hrow2, ext_grown hg2 (Ext.alloc _ _) (fun r hr => by have h1 : some w.heap.size = some r := hr; injection h1 with h1; omega)⟩
theorem inf_Int : (Tryz.prog.info? 3).map (fun i => (i.zero, i.size, i.bytes)) = some (some (.int .i64 0), 1, 8) := by kernel_rfl
set_option maxHeartbeats 800000 in
theorem clone_Int {α : Type} {R0 : List Value → α → Prop} {v : Value} {xs : List α} {w : World} (h : ArrAt 1 (fun _ => R0) w v xs) (hone : ∀ ds x, R0 ds x → ∀ u ∈ ds, u.oneCell' = true) (hl : xs.length ≤ 1000000) :
  Calls Tryz.prog 120 #[v] w (Ret w fun r w' => RowOf 3 1 (fun _ => R0) w.heap.size w' r xs) := by
 obtain ⟨A, c, rfl, hl1, hm⟩ := h.form
 have qn : ∀ (w : World) (a : Option Addr) (n c n' c' : Nat), (binOp .eql 49 (.slice a n c) (.slice none n' c')).run Tryz.prog w = .ok (.bool a.isNone) w := fun w a n c n' c' => Lib.run_eql_slice_nil w _ _ a n c n' c' Tryz.underlying49
 have HL := Lib.hid hl
 clear hl hl1 hm
 cases A with
 | none =>
  have HX : Hid (xs = []) := by
   show xs = []
   obtain ⟨A', c', hv, -, -, hc⟩ := h
   injection hv with h1 h2 h3
   by_cases hne : xs = []
   ·exact hne
   ·obtain ⟨b, off, hA, -⟩ := hc hne
    rw [hA] at h1; cases h1
  clear h hone HL
  go_enter Tryz.func120, Tryz.ntmps120
  go_wp2_with fail
  go_ret
  exact ⟨_, rfl, by rw [HX.out]; exact RowOf.nil, (by repeat first|exact xA _|assumption|refine xB ?_ _|refine xC ?_|refine xD ?_ _|refine xE ?_ (by simp <;> omega) _|refine xF ?_ (by assumption))⟩
 | some a =>
  have HR0 : Hid (RowOf 3 1 (fun _ => R0) w.heap.size (w.alloc (.cells #[] 3)) (.slice (some ⟨w.heap.size, 0, none⟩) 0 0) ([] : List α)) := ⟨[], World.ownsRow_made w #[] 0 (Nat.le_refl _) (by unfold maxLen; omega) (by simp), fun k x hk => by simp at hk⟩
  have HS0 := Lib.hid (h.const (Ext.alloc w (.cells #[] 3)) (some w.heap.size))
  have HONE : Hid (∀ (w' : World) (ds : List Value) (x : α), R0 ds x → ∀ u ∈ ds, u.oneCell' = true) := fun _ ds x h => hone ds x h
  clear h hone
  obtain ⟨i0, hi, hz0, hz1, hz2⟩ := info_parts inf_Int
  go_enter Tryz.func120, Tryz.ntmps120
  go_wp2_with (at_builtin; refine wpList_append_row _ rfl _ _ 49 rfl 3 i0 (.int .i64 0) 1 8 Tryz.underlying49 hi hz0 hz1 hz2 rfl (by decide) _ rfl HR0.out _ rfl HS0.out HONE.out (by have := HL.out; unfold maxLen; simp; omega) (by have := HL.out; simp; omega) (by simp) ?_; intro A c w2 hrow2 hg2 hat2)
  go_ret
  rw [List.nil_append] at hrow2
  exact ⟨_, rfl, by simpa using hrow2, ext_grown hg2 (Ext.alloc _ _) (fun r hr => by have h1 : some w.heap.size = some r := hr; injection h1 with h1; omega)⟩
theorem inf_Expr : (Tryz.prog.info? 69).map (fun i => (i.zero, i.size, i.bytes)) = some (some (.agg #[.int .i64 0, .bool false, .slice none 0 0, .bool false, .slice none 0 0, .string ⟨#[]⟩, .slice none 0 0]), 7, 112) := by kernel_rfl
set_option maxHeartbeats 800000 in
theorem clone_Expr {α : Type} {R0 : List Value → α → Prop} {v : Value} {xs : List α} {w : World} (h : ArrAt 7 (fun _ => R0) w v xs) (hone : ∀ ds x, R0 ds x → ∀ u ∈ ds, u.oneCell' = true) (hl : xs.length ≤ 1000000) :
  Calls Tryz.prog 121 #[v] w (Ret w fun r w' => RowOf 69 7 (fun _ => R0) w.heap.size w' r xs) := by
 obtain ⟨A, c, rfl, hl1, hm⟩ := h.form
 have qn : ∀ (w : World) (a : Option Addr) (n c n' c' : Nat), (binOp .eql 50 (.slice a n c) (.slice none n' c')).run Tryz.prog w = .ok (.bool a.isNone) w := fun w a n c n' c' => Lib.run_eql_slice_nil w _ _ a n c n' c' Tryz.underlying50
 have HL := Lib.hid hl
 clear hl hl1 hm
 cases A with
 | none =>
  have HX : Hid (xs = []) := by
   show xs = []
   obtain ⟨A', c', hv, -, -, hc⟩ := h
   injection hv with h1 h2 h3
   by_cases hne : xs = []
   ·exact hne
   ·obtain ⟨b, off, hA, -⟩ := hc hne
    rw [hA] at h1; cases h1
  clear h hone HL
  go_enter Tryz.func121, Tryz.ntmps121
  go_wp2_with fail
  go_ret
  exact ⟨_, rfl, by rw [HX.out]; exact RowOf.nil, (by repeat first|exact xA _|assumption|refine xB ?_ _|refine xC ?_|refine xD ?_ _|refine xE ?_ (by simp <;> omega) _|refine xF ?_ (by assumption))⟩
 | some a =>
  have HR0 : Hid (RowOf 69 7 (fun _ => R0) w.heap.size (w.alloc (.cells #[] 69)) (.slice (some ⟨w.heap.size, 0, none⟩) 0 0) ([] : List α)) := ⟨[], World.ownsRow_made w #[] 0 (Nat.le_refl _) (by unfold maxLen; omega) (by simp), fun k x hk => by simp at hk⟩
  have HS0 := Lib.hid (h.const (Ext.alloc w (.cells #[] 69)) (some w.heap.size))
  have HONE : Hid (∀ (w' : World) (ds : List Value) (x : α), R0 ds x → ∀ u ∈ ds, u.oneCell' = true) := fun _ ds x h => hone ds x h
  clear h hone
  obtain ⟨i0, hi, hz0, hz1, hz2⟩ := info_parts inf_Expr
  go_enter Tryz.func121, Tryz.ntmps121
  go_wp2_with (at_builtin; refine wpList_append_row _ rfl _ _ 50 rfl 69 i0 (.agg #[.int .i64 0, .bool false, .slice none 0 0, .bool false, .slice none 0 0, .string ⟨#[]⟩, .slice none 0 0]) 7 112 Tryz.underlying50 hi hz0 hz1 hz2 rfl (by decide) _ rfl HR0.out _ rfl HS0.out HONE.out (by have := HL.out; unfold maxLen; simp; omega) (by have := HL.out; simp; omega) (by simp) ?_; intro A c w2 hrow2 hg2 hat2)
  go_ret
  rw [List.nil_append] at hrow2
  exact ⟨_, rfl, by simpa using hrow2, ext_grown hg2 (Ext.alloc _ _) (fun r hr => by have h1 : some w.heap.size = some r := hr; injection h1 with h1; omega)⟩
theorem inf_Word : (Tryz.prog.info? 142).map (fun i => (i.zero, i.size, i.bytes)) = some (some (.int .u32 0), 1, 4) := by kernel_rfl
set_option maxHeartbeats 800000 in
theorem clone_Word {α : Type} {R0 : List Value → α → Prop} {v : Value} {xs : List α} {w : World} (h : ArrAt 1 (fun _ => R0) w v xs) (hone : ∀ ds x, R0 ds x → ∀ u ∈ ds, u.oneCell' = true) (hl : xs.length ≤ 1000000) :
  Calls Tryz.prog 134 #[v] w (Ret w fun r w' => RowOf 142 1 (fun _ => R0) w.heap.size w' r xs) := by
 obtain ⟨A, c, rfl, hl1, hm⟩ := h.form
 have qn : ∀ (w : World) (a : Option Addr) (n c n' c' : Nat), (binOp .eql 34 (.slice a n c) (.slice none n' c')).run Tryz.prog w = .ok (.bool a.isNone) w := fun w a n c n' c' => Lib.run_eql_slice_nil w _ _ a n c n' c' Tryz.underlying34
 have HL := Lib.hid hl
 clear hl hl1 hm
 cases A with
 | none =>
  have HX : Hid (xs = []) := by
   show xs = []
   obtain ⟨A', c', hv, -, -, hc⟩ := h
   injection hv with h1 h2 h3
   by_cases hne : xs = []
   ·exact hne
   ·obtain ⟨b, off, hA, -⟩ := hc hne
    rw [hA] at h1; cases h1
  clear h hone HL
  go_enter Tryz.func134, Tryz.ntmps134
  go_wp2_with fail
  go_ret
  exact ⟨_, rfl, by rw [HX.out]; exact RowOf.nil, (by repeat first|exact xA _|assumption|refine xB ?_ _|refine xC ?_|refine xD ?_ _|refine xE ?_ (by simp <;> omega) _|refine xF ?_ (by assumption))⟩
 | some a =>
  have HR0 : Hid (RowOf 142 1 (fun _ => R0) w.heap.size (w.alloc (.cells #[] 142)) (.slice (some ⟨w.heap.size, 0, none⟩) 0 0) ([] : List α)) := ⟨[], World.ownsRow_made w #[] 0 (Nat.le_refl _) (by unfold maxLen; omega) (by simp), fun k x hk => by simp at hk⟩
  have HS0 := Lib.hid (h.const (Ext.alloc w (.cells #[] 142)) (some w.heap.size))
  have HONE : Hid (∀ (w' : World) (ds : List Value) (x : α), R0 ds x → ∀ u ∈ ds, u.oneCell' = true) := fun _ ds x h => hone ds x h
  clear h hone
  obtain ⟨i0, hi, hz0, hz1, hz2⟩ := info_parts inf_Word
  go_enter Tryz.func134, Tryz.ntmps134
  go_wp2_with (at_builtin; refine wpList_append_row _ rfl _ _ 34 rfl 142 i0 (.int .u32 0) 1 4 Tryz.underlying34 hi hz0 hz1 hz2 rfl (by decide) _ rfl HR0.out _ rfl HS0.out HONE.out (by have := HL.out; unfold maxLen; simp; omega) (by have := HL.out; simp; omega) (by simp) ?_; intro A c w2 hrow2 hg2 hat2)
  go_ret
  rw [List.nil_append] at hrow2
  exact ⟨_, rfl, by simpa using hrow2, ext_grown hg2 (Ext.alloc _ _) (fun r hr => by have h1 : some w.heap.size = some r := hr; injection h1 with h1; omega)⟩
end Go.Proofs.YtonleohlplkglaaGreatDoor
namespace Go.Proofs.YtonleohlplkglaaGreatDoor
open Go Go.RowKit
/-- From the base on. -/
abbrev From (b : Nat) : Nat → Prop := fun k => b ≤ k
theorem clone_Words {v : Value} {xs : List Nat} {w : World} (h : Words w v xs) (hl : xs.length ≤ 1000000) :
  Calls Tryz.prog 134 #[v] w (Ret w fun r w' => ∃ A c, r = .slice A xs.length c ∧ On (From w.heap.size) (fun w => Words w r xs) w') := by
 refine (clone_Word (h.arr.old (Ext.refl w)) (one_wd w) hl).mono ?_
 rintro e w' ⟨r, rfl, hr, hx⟩
 refine ⟨r, rfl, ?_, hx⟩
 obtain ⟨A, c, rfl⟩ := hr.form
 have hlt := hr.lt
 have h1 : RowS (From w.heap.size) 142 1 WordR w.heap.size w'.heap.size w' (.slice A xs.length c) xs := RowS.of_const hr (fun _ _ _ h => h) (Nat.le_refl _)
 exact ⟨A, c, rfl, (h1.arr hl (fun r hr' => (hlt r hr').1) (fun k _ hk => hk)).imp fun w'' _ h => h.words⟩
theorem put13' {w3 : World} {g g' : Nat} {x0 x1 x2 x3 u v : Value} {cs : List Value} (h : CellsAt w3 g [x0, x1, x2, x3]) (h' : CellsAt w3 g' cs) (hg : g ≠ g') :
  CellsAt ((w3.setCell ⟨g, 1, none⟩ u).setCell ⟨g, 3, none⟩ v) g [x0, u, x2, v] ∧ CellsAt ((w3.setCell ⟨g, 1, none⟩ u).setCell ⟨g, 3, none⟩ v) g' cs := by
 refine ⟨⟨by simpa [World.setCell] using h.1, fun i y hi => ?_⟩, ⟨by simpa [World.setCell] using h'.1, fun i y hi => ?_⟩⟩
 ·match i, hi with
  | 0, hi => (cases hi; rw [cell_set_off (by decide), cell_set_off (by decide)]; exact h.2 0 _ rfl)
  | 1, hi => (cases hi; rw [cell_set_off (by decide)]; exact World.cell?_setCell_same _ _ _ (h.2 1 _ rfl))
  | 2, hi => (cases hi; rw [cell_set_off (by decide), cell_set_off (by decide)]; exact h.2 2 _ rfl)
  | 3, hi => (cases hi; exact World.cell?_setCell_same _ _ _ ((cell_set_off (by decide)).trans (h.2 3 _ rfl)))
  | i + 4, hi => simp at hi
 ·rw [cell_set_blk hg, cell_set_blk hg]; exact h'.2 i y hi
/-- What a copy of a rational reads as. -/
def RatOn (S : Nat → Prop) (q : QI) (r : Value) (w' : World) : Prop := ∃ A c A' c', r = .agg #[.bool q.num.neg, .slice A q.num.mag.length c, .bool q.den.neg, .slice A' q.den.mag.length c'] ∧ On S (fun w => Words w (.slice A q.num.mag.length c) q.num.mag) w' ∧ On S (fun w => Words w (.slice A' q.den.mag.length c') q.den.mag) w'
theorem RatOn.mono {S S' : Nat → Prop} {q : QI} {r : Value} {w : World} (h : RatOn S q r w) (hs : ∀ k, k < w.heap.size → S k → S' k) : RatOn S' q r w := by
 obtain ⟨A, c, A', c', h1, h2, h3⟩ := h
 exact ⟨A, c, A', c', h1, h2.mono hs, h3.mono hs⟩
theorem RatOn.keep {S : Nat → Prop} {q : QI} {r : Value} {w w' : World} (h : RatOn S q r w) (hk : Keep S w w') : RatOn S q r w' := by
 obtain ⟨A, c, A', c', h1, h2, h3⟩ := h
 exact ⟨A, c, A', c', h1, h2.keep hk, h3.keep hk⟩
set_option maxRecDepth 100000 in
set_option maxHeartbeats 1600000 in
theorem sketch_cloneRat {q : QI} {v v' : Value} {w : World} (h : Words w v q.num.mag) (h' : Words w v' q.den.mag) (hl : q.num.mag.length ≤ 1000000) (hl' : q.den.mag.length ≤ 1000000) :
  Calls Tryz.prog 118 #[.agg #[.bool q.num.neg, v, .bool q.den.neg, v']] w (Ret w (RatOn (From w.heap.size) q)) := by
 obtain ⟨A, c, rfl, hl1, hm⟩ := h.form
 obtain ⟨A', c', rfl, hl1', hm'⟩ := h'.form
 have HC1 := Lib.hid (fun w1 (hx : Ext w w1) => clone_Words (h.ext hx) hl)
 have HC2 := Lib.hid (fun w1 (hx : Ext w w1) => clone_Words (h'.ext hx) hl')
 have HR : Hid (∀ r w', (∃ A c A' c', r = .agg #[.bool q.num.neg, .slice A q.num.mag.length c, .bool q.den.neg, .slice A' q.den.mag.length c'] ∧ On (From w.heap.size) (fun w => Words w (.slice A q.num.mag.length c) q.num.mag) w' ∧ On (From w.heap.size) (fun w => Words w (.slice A' q.den.mag.length c') q.den.mag) w') → RatOn (From w.heap.size) q r w') := fun r w' h => h
 clear h h' hl hl'
 generalize RatOn (From w.heap.size) q = RO at *
 generalize q.num.neg = a at *
 generalize q.den.neg = b at *
 generalize q.num.mag = xs at *
 generalize q.den.mag = ys at *
 obtain ⟨n, hn⟩ : ∃ n, xs.length = n := ⟨_, rfl⟩
 obtain ⟨n', hn'⟩ : ∃ n, ys.length = n := ⟨_, rfl⟩
 rw [hn] at HC1 HR hl1 hm ⊢
 rw [hn'] at HC2 HR hl1' hm' ⊢
 clear hn hn'
 obtain ⟨W0, hW0⟩ : ∃ W0, ((w.alloc (.cells #[.bool a, .slice A n c, .bool b, .slice A' n' c'] 38)).alloc (.cells #[.bool false, .slice none 0 0, .bool false, .slice none 0 0] 38)) = W0 := ⟨_, rfl⟩
 have HB0 : Hid (CellsAt W0 w.heap.size [.bool a, .slice A n c, .bool b, .slice A' n' c']) := by rw [← hW0]; exact (CellsAt.new w _ _).ext (Ext.alloc _ _)
 have HR0 : Hid (CellsAt W0 (w.heap.size + 1) [.bool false, .slice none 0 0, .bool false, .slice none 0 0]) := by
  rw [← hW0]; have := CellsAt.new (w.alloc (.cells #[.bool a, .slice A n c, .bool b, .slice A' n' c'] 38)) [.bool false, .slice none 0 0, .bool false, .slice none 0 0] 38
  rwa [World.size_alloc] at this
 have hf0 : ∀ j, W0.frozen? ⟨w.heap.size, j, none⟩ = false ∧ W0.frozen? ⟨w.heap.size + 1, j, none⟩ = false := fun j => by rw [← hW0]; simp [go_sem]
 have HF0 : Hid (∀ W j, Ext W0 W → W.frozen? ⟨w.heap.size, j, none⟩ = false ∧ W.frozen? ⟨w.heap.size + 1, j, none⟩ = false) := fun W j hx => ⟨(Below.frozen hx HB0.out.1).trans (hf0 j).1, (Below.frozen hx HR0.out.1).trans (hf0 j).2⟩
 have HE0 : Hid (Ext w W0) := by rw [← hW0]; exact (by repeat first|exact xA _|assumption|refine xB ?_ _|refine xC ?_|refine xD ?_ _|refine xE ?_ (by simp <;> omega) _|refine xF ?_ (by assumption))
 have HZ0 : Hid (∀ W, Ext W0 W → w.heap.size + 2 ≤ W.heap.size) := fun W hx => by have := hx.size; rw [← hW0] at this; simpa using this
 have HW0 := Lib.hid hW0
 clear hW0 hf0
 go_enter Tryz.func118, Tryz.ntmps118
 go_upto_region 1 with fail
 rw [HW0.out]
 obtain ⟨y0, y1, y2, y3⟩ := HB0.out.four
 have hE0 := HE0.out
 go_cut [3] (fun _ wx => ∃ A1 c1 A2 c2, Hid ((CellsAt wx w.heap.size [.bool a, .slice A1 n c1, .bool b, .slice A2 n' c2] ∧ CellsAt wx (w.heap.size + 1) [.bool false, .slice none 0 0, .bool false, .slice none 0 0]) ∧ (∀ j, wx.frozen? ⟨w.heap.size + 1, j, none⟩ = false) ∧ Ext w wx ∧ On (From (w.heap.size + 2)) (fun w => Words w (.slice A1 n c1) xs) wx ∧ On (From (w.heap.size + 2)) (fun w => Words w (.slice A2 n' c2) ys) wx))
 case first =>
  go_region_with (first
   | (go_at_call_of 134 (Value.slice A n c); refine (HC1.out _ (by repeat first|exact xA _|assumption|refine xB ?_ _|refine xC ?_|refine xD ?_ _|refine xE ?_ (by simp <;> omega) _|refine xF ?_ (by assumption))).mono ?_; rintro e w2 ⟨r2, rfl, ⟨X1, k1, rfl, ho2⟩, hx2⟩; have HO2 := Lib.hid (ho2.mono (S' := From (w.heap.size + 2)) (fun k _ hk => Nat.le_trans (HZ0.out _ (by repeat first|exact xA _|assumption|refine xB ?_ _|refine xC ?_|refine xD ?_ _|refine xE ?_ (by simp <;> omega) _|refine xF ?_ (by assumption))) hk)); clear ho2; obtain ⟨p0, p1, p2, p3⟩ := (HB0.out.ext (w' := w2) (by repeat first|exact xA _|assumption|refine xB ?_ _|refine xC ?_|refine xD ?_ _|refine xE ?_ (by simp <;> omega) _|refine xF ?_ (by assumption))).four; have g1 := (HF0.out w2 1 (by repeat first|exact xA _|assumption|refine xB ?_ _|refine xC ?_|refine xD ?_ _|refine xE ?_ (by simp <;> omega) _|refine xF ?_ (by assumption))).1; have g3 := (HF0.out w2 3 (by repeat first|exact xA _|assumption|refine xB ?_ _|refine xC ?_|refine xD ?_ _|refine xE ?_ (by simp <;> omega) _|refine xF ?_ (by assumption))).1)
   | (go_at_call_of 134 (Value.slice A' n' c'); refine (HC2.out _ (by repeat first|exact xA _|assumption|refine xB ?_ _|refine xC ?_|refine xD ?_ _|refine xE ?_ (by simp <;> omega) _|refine xF ?_ (by assumption))).mono ?_; rintro e w3 ⟨r3, rfl, ⟨X2, k2, rfl, ho3⟩, hx3⟩; have HO3 := Lib.hid (ho3.mono (S' := From (w.heap.size + 2)) (fun k _ hk => Nat.le_trans (HZ0.out _ (by repeat first|exact xA _|assumption|refine xB ?_ _|refine xC ?_|refine xD ?_ _|refine xE ?_ (by simp <;> omega) _|refine xF ?_ (by assumption))) hk)); clear ho3; obtain ⟨p0', p1', p2', p3'⟩ := (HB0.out.ext (w' := w3) (by repeat first|exact xA _|assumption|refine xB ?_ _|refine xC ?_|refine xD ?_ _|refine xE ?_ (by simp <;> omega) _|refine xF ?_ (by assumption))).four; have g1' := (HF0.out w3 1 (by repeat first|exact xA _|assumption|refine xB ?_ _|refine xC ?_|refine xD ?_ _|refine xE ?_ (by simp <;> omega) _|refine xF ?_ (by assumption))).1; have g3' := (HF0.out w3 3 (by repeat first|exact xA _|assumption|refine xB ?_ _|refine xC ?_|refine xD ?_ _|refine xE ?_ (by simp <;> omega) _|refine xF ?_ (by assumption))).1))
  all_goals
   go_wp2_with fail
   go_meet
   have hE3 : Ext W0 w3 := (by repeat first|exact xA _|assumption|refine xB ?_ _|refine xC ?_|refine xD ?_ _|refine xE ?_ (by simp <;> omega) _|refine xF ?_ (by assumption))
   exact ⟨X1, k1, X2, k2, put13' (HB0.out.ext hE3) (HR0.out.ext hE3) (by omega), fun j => by rw [World.frozen?_setCell, World.frozen?_setCell]; exact (HF0.out w3 j hE3).2, ((hE0.trans hE3).pset (Nat.le_refl _) _).pset (Nat.le_refl _) _,
    (HO2.out.ext (w' := w3) (by repeat first|exact xA _|assumption|refine xB ?_ _|refine xC ?_|refine xD ?_ _|refine xE ?_ (by simp <;> omega) _|refine xF ?_ (by assumption))).keep (((Keep.refl _ _).pset _ _ (fun _ h => by have : w.heap.size + 2 ≤ w.heap.size := h; omega)).pset _ _ (fun _ h => by have : w.heap.size + 2 ≤ w.heap.size := h; omega)),
    HO3.out.keep (((Keep.refl _ _).pset _ _ (fun _ h => by have : w.heap.size + 2 ≤ w.heap.size := h; omega)).pset _ _ (fun _ h => by have : w.heap.size + 2 ≤ w.heap.size := h; omega))⟩
 case rest =>
  obtain ⟨A1, c1, A2, c2, HX⟩ := hcut
  obtain ⟨y0, y1, y2, y3⟩ := HX.out.1.1.four
  obtain ⟨z0, z1, z2, z3⟩ := HX.out.1.2.four
  have f0 := HX.out.2.1 0
  have f1 := HX.out.2.1 1
  have f2 := HX.out.2.1 2
  have f3 := HX.out.2.1 3
  have hE := HX.out.2.2.1
  have KS : w.heap.size + 1 < wc.heap.size → ¬ From (w.heap.size + 2) (w.heap.size + 1) := fun _ h => by have : w.heap.size + 2 ≤ w.heap.size + 1 := h; omega
  go_wp2_with fail
  refine bodyPost_ret (v := .agg #[.bool a, .slice A1 n c1, .bool b, .slice A2 n' c2]) ?_ rfl ⟨_, rfl, HR.out _ _ ⟨A1, c1, A2, c2, rfl, ?_, ?_⟩, ?_⟩
  ·simp [results, Tryz.results118, go_sem, z0, z1, z2, z3]
  ·exact (HX.out.2.2.2.1.keep (((((Keep.refl _ _).pset _ _ KS).pset _ _ KS).pset _ _ KS).pset _ _ KS)).mono (fun k _ hk => Nat.le_trans (Nat.le_add_right _ _) hk)
  ·exact (HX.out.2.2.2.2.keep (((((Keep.refl _ _).pset _ _ KS).pset _ _ KS).pset _ _ KS).pset _ _ KS)).mono (fun k _ hk => Nat.le_trans (Nat.le_add_right _ _) hk)
  ·exact (((hE.pset (by simp) _).pset (by simp) _).pset (by simp) _).pset (by simp) _
end Go.Proofs.YtonleohlplkglaaGreatDoor
namespace Go.Proofs.YtonleohlplkglaaGreatDoor
open Go Go.RowKit
/-- An element that is still the old one (as it lay in w0), or that has been copied. -/
def Fl {α : Type} (R : World → List Value → α → Prop) (w0 w : World) (ds : List Value) (x : α × Bool) : Prop := if x.2 then R w0 ds x.1 else R w ds x.1
/-- A constraint; the points' own row, if it has been copied; the values' own row, while they are being copied. -/
structure CX where
 c : CI
 pv : Option Value
 vv : Option Value
def ConX (K : Nat) (w0 w : World) (ds : List Value) (x : CX) : Prop := ∃ pv cv vv, ds = [.int .i64 x.c.kind, pv, cv, vv, .int .i64 x.c.side] ∧
 match x.pv with
 | none => Ints w0 pv x.c.points ∧ Ints w0 cv x.c.circles ∧ ArrAt 7 (ExprR K) w0 vv x.c.values
 | some p => pv = p ∧ Ints w cv x.c.circles ∧ match x.vv with
  | none => ArrAt 7 (ExprR K) w vv x.c.values
  | some q => vv = q
/-- The blocks on which copies may depend. -/
def Sx (hi : Nat) (l : List CX) (k : Nat) : Prop := hi ≤ k ∧ ∀ x ∈ l, (∀ p, x.pv = some p → p.ownBlock ≠ some k) ∧ (∀ q, x.vv = some q → q.ownBlock ≠ some k)
structure ClS (K : Nat) (w0 : World) (lo hh : Nat) (w : World) (v0 v1 v2 v3 v4 v5 : Value) (lp : List (PtI × Bool)) (lr : List (RdI × Bool)) (sg : List SgI) (ar : List ArI) (lc : List (List PcI × Bool)) (l : List CX) : Prop where
 hi : hh ≤ w.heap.size
 pts : RowS (Sx (hh) l) 40 8 (Fl PtR w0) lo hh w v0 lp
 rds : RowS (Sx (hh) l) 66 5 (Fl RdR w0) lo hh w v1 lr
 sgs : RowS (Sx (hh) l) 42 2 SgR lo hh w v2 sg
 ars : RowS (Sx (hh) l) 81 4 ArR lo hh w v3 ar
 chs : RowS (Sx (hh) l) 43 1 (Fl ChR w0) lo hh w v4 lc
 cns : RowS (Sx (hh) l) 52 5 (ConX K w0) lo hh w v5 l
 prow : ∀ (i : Nat) x p, l[i]? = some x → x.pv = some p → RowS (fun _ => False) 3 1 IntR (hh) w.heap.size w p x.c.points
 dst : ∀ (i j : Nat) a b r, i ≠ j → [v0, v1, v2, v3, v4, v5][i]? = some a → [v0, v1, v2, v3, v4, v5][j]? = some b → a.ownBlock = some r → b.ownBlock ≠ some r
 dis : ∀ (i j : Nat) x y p q r, i ≠ j → l[i]? = some x → l[j]? = some y → x.pv = some p → y.pv = some q → p.ownBlock = some r → q.ownBlock ≠ some r
 hot : ∀ (i j : Nat) x y p q r, l[i]? = some x → l[j]? = some y → x.pv = some p → y.vv = some q → p.ownBlock = some r → q.ownBlock ≠ some r
section
variable {α : Type} {S S' : Nat → Prop} {T sz lo hi : Nat} {R : World → List Value → α → Prop} {w w' : World} {v : Value} {l : List α}
theorem grownBy.keep {row : Option Nat} (hg : w.grownBy w' row) (hS : ∀ r, row = some r → ¬ S r) : Keep S w w' :=
 ⟨hg.os, hg.tape, hg.output, hg.size, fun k hk hs => hg.block k hk (by intro e; exact hS k e.symm hs)⟩
theorem RowS.far {row : Option Nat} (h : RowS S T sz R lo hi w v l) (hg : w.grownBy w' row) (hr : ∀ r, row = some r → v.ownBlock ≠ some r) (hS : ∀ r, row = some r → ¬ S r) : RowS S T sz R lo hi w' v l :=
 h.keep (grownBy.keep hg hS) (fun r hv => hg.block r (h.lt r hv).2.2 (by intro e; exact hr r e.symm hv))
theorem RowS.far' {row : Option Nat} (h : RowS S T sz R lo hi w v l) (hg : w.grownBy w' row) (hr : ∀ r, row = some r → r < lo ∨ hi ≤ r) (hS : ∀ r, row = some r → ¬ S r) : RowS S T sz R lo hi w' v l :=
 h.far hg (fun r e hv => by have h1 := h.lt r hv; have h2 := hr r e; omega) hS
theorem grownBy_sets (r : Nat) : ∀ (us : List Value) (o : Nat) (w : World), w.grownBy (w.setCells r o us) (some r)
 | us, o, w => by
  have h1 := Keep.sets (S := fun k => k ≠ r) (a := w) r (fun _ h => h rfl) us o w (Keep.refl _ _)
  exact ⟨h1.os, h1.tape, h1.output, h1.size, fun k hk hne => h1.block k hk (by intro e; exact hne (by rw [e]))⟩
end
section
variable {K : Nat} {w0 : World} {lo hh : Nat} {w w' : World} {v0 v1 v2 v3 v4 v5 : Value} {lp : List (PtI × Bool)} {lr : List (RdI × Bool)} {sg : List SgI} {ar : List ArI} {lc : List (List PcI × Bool)} {l : List CX}
theorem ClS.ext (h : ClS K w0 lo hh w v0 v1 v2 v3 v4 v5 lp lr sg ar lc l) (hx : Ext w w') : ClS K w0 lo hh w' v0 v1 v2 v3 v4 v5 lp lr sg ar lc l where
 hi := Nat.le_trans h.hi hx.size
 pts := h.pts.ext hx
 rds := h.rds.ext hx
 sgs := h.sgs.ext hx
 ars := h.ars.ext hx
 chs := h.chs.ext hx
 cns := h.cns.ext hx
 prow := fun i x p h1 h2 => ((h.prow i x p h1 h2).ext hx).bounds (Nat.le_refl _) hx.size
 dst := h.dst
 dis := h.dis
 hot := h.hot
theorem Sx.not {hi k : Nat} {l : List CX} (h : k < hi) : ¬ Sx hi l k := fun h' => by have := h'.1; omega
/-- The rows of the points, which lie behind all others. -/
theorem ClS.prow_far (h : ClS K w0 lo hh w v0 v1 v2 v3 v4 v5 lp lr sg ar lc l) {r : Nat} (hg : w.grownBy w' (some r)) (hr : r < hh) (i : Nat) (x : CX) (p : Value) (h1 : l[i]? = some x) (h2 : x.pv = some p) :
  RowS (fun _ => False) 3 1 IntR (hh) w'.heap.size w' p x.c.points :=
 ((h.prow i x p h1 h2).far' hg (fun r' e => by injection e with e; omega) (fun _ _ h => h)).bounds (Nat.le_refl _) hg.size
theorem ClS.put_pt (h : ClS K w0 lo hh w v0 v1 v2 v3 v4 v5 lp lr sg ar lc l) {r n c k : Nat} (hv : v0 = .slice (some ⟨r, 0, none⟩) n c) (hk : k < lp.length) {us : List Value} (hu : us.length = 8) (ho : On (Sx (hh) l) (fun w => PtR w us lp[k].1) w) :
  ClS K w0 lo hh (w.setCells r (k * 8) us) v0 v1 v2 v3 v4 v5 (lp.set k (lp[k].1, false)) lr sg ar lc l := by
 obtain ⟨hlo, hhi, -⟩ := h.pts.lt r (by rw [hv]; rfl)
 have hg := grownBy_sets r us (k * 8) w
 have hn : ∀ r', some r = some r' → ¬ Sx (hh) l r' := fun r' e => by injection e with e; exact Sx.not (by omega)
 have hp := h.pts
 rw [hv] at hp
 have hp' := hp.put (j0 := 0) (us := us) (x' := (lp[k].1, false)) hk (by omega) (Sx.not (by omega)) (fun ds g1 g2 ds' g3 g4 g5 => by
  have : ds' = us := by
   apply List.ext_getElem?
   intro j
   rcases Nat.lt_or_ge j us.length with h6 | h6
   ·rw [List.getElem?_eq_getElem h6]
    have := g5 j _ (List.getElem?_eq_getElem h6)
    rwa [Nat.zero_add] at this
   ·rw [List.getElem?_eq_none h6, List.getElem?_eq_none (by omega)]
  rw [this]; exact ho)
 rw [Nat.add_zero, ← hv] at hp'
 exact ⟨by rw [size_sets]; exact h.hi, hp', h.rds.far hg (fun r' e hb => h.dst 0 1 _ _ r' (by decide) rfl rfl (by rw [hv]; exact e) hb) hn, h.sgs.far hg (fun r' e hb => h.dst 0 2 _ _ r' (by decide) rfl rfl (by rw [hv]; exact e) hb) hn, h.ars.far hg (fun r' e hb => h.dst 0 3 _ _ r' (by decide) rfl rfl (by rw [hv]; exact e) hb) hn, h.chs.far hg (fun r' e hb => h.dst 0 4 _ _ r' (by decide) rfl rfl (by rw [hv]; exact e) hb) hn, h.cns.far hg (fun r' e hb => h.dst 0 5 _ _ r' (by decide) rfl rfl (by rw [hv]; exact e) hb) hn, h.prow_far hg (by omega), h.dst, h.dis, h.hot⟩
theorem ClS.put_rd (h : ClS K w0 lo hh w v0 v1 v2 v3 v4 v5 lp lr sg ar lc l) {r n c k : Nat} (hv : v1 = .slice (some ⟨r, 0, none⟩) n c) (hk : k < lr.length) {a b : Bool} {u u' : Value} (ha : a = lr[k].1.radius.num.neg) (hb : b = lr[k].1.radius.den.neg)
  (ho : On (Sx (hh) l) (fun w => Words w u lr[k].1.radius.num.mag) w) (ho' : On (Sx (hh) l) (fun w => Words w u' lr[k].1.radius.den.mag) w) :
  ClS K w0 lo hh (w.setCells r (k * 5 + 1) [.bool a, u, .bool b, u']) v0 v1 v2 v3 v4 v5 lp (lr.set k (lr[k].1, false)) sg ar lc l := by
 obtain ⟨hlo, hhi, -⟩ := h.rds.lt r (by rw [hv]; rfl)
 have hg := grownBy_sets r [.bool a, u, .bool b, u'] (k * 5 + 1) w
 have hn : ∀ r', some r = some r' → ¬ Sx (hh) l r' := fun r' e => by injection e with e; exact Sx.not (by omega)
 have hp := h.rds
 rw [hv] at hp
 have hp' := hp.put (j0 := 1) (us := [.bool a, u, .bool b, u']) (x' := (lr[k].1, false)) hk (by simp) (Sx.not (by omega)) (fun ds g1 g2 ds' g3 g4 g5 => by
  have e0 : ds'[0]? = some (.int .i64 lr[k].1.center) := by
   rw [g4 0 (by omega)]
   have := g2.out
   unfold Fl at this
   split at this
   ·obtain ⟨_, _, e, -⟩ := this; rw [e]; rfl
   ·obtain ⟨_, _, e, -⟩ := this; rw [e]; rfl
  have e1 := g5 0 _ rfl
  have e2 := g5 1 _ rfl
  have e3 := g5 2 _ rfl
  have e4 := g5 3 _ rfl
  have : ds' = [.int .i64 lr[k].1.center, .bool a, u, .bool b, u'] := by
   match ds', g3 with
   | [x0, x1, x2, x3, x4], _ => simp at e0 e1 e2 e3 e4; rw [e0, e1, e2, e3, e4]
  rw [this, ha, hb]
  exact fun w'' hk' => ⟨u, u', rfl, ho w'' hk', ho' w'' hk'⟩)
 rw [← hv] at hp'
 exact ⟨by rw [size_sets]; exact h.hi, h.pts.far hg (fun r' e hb => h.dst 1 0 _ _ r' (by decide) rfl rfl (by rw [hv]; exact e) hb) hn, hp', h.sgs.far hg (fun r' e hb => h.dst 1 2 _ _ r' (by decide) rfl rfl (by rw [hv]; exact e) hb) hn, h.ars.far hg (fun r' e hb => h.dst 1 3 _ _ r' (by decide) rfl rfl (by rw [hv]; exact e) hb) hn, h.chs.far hg (fun r' e hb => h.dst 1 4 _ _ r' (by decide) rfl rfl (by rw [hv]; exact e) hb) hn, h.cns.far hg (fun r' e hb => h.dst 1 5 _ _ r' (by decide) rfl rfl (by rw [hv]; exact e) hb) hn, h.prow_far hg (by omega), h.dst, h.dis, h.hot⟩
theorem ClS.put_ch (h : ClS K w0 lo hh w v0 v1 v2 v3 v4 v5 lp lr sg ar lc l) {r n c k : Nat} (hv : v4 = .slice (some ⟨r, 0, none⟩) n c) (hk : k < lc.length) {u : Value} (ho : On (Sx (hh) l) (fun w => ArrAt 3 PcR w u lc[k].1) w) :
  ClS K w0 lo hh (w.setCells r k [u]) v0 v1 v2 v3 v4 v5 lp lr sg ar (lc.set k (lc[k].1, false)) l := by
 obtain ⟨hlo, hhi, -⟩ := h.chs.lt r (by rw [hv]; rfl)
 have hg := grownBy_sets r [u] k w
 have hn : ∀ r', some r = some r' → ¬ Sx (hh) l r' := fun r' e => by injection e with e; exact Sx.not (by omega)
 have hp := h.chs
 rw [hv] at hp
 have hp' := hp.put (j0 := 0) (us := [u]) (x' := (lc[k].1, false)) hk (by simp) (Sx.not (by omega)) (fun ds g1 g2 ds' g3 g4 g5 => by
  have e1 := g5 0 _ rfl
  have : ds' = [u] := by
   match ds', g3 with
   | [x0], _ => simp at e1; rw [e1]
  rw [this]
  exact fun w'' hk' => ⟨u, rfl, ho w'' hk'⟩)
 rw [Nat.mul_one, Nat.add_zero, ← hv] at hp'
 exact ⟨by rw [size_sets]; exact h.hi, h.pts.far hg (fun r' e hb => h.dst 4 0 _ _ r' (by decide) rfl rfl (by rw [hv]; exact e) hb) hn, h.rds.far hg (fun r' e hb => h.dst 4 1 _ _ r' (by decide) rfl rfl (by rw [hv]; exact e) hb) hn, h.sgs.far hg (fun r' e hb => h.dst 4 2 _ _ r' (by decide) rfl rfl (by rw [hv]; exact e) hb) hn, h.ars.far hg (fun r' e hb => h.dst 4 3 _ _ r' (by decide) rfl rfl (by rw [hv]; exact e) hb) hn, hp', h.cns.far hg (fun r' e hb => h.dst 4 5 _ _ r' (by decide) rfl rfl (by rw [hv]; exact e) hb) hn, h.prow_far hg (by omega), h.dst, h.dis, h.hot⟩
theorem mem_of_getElem? {α : Type} {l : List α} {i : Nat} {x : α} (h : l[i]? = some x) : x ∈ l := List.mem_of_getElem? h
/-- The rows of a constraint are laid: its points and circles are copied, its values are about to be. -/
theorem ClS.put_cn (h : ClS K w0 lo hh w v0 v1 v2 v3 v4 v5 lp lr sg ar lc l) (hx : Ext w w') {r n c k : Nat} (hv : v5 = .slice (some ⟨r, 0, none⟩) n c) (hk : k < l.length) {pv cv vv : Value}
  (hp : RowS (fun _ => False) 3 1 IntR w.heap.size w'.heap.size w' pv l[k].c.points) (hvf : ∀ b, vv.ownBlock = some b → w.heap.size ≤ b) (hpv : ∀ b, pv.ownBlock = some b → vv.ownBlock ≠ some b)
  (hn : ∀ (i : Nat) x, l[i]? = some x → x.vv = none) (hn' : l[k].pv = none)
  (ho : On (Sx (hh) (l.set k ⟨l[k].c, some pv, some vv⟩)) (fun w => Ints w cv l[k].c.circles) w') :
  ClS K w0 lo hh (w'.setCells r (k * 5 + 1) [pv, cv, vv]) v0 v1 v2 v3 v4 v5 lp lr sg ar lc (l.set k ⟨l[k].c, some pv, some vv⟩) := by
 obtain ⟨hlo, hhi, hrs⟩ := h.cns.lt r (by rw [hv]; rfl)
 have hpl := hp.lt
 have hhi6 := h.hi
 -- what does not lie behind w depends on no new row
 have hS : ∀ j, j < w.heap.size → Sx (hh) l j → Sx (hh) (l.set k ⟨l[k].c, some pv, some vv⟩) j := by
  intro j hj hs
  refine ⟨hs.1, fun x hx' => ?_⟩
  rcases List.mem_or_eq_of_mem_set hx' with h6 | h6
  ·exact hs.2 x h6
  ·subst h6
   refine ⟨fun p e e' => ?_, fun q e e' => ?_⟩
   ·injection e with e; subst e
    have := (hpl j e').1; omega
   ·injection e with e; subst e
    have := hvf j e'; omega
 have hg := grownBy_sets r [pv, cv, vv] (k * 5 + 1) w'
 have hn6 : ∀ r', some r = some r' → ¬ Sx (hh) (l.set k ⟨l[k].c, some pv, some vv⟩) r' := fun r' e => by injection e with e; exact Sx.not (by omega)
 have hc := (h.cns.mono hS).ext hx
 rw [hv] at hc
 have hc' := hc.put (j0 := 1) (us := [pv, cv, vv]) (x' := ⟨l[k].c, some pv, some vv⟩) hk (by simp) (Sx.not (by omega)) (fun ds g1 g2 ds' g3 g4 g5 => by
  obtain ⟨pv0, cv0, vv0, e, -⟩ := g2.out
  have e0 := g4 0 (by omega)
  have e4 := g4 4 (by simp)
  rw [e] at e0 e4
  have e1 := g5 0 _ rfl
  have e2 := g5 1 _ rfl
  have e3 := g5 2 _ rfl
  have : ds' = [.int .i64 l[k].c.kind, pv, cv, vv, .int .i64 l[k].c.side] := by
   match ds', g3 with
   | [x0, x1, x2, x3, x4], _ => simp at e0 e1 e2 e3 e4; rw [e0, e1, e2, e3, e4]
  rw [this]
  exact fun w'' hk' => ⟨pv, cv, vv, rfl, rfl, ho w'' hk', rfl⟩)
 rw [← hv] at hc'
 have get : ∀ (i : Nat) x, (l.set k ⟨l[k].c, some pv, some vv⟩)[i]? = some x → (i = k ∧ x = ⟨l[k].c, some pv, some vv⟩) ∨ (i ≠ k ∧ l[i]? = some x) := by
  intro i x hi
  by_cases hik : i = k
  ·subst hik
   rw [List.getElem?_set_self hk] at hi
   injection hi with hi
   exact .inl ⟨rfl, hi.symm⟩
  ·rw [List.getElem?_set_ne (by omega)] at hi
   exact .inr ⟨hik, hi⟩
 refine ⟨by rw [size_sets]; exact Nat.le_trans h.hi hx.size, ((h.pts.mono hS).ext hx).far hg (fun r' e hb => h.dst 5 0 _ _ r' (by decide) rfl rfl (by rw [hv]; exact e) hb) hn6, ((h.rds.mono hS).ext hx).far hg (fun r' e hb => h.dst 5 1 _ _ r' (by decide) rfl rfl (by rw [hv]; exact e) hb) hn6, ((h.sgs.mono hS).ext hx).far hg (fun r' e hb => h.dst 5 2 _ _ r' (by decide) rfl rfl (by rw [hv]; exact e) hb) hn6, ((h.ars.mono hS).ext hx).far hg (fun r' e hb => h.dst 5 3 _ _ r' (by decide) rfl rfl (by rw [hv]; exact e) hb) hn6, ((h.chs.mono hS).ext hx).far hg (fun r' e hb => h.dst 5 4 _ _ r' (by decide) rfl rfl (by rw [hv]; exact e) hb) hn6, hc', ?_, h.dst, ?_, ?_⟩
 ·intro i x p hi hp'
  rcases get i x hi with ⟨-, rfl⟩ | ⟨-, gi⟩
  ·injection hp' with hp'
   subst hp'
   exact (hp.far hg (fun r' e hb => by injection e with e; have := (hpl r' hb).1; omega) (fun _ _ h => h)).bounds h.hi hg.size
  ·exact (h.ext hx).prow_far hg (by omega) i x p gi hp'
 ·intro i j x y p q b hij hi hj hp' hq hb
  rcases get i x hi with ⟨rfl, rfl⟩ | ⟨hik, gi⟩
  ·rcases get j y hj with ⟨rfl, rfl⟩ | ⟨hjk, gj⟩
   ·omega
   ·injection hp' with hp'
    subst hp'
    intro e
    have h6 := (hpl b hb).1
    have h7 := (h.prow j y q gj hq).lt b e
    omega
  ·rcases get j y hj with ⟨rfl, rfl⟩ | ⟨hjk, gj⟩
   ·injection hq with hq
    subst hq
    intro e
    have h6 := (hpl b e).1
    have h7 := (h.prow i x p gi hp').lt b hb
    omega
   ·exact h.dis i j x y p q b hij gi gj hp' hq hb
 ·intro i j x y p q b hi hj hp' hq hb
  rcases get j y hj with ⟨rfl, rfl⟩ | ⟨hjk, gj⟩
  ·injection hq with hq
   subst hq
   rcases get i x hi with ⟨-, rfl⟩ | ⟨hik, gi⟩
   ·injection hp' with hp'
    subst hp'
    exact hpv b hb
   ·intro e
    have h6 := hvf b e
    have h7 := (h.prow i x p gi hp').lt b hb
    omega
  ·rw [hn j y gj] at hq; cases hq
/-- A value of the constraint whose values are being copied is stored. -/
theorem ClS.far_hot (h : ClS K w0 lo hh w v0 v1 v2 v3 v4 v5 lp lr sg ar lc l) {k q : Nat} {x : CX} {vv : Value} (hk : l[k]? = some x) (hv : x.vv = some vv) (hq : vv.ownBlock = some q) (hm : hh ≤ q) (hg : w.grownBy w' (some q)) :
  ClS K w0 lo hh w' v0 v1 v2 v3 v4 v5 lp lr sg ar lc l := by
 have hn6 : ∀ r', some q = some r' → ¬ Sx (hh) l r' := fun r' e hs => by injection e with e; subst e; exact (hs.2 x (mem_of_getElem? hk)).2 vv hv hq
 have f6 : ∀ {lo : Nat}, ∀ r', some q = some r' → r' < lo ∨ hh ≤ r' := fun r' e => by injection e with e; omega
 exact ⟨Nat.le_trans h.hi hg.size, h.pts.far' hg f6 hn6, h.rds.far' hg f6 hn6, h.sgs.far' hg f6 hn6, h.ars.far' hg f6 hn6, h.chs.far' hg f6 hn6, h.cns.far' hg f6 hn6,
  fun i y p hi hp => ((h.prow i y p hi hp).far hg (fun r' e hb => by injection e with e; subst e; exact h.hot i k y x p vv q hi hk hp hv hb hq) (fun _ _ h => h)).bounds (Nat.le_refl _) hg.size, h.dst, h.dis, h.hot⟩
/-- The values are copied. -/
theorem ClS.cool (h : ClS K w0 lo hh w v0 v1 v2 v3 v4 v5 lp lr sg ar lc l) {k : Nat} {c : CI} {pv vv : Value} (hk : l[k]? = some ⟨c, some pv, some vv⟩) (ho : On (Sx (hh) (l.set k ⟨c, some pv, none⟩)) (fun w => ArrAt 7 (ExprR K) w vv c.values) w) :
  ClS K w0 lo hh w v0 v1 v2 v3 v4 v5 lp lr sg ar lc (l.set k ⟨c, some pv, none⟩) := by
 have hkl := (List.getElem?_eq_some_iff.1 hk).1
 have get : ∀ (i : Nat) x, (l.set k ⟨c, some pv, none⟩)[i]? = some x → (i = k ∧ x = ⟨c, some pv, none⟩) ∨ (i ≠ k ∧ l[i]? = some x) := by
  intro i x hi
  by_cases hik : i = k
  ·subst hik
   rw [List.getElem?_set_self hkl] at hi
   injection hi with hi
   exact .inl ⟨rfl, hi.symm⟩
  ·rw [List.getElem?_set_ne (by omega)] at hi
   exact .inr ⟨hik, hi⟩
 have get2 : ∀ (i : Nat) x, (l.set k ⟨c, some pv, none⟩)[i]? = some x → ∃ y, l[i]? = some y ∧ y.c = x.c ∧ y.pv = x.pv ∧ (x.vv = none ∨ y = x) := by
  intro i x hi
  rcases get i x hi with ⟨rfl, rfl⟩ | ⟨-, hi⟩
  ·exact ⟨_, hk, rfl, rfl, .inl rfl⟩
  ·exact ⟨x, hi, rfl, rfl, .inr rfl⟩
 have hS : ∀ j, j < w.heap.size → Sx (hh) l j → Sx (hh) (l.set k ⟨c, some pv, none⟩) j := by
  intro j _ hs
  refine ⟨hs.1, fun x hx' => ?_⟩
  rcases List.mem_or_eq_of_mem_set hx' with h6 | h6
  ·exact hs.2 x h6
  ·subst h6
   exact ⟨fun p e => (hs.2 _ (mem_of_getElem? hk)).1 p e, fun q e => by cases e⟩
 refine ⟨h.hi, h.pts.mono hS, h.rds.mono hS, h.sgs.mono hS, h.ars.mono hS, h.chs.mono hS, ?_, ?_, h.dst, ?_, ?_⟩
 ·refine h.cns.re (by rw [List.length_set]) (fun i x x' hi hi' ds hR => ?_)
  rcases get i x' hi' with ⟨rfl, rfl⟩ | ⟨-, hi'⟩
  ·rw [hk] at hi
   injection hi with hi
   subst hi
   intro w'' hk'
   obtain ⟨p', c', q', e, e1, e2, e3⟩ := hR w'' (hk'.mono hS)
   exact ⟨p', c', q', e, e1, e2, by rw [show q' = vv from e3]; exact ho w'' hk'⟩
  ·rw [hi] at hi'
   injection hi' with hi'
   subst hi'
   exact hR.mono hS
 ·intro i x p hi hp
  obtain ⟨y, g1, g2, g3, -⟩ := get2 i x hi
  rw [← g2]
  exact h.prow i y p g1 (g3.trans hp)
 ·intro i j x y p q b hij hi hj hp hq hb
  obtain ⟨x', g1, g2, g3, -⟩ := get2 i x hi
  obtain ⟨y', k1, k2, k3, -⟩ := get2 j y hj
  exact h.dis i j x' y' p q b hij g1 k1 (g3.trans hp) (k3.trans hq) hb
 ·intro i j x y p q b hi hj hp hq hb
  obtain ⟨x', g1, g2, g3, -⟩ := get2 i x hi
  obtain ⟨y', k1, k2, k3, k4⟩ := get2 j y hj
  rcases k4 with k4 | k4
  ·rw [k4] at hq; cases hq
  ·subst k4
   exact h.hot i j x' y' p q b g1 k1 (g3.trans hp) hq hb
end
end Go.Proofs.YtonleohlplkglaaGreatDoor
namespace Go.Proofs.YtonleohlplkglaaGreatDoor
open Go Go.RowKit
/-- A block of the call's own, which may be stored into. -/
def BoxF (w : World) (g : Nat) (cs : List Value) : Prop := CellsAt w g cs ∧ ∀ j, w.frozen? ⟨g, j, none⟩ = false
theorem BoxF.new (w : World) (cs : List Value) (T : TypeId) : BoxF (w.alloc (.cells cs.toArray T)) w.heap.size cs := ⟨CellsAt.new _ _ _, fun j => by simp [go_sem]⟩
theorem BoxF.ext {w w' : World} {g : Nat} {cs : List Value} (h : BoxF w g cs) (hx : Ext w w') : BoxF w' g cs := ⟨h.1.ext hx, fun j => (Below.frozen hx h.1.1).trans (h.2 j)⟩
theorem BoxF.grown {w w' : World} {g : Nat} {cs : List Value} {row : Option Nat} (h : BoxF w g cs) (hg : w.grownBy w' row) (hr : row ≠ some g) : BoxF w' g cs :=
 ⟨⟨Nat.lt_of_lt_of_le h.1.1 hg.size, fun i v hi => (World.cell?_of_block (hg.block g h.1.1 (fun e => hr e.symm))).trans (h.1.2 i v hi)⟩, fun j => (World.frozen?_of_block (hg.block g h.1.1 (fun e => hr e.symm))).trans (h.2 j)⟩
theorem BoxF.set_ {w : World} {g i : Nat} {cs : List Value} (h : BoxF w g cs) (u : Value) : BoxF (w.setCell ⟨g, i, none⟩ u) g (cs.set i u) := by
 refine ⟨⟨by simpa [World.setCell] using h.1.1, fun j v hj => ?_⟩, fun j => by rw [World.frozen?_setCell]; exact h.2 j⟩
 by_cases hij : i = j
 ·subst hij
  have hl := (List.getElem?_eq_some_iff.1 hj).1
  rw [List.length_set] at hl
  rw [List.getElem?_set_self hl] at hj
  injection hj with hj
  subst hj
  exact World.cell?_setCell_same _ _ _ (h.1.2 i _ (List.getElem?_eq_getElem hl))
 ·rw [List.getElem?_set_ne hij] at hj
  rw [cell_set_off hij]
  exact h.1.2 j v hj
theorem BoxF.sets {g : Nat} : ∀ (us : List Value) (o : Nat) (w : World) (cs : List Value), BoxF w g cs → o + us.length ≤ cs.length → BoxF (w.setCells g o us) g (cs.take o ++ us ++ cs.drop (o + us.length))
 | [], o, w, cs, h, _ => by
  have e : cs.take o ++ [] ++ cs.drop (o + ([] : List Value).length) = cs := by simp
  rw [e]; exact h
 | u :: us, o, w, cs, h, hl => by
  have := BoxF.sets us (o + 1) _ _ (h.set_ (i := o) u) (by simp at hl ⊢; omega)
  rw [World.setCells]
  have e : (cs.set o u).take (o + 1) ++ us ++ (cs.set o u).drop (o + 1 + us.length) = cs.take o ++ (u :: us) ++ cs.drop (o + (u :: us).length) := by
   have hlo : o < cs.length := by simp at hl; omega
   rw [List.take_succ_eq_append_getElem (by rw [List.length_set]; exact hlo), List.take_set, List.getElem_set_self, List.drop_set_of_lt (by omega)]
   rw [List.set_eq_of_length_le (by rw [List.length_take]; omega)]
   simp [Nat.add_assoc, Nat.add_comm 1]
  rw [e] at this
  exact this
theorem smallE_parts {K : Nat} {e : EI} (h : smallE (K + 1) e) : e.value.num.mag.length ≤ 1000000 ∧ e.value.den.mag.length ≤ 1000000 ∧ e.args.length ≤ 1000000 ∧ ∀ a ∈ e.args, smallE K a := by
 obtain ⟨h1, h2, h3, h4, h5⟩ := h
 refine ⟨by omega, by omega, by omega, h5⟩
theorem sliceAt_arr {α : Type} {sz : Nat} {R : World → List Value → α → Prop} {w : World} {v : Value} {xs : List α} (h : SliceAt sz R w v xs) (hl : xs.length ≤ 1000000) : ArrAt sz R w v xs := by
 obtain ⟨A, c, hv, h1, h2, h3⟩ := h
 exact ⟨A, c, hv, h1, by omega, h3⟩
theorem RowS.sliceAt {α : Type} {S S' : Nat → Prop} {T sz lo hi : Nat} {R : World → List Value → α → Prop} {w : World} {v : Value} {l : List α} (h : RowS S T sz R lo hi w v l) (hl : l.length ≤ 1000000) (hS : ∀ r, v.ownBlock = some r → S' r) (hSS : ∀ k, k < w.heap.size → S k → S' k) : On S' (fun w => SliceAt sz R w v l) w := by
 have hc : ∀ A c, v = .slice A l.length c → c ≤ maxLen := by
  intro A c hv
  obtain ⟨xs, ho, -⟩ := h
  rcases ho.2 with ⟨rfl, hn⟩ | ⟨g, cap, cur, rfl, hb, hg, hcap, hcm, hcs, htk⟩
  ·injection hv with _ _ e; rw [← e]; exact Nat.zero_le _
  ·injection hv with _ _ e; rw [← e]; exact hcm
 refine (h.arr hl hS hSS).imp fun w' _ ⟨A, c, hv, h1, h2, h3⟩ => ⟨A, c, hv, h1, hc A c hv, h3⟩
/-- From b on, but for a slice's own block. -/
def Sq (b : Nat) (v : Value) (k : Nat) : Prop := b ≤ k ∧ v.ownBlock ≠ some k
/-- The state of cloneExpr behind its two clones. -/
structure CEs (K : Nat) (w wr : World) (q : QI) (op : Int) (nm : ByteArray) (A1 A2 A : Option Addr) (c1 c2 c n : Nat) (args : List EI) (lx : List (EI × Bool)) : Prop where
 box : BoxF wr w.heap.size [.int .i64 op, .bool q.num.neg, .slice A1 q.num.mag.length c1, .bool q.den.neg, .slice A2 q.den.mag.length c2, .string nm, .slice A n c]
 res : BoxF wr (w.heap.size + 1) [.int .i64 0, .bool false, .slice none 0 0, .bool false, .slice none 0 0, .string ⟨#[]⟩, .slice none 0 0]
 num : On (Sq (w.heap.size + 2) (.slice A n c)) (fun w => Words w (.slice A1 q.num.mag.length c1) q.num.mag) wr
 den : On (Sq (w.heap.size + 2) (.slice A n c)) (fun w => Words w (.slice A2 q.den.mag.length c2) q.den.mag) wr
 row : RowS (Sq (w.heap.size + 2) (.slice A n c)) 69 7 (Fl (ExprR K) w) (w.heap.size + 2) wr.heap.size wr (.slice A n c) lx
 ext : Ext w wr
 len : lx.map (·.1) = args
theorem set_fst {α : Type} {lx : List (α × Bool)} {i : Nat} (hi : i < lx.length) : (lx.set i (lx[i].1, false)).map (·.1) = lx.map (·.1) := by
 rw [List.map_set]
 have : lx[i].1 = (lx.map (·.1))[i]'(by simpa using hi) := by simp
 rw [this, List.set_getElem_self]
theorem CEs.move {K : Nat} {w wr w3 : World} {q : QI} {op : Int} {nm : ByteArray} {A1 A2 A : Option Addr} {c1 c2 c n : Nat} {args : List EI} {lx : List (EI × Bool)} (h : CEs K w wr q op nm A1 A2 A c1 c2 c n args lx) (hx : Ext wr w3) : CEs K w w3 q op nm A1 A2 A c1 c2 c n args lx :=
 ⟨h.box.ext hx, h.res.ext hx, h.num.ext hx, h.den.ext hx, (h.row.ext hx).bounds (Nat.le_refl _) hx.size, h.ext.trans hx, h.len⟩
theorem CEs.put {K : Nat} {w wr w3 : World} {q : QI} {op : Int} {nm : ByteArray} {A1 A2 : Option Addr} {c1 c2 c n r i : Nat} {args : List EI} {lx : List (EI × Bool)} (h : CEs K w wr q op nm A1 A2 (some ⟨r, 0, none⟩) c1 c2 c n args lx) (hx : Ext wr w3) (hi : i < lx.length) {us : List Value} (hu : us.length = 7)
  (ho : On (From wr.heap.size) (fun w => ExprR K w us lx[i].1) w3) : CEs K w (w3.setCells r (i * 7) us) q op nm A1 A2 (some ⟨r, 0, none⟩) c1 c2 c n args (lx.set i (lx[i].1, false)) := by
 obtain ⟨hlo, hhi, hlt⟩ := h.row.lt r rfl
 have hg := grownBy_sets r us (i * 7) w3
 have hS : ¬ Sq (w.heap.size + 2) (.slice (some ⟨r, 0, none⟩) n c) r := fun h => h.2 rfl
 have hn : ∀ r', some r = some r' → ¬ Sq (w.heap.size + 2) (.slice (some ⟨r, 0, none⟩) n c) r' := fun r' e => by injection e with e; subst e; exact hS
 have h3 := h.move hx
 have hp := h3.row.put (j0 := 0) (us := us) (x' := (lx[i].1, false)) hi (by omega) hS (fun ds g1 g2 ds' g3 g4 g5 => by
  have : ds' = us := by
   apply List.ext_getElem?
   intro j
   rcases Nat.lt_or_ge j us.length with h6 | h6
   ·rw [List.getElem?_eq_getElem h6]
    have := g5 j _ (List.getElem?_eq_getElem h6)
    rwa [Nat.zero_add] at this
   ·rw [List.getElem?_eq_none h6, List.getElem?_eq_none (by omega)]
  rw [this]
  exact (ho.mono (fun k _ hk => ⟨by have : wr.heap.size ≤ k := hk; omega, fun e => absurd (show r = k from Option.some.inj e) (by have : wr.heap.size ≤ k := hk; omega)⟩)).imp (fun _ _ h => h))
 rw [Nat.add_zero] at hp
 exact ⟨h3.box.grown hg (by simp; omega), h3.res.grown hg (by simp; omega), h3.num.keep (grownBy.keep hg hn), h3.den.keep (grownBy.keep hg hn), hp.bounds (Nat.le_refl _) hg.size, Ext.sets r (by omega) _ _ _ h3.ext, (set_fst hi).trans h.len⟩
/-- What the copy reads as. -/
theorem CEs.done {K : Nat} {w wr : World} {q : QI} {op : Int} {nm : ByteArray} {A1 A2 A : Option Addr} {c1 c2 c n : Nat} {args : List EI} {lx : List (EI × Bool)} (h : CEs K w wr q op nm A1 A2 A c1 c2 c n args lx) (hf : ∀ (j : Nat) x, lx[j]? = some x → x.2 = false) (hl : args.length ≤ 1000000) (us : List Value) :
  On (From w.heap.size) (fun w => Words w (.slice A1 q.num.mag.length c1) q.num.mag) (wr.setCells (w.heap.size + 1) 0 us) ∧ On (From w.heap.size) (fun w => Words w (.slice A2 q.den.mag.length c2) q.den.mag) (wr.setCells (w.heap.size + 1) 0 us) ∧ On (From w.heap.size) (fun w => SliceAt 7 (ExprR K) w (.slice A n c) args) (wr.setCells (w.heap.size + 1) 0 us) := by
 have hg := grownBy_sets (w.heap.size + 1) us 0 wr
 have hn : ∀ r', some (w.heap.size + 1) = some r' → ¬ Sq (w.heap.size + 2) (.slice A n c) r' := fun r' e h => by injection e with e; have := h.1; omega
 have hm : ∀ k, k < (wr.setCells (w.heap.size + 1) 0 us).heap.size → Sq (w.heap.size + 2) (.slice A n c) k → From w.heap.size k := fun k _ hk => Nat.le_trans (Nat.le_add_right _ _) hk.1
 have h1 : RowS (Sq (w.heap.size + 2) (.slice A n c)) 69 7 (ExprR K) (w.heap.size + 2) wr.heap.size wr (.slice A n c) args := h.row.re (by rw [← h.len, List.length_map]) (fun k x x' hx hx' ds hR => by
  rw [← h.len, List.getElem?_map, hx] at hx'
  injection hx' with hx'
  subst hx'
  exact hR.imp (fun w'' _ hh => by unfold Fl at hh; rw [hf k x hx] at hh; exact hh))
 have h2 := h1.far hg (fun r' e hb => by injection e with e; have := (h1.lt r' hb).1; omega) hn
 exact ⟨(h.num.keep (grownBy.keep hg hn)).mono hm, (h.den.keep (grownBy.keep hg hn)).mono hm, h2.sliceAt hl (fun r hr => by have := (h2.lt r hr).1; exact Nat.le_trans (Nat.le_add_right _ _) this) hm⟩
end Go.Proofs.YtonleohlplkglaaGreatDoor
namespace Go.Proofs.YtonleohlplkglaaGreatDoor
open Go Go.RowKit
theorem ExprR.shape {K : Nat} {w : World} {cs : List Value} {e : EI} (h : ExprR K w cs e) : ∃ op b1 A1 n1 c1 b2 A2 n2 c2 nm A n c, cs = [.int .i64 op, .bool b1, .slice A1 n1 c1, .bool b2, .slice A2 n2 c2, .string nm, .slice A n c] := by
 cases K with
 | zero => exact h.elim
 | succ K =>
  obtain ⟨u, v, sl, rfl, hu, hv, A, c, rfl, -⟩ := h
  obtain ⟨A1, c1, rfl, -⟩ := hu.form
  obtain ⟨A2, c2, rfl, -⟩ := hv.form
  exact ⟨_, _, _, _, _, _, _, _, _, _, _, _, _, rfl⟩
/-- What a copy of an expression reads as. -/
def ExprOn (K : Nat) (S : Nat → Prop) (e : EI) (r : Value) (w' : World) : Prop := ∃ cs' : List Value, r = .agg cs'.toArray ∧ cs'.length = 7 ∧ On S (fun w => ExprR K w cs' e) w'
set_option maxRecDepth 100000 in
set_option maxHeartbeats 3200000 in
theorem sketch_cloneExpr (K : Nat) : ∀ {e : EI} {cs : List Value} {w : World}, ExprR K w cs e → smallE K e →
  Calls Tryz.prog 122 #[.agg cs.toArray] w (Ret w (ExprOn K (From w.heap.size) e)) := by
 induction K with
 | zero => intro e cs w h _; exact h.elim
 | succ K ih =>
  intro e cs w h hsm
  obtain ⟨u, v, sl, rfl, hu, hv, hsl⟩ := h
  obtain ⟨hq1, hq2, hql, hqa⟩ := smallE_parts hsm
  have HAR := Lib.hid (sliceAt_arr hsl hql)
  have HCR := Lib.hid (fun w1 (hx : Ext w w1) => sketch_cloneRat (q := e.value) (hu.ext hx) (hv.ext hx) hq1 hq2)
  obtain ⟨A, c, rfl, hl, hm, -⟩ := hsl
  obtain ⟨A1, c1, rfl, -, -⟩ := hu.form
  obtain ⟨A2, c2, rfl, -, -⟩ := hv.form
  have HCE := Lib.hid (fun w1 (hx : Ext w w1) => clone_Expr (α := EI) (R0 := ExprR K w) (HAR.out.old hx) (one_ex w) hql)
  have HIH := Lib.hid (fun w1 (x : EI) (ds : List Value) (hm : x ∈ e.args) (h1 : ExprR K w1 ds x) => ih h1 (hqa x hm))
  have HL := Lib.hid hql
  have HFIN : Hid (∀ r w', (∃ u v sl, r = Value.agg #[.int .i64 e.op, .bool e.value.num.neg, u, .bool e.value.den.neg, v, .string e.name, sl] ∧ On (From w.heap.size) (fun w => Words w u e.value.num.mag) w' ∧ On (From w.heap.size) (fun w => Words w v e.value.den.mag) w' ∧ On (From w.heap.size) (fun w => SliceAt 7 (ExprR K) w sl e.args) w') → ExprOn (K + 1) (From w.heap.size) e r w') := by
   rintro r w' ⟨u, v, sl, rfl, g1, g2, g3⟩
   exact ⟨[.int .i64 e.op, .bool e.value.num.neg, u, .bool e.value.den.neg, v, .string e.name, sl], rfl, rfl, fun w'' hk => ⟨u, v, sl, rfl, g1 w'' hk, g2 w'' hk, g3 w'' hk⟩⟩
  clear hu hv hqa hsm ih hl hm hq1 hq2 hql
  generalize ExprOn (K + 1) (From w.heap.size) e = RO at *
  generalize e.value = q at *
  generalize e.op = op at *
  generalize e.name = nm at *
  generalize e.args = args at *
  obtain ⟨W, hW, hb1, hb2, hx⟩ := boxes (w := w) (cs := [.int .i64 op, .bool q.num.neg, .slice A1 q.num.mag.length c1, .bool q.den.neg, .slice A2 q.den.mag.length c2, .string nm, .slice A args.length c]) (ds := [.int .i64 0, .bool false, .slice none 0 0, .bool false, .slice none 0 0, .string ⟨#[]⟩, .slice none 0 0]) (T := 69)
  have HB1 : Hid (BoxF W w.heap.size [.int .i64 op, .bool q.num.neg, .slice A1 q.num.mag.length c1, .bool q.den.neg, .slice A2 q.den.mag.length c2, .string nm, .slice A args.length c]) := ⟨hb1, fun j => by rw [← hW]; simp [go_sem]⟩
  have HB2 : Hid (BoxF W (w.heap.size + 1) [.int .i64 0, .bool false, .slice none 0 0, .bool false, .slice none 0 0, .string ⟨#[]⟩, .slice none 0 0]) := ⟨hb2, fun j => by rw [← hW]; simp [go_sem]⟩
  have HZ : Hid (w.heap.size + 2 ≤ W.heap.size) := by show _ ≤ _; rw [← hW]; simp
  have HW := Lib.hid hW
  have HX := Lib.hid hx
  clear hW hb1 hb2 hx
  go_enter Tryz.func122, Tryz.ntmps122
  go_upto_region 1 with fail
  rw [show (w.alloc (.cells #[.int .i64 op, .bool q.num.neg, .slice A1 q.num.mag.length c1, .bool q.den.neg, .slice A2 q.den.mag.length c2, .string nm, .slice A args.length c] 69)).alloc (.cells #[.int .i64 0, .bool false, .slice none 0 0, .bool false, .slice none 0 0, .string ⟨#[]⟩, .slice none 0 0] 69) = W from HW.out]
  obtain ⟨y0, y1, y2, y3, y4, y5, y6⟩ := HB1.out.1.seven
  go_wp2_with fail
  refine (HCR.out _ HX.out).mono ?_
  rintro x w1 ⟨r, rfl, ⟨X1, k1, X2, k2, rfl, ho1, ho2⟩, hx1⟩
  have HO1 := Lib.hid (ho1.mono (S' := From (w.heap.size + 2)) (fun k _ hk => Nat.le_trans HZ.out hk))
  have HO2 := Lib.hid (ho2.mono (S' := From (w.heap.size + 2)) (fun k _ hk => Nat.le_trans HZ.out hk))
  clear ho1 ho2 y0 y1 y2 y3 y4 y5 y6
  have HB1' := Lib.hid (HB1.out.ext hx1)
  have HB2' := Lib.hid (HB2.out.ext hx1)
  obtain ⟨y0, y1, y2, y3, y4, y5, y6⟩ := HB1'.out.1.seven
  have f1 := HB1'.out.2 1
  have f2 := HB1'.out.2 2
  have f3 := HB1'.out.2 3
  have f4 := HB1'.out.2 4
  go_upto_region 2 with fail
  obtain ⟨W2, hW2⟩ : ∃ W2, w1.setCells w.heap.size 1 [.bool q.num.neg, .slice X1 q.num.mag.length k1, .bool q.den.neg, .slice X2 q.den.mag.length k2] = W2 := ⟨_, rfl⟩
  have HG2 := grownBy_sets w.heap.size [.bool q.num.neg, .slice X1 q.num.mag.length k1, .bool q.den.neg, .slice X2 q.den.mag.length k2] 1 w1
  rw [hW2] at HG2
  have HB3 : Hid (BoxF W2 w.heap.size [.int .i64 op, .bool q.num.neg, .slice X1 q.num.mag.length k1, .bool q.den.neg, .slice X2 q.den.mag.length k2, .string nm, .slice A args.length c]) := by rw [← hW2]; exact BoxF.sets _ 1 w1 _ HB1'.out (by simp)
  have HR3 := Lib.hid (HB2'.out.grown HG2 (by simp))
  have hfr : ∀ r, some w.heap.size = some r → ¬ From (w.heap.size + 2) r := fun r e h => by
   have e' : w.heap.size = r := by injection e
   have : w.heap.size + 2 ≤ r := h
   omega
  have HV1 := Lib.hid (HO1.out.keep (grownBy.keep HG2 hfr))
  have HV2 := Lib.hid (HO2.out.keep (grownBy.keep HG2 hfr))
  have HE2 : Hid (Ext w W2) := by rw [← hW2]; exact Ext.sets _ (Nat.le_refl _) _ _ _ (Ext.trans HX.out hx1)
  have HZ2 : Hid (w.heap.size + 2 ≤ W2.heap.size) := by rw [← hW2, size_sets]; exact Nat.le_trans HZ.out hx1.size
  rw [show (((w1.setCell ⟨w.heap.size, 1, none⟩ (.bool q.num.neg)).setCell ⟨w.heap.size, 2, none⟩ (.slice X1 q.num.mag.length k1)).setCell ⟨w.heap.size, 3, none⟩ (.bool q.den.neg)).setCell ⟨w.heap.size, 4, none⟩ (.slice X2 q.den.mag.length k2) = W2 from hW2]
  clear hW2 HG2 hfr HO1 HO2 HB1 HB2 HB1' HB2' HCR HX HZ HW hx1 y0 y1 y2 y3 y4 y5 y6 f1 f2 f3 f4
  obtain ⟨y0, y1, y2, y3, y4, y5, y6⟩ := HB3.out.1.seven
  go_wp2_with fail
  refine (HCE.out _ HE2.out).mono ?_
  rintro x w3 ⟨r, rfl, hrow, hx3⟩
  obtain ⟨Q, qc, rfl⟩ := hrow.form
  have hst : CEs K w (w3.setCell ⟨w.heap.size, 6, none⟩ (.slice Q args.length qc)) q op nm X1 X2 Q k1 k2 qc args.length args (args.map fun x => (x, true)) := by
   have hlt := hrow.lt
   have hs2 := hx3.size
   have hz2 := HZ2.out
   have hg := grownBy_sets w.heap.size [.slice Q args.length qc] 6 w3
   have hn : ∀ r', some w.heap.size = some r' → ¬ Sq (w.heap.size + 2) (.slice Q args.length qc) r' := fun r' e h => by
    have e' : w.heap.size = r' := by injection e
    have := h.1
    omega
   have hmS : ∀ k, k < W2.heap.size → From (w.heap.size + 2) k → Sq (w.heap.size + 2) (.slice Q args.length qc) k := fun k hk hs => ⟨hs, fun e => by have := (hlt k e).1; omega⟩
   have hr1 : RowS (Sq (w.heap.size + 2) (.slice Q args.length qc)) 69 7 (fun _ => ExprR K w) W2.heap.size w3.heap.size w3 (.slice Q args.length qc) args := RowS.of_const hrow (fun _ _ _ h => h) (Nat.le_refl _)
   have hr2 : RowS (Sq (w.heap.size + 2) (.slice Q args.length qc)) 69 7 (Fl (ExprR K) w) W2.heap.size w3.heap.size w3 (.slice Q args.length qc) (args.map fun x => (x, true)) := hr1.imp (fun _ _ _ h => h)
   exact ⟨(HB3.out.ext hx3).set_ _, (HR3.out.ext hx3).grown hg (by simp), ((HV1.out.mono hmS).ext hx3).keep (grownBy.keep hg hn), ((HV2.out.mono hmS).ext hx3).keep (grownBy.keep hg hn),
    (hr2.far hg (fun r' e hb => by
     have e' : w.heap.size = r' := by injection e
     have := (hlt r' hb).1
     omega) hn).bounds hz2 hg.size, (HE2.out.trans hx3).pset (Nat.le_refl _) _, by rw [List.map_map]; exact List.map_id' _⟩
  have HST := Lib.hid hst
  have f6 := (HB3.out.ext hx3).2 6
  have hb3 := (HB3.out.ext hx3).1
  clear hst hrow HB3 HR3 HV1 HV2 HE2 HZ2 HCE y0 y1 y2 y3 y4 y5 y6
  obtain ⟨y0, y1, y2, y3, y4, y5, y6⟩ := hb3.seven
  go_upto_region 3 with fail
  generalize w3.setCell ⟨w.heap.size, 6, none⟩ (.slice Q args.length qc) = W4 at *
  clear f6 hb3 y0 y1 y2 y3 y4 y5 y6 hx3
  obtain ⟨n, hn⟩ : ∃ n, args.length = n := ⟨_, rfl⟩
  have HN := Lib.hid hn
  rw [hn] at HST
  have hnb : n ≤ 1000000 := by have := HL.out; omega
  clear hn
  obtain ⟨y0, y1, y2, y3, y4, y5, y6⟩ := HST.out.box.1.seven
  go_wp2_with fail
  clear y0 y1 y2 y3 y4 y5 y6
  go_loopg [15] n (fun gk a wr => ∃ (i : Nat) (lx : List (EI × Bool)), a = .int .i64 (i : Int) ∧ i + gk = n ∧ Hid (CEs K w wr q op nm X1 X2 Q k1 k2 qc n args lx) ∧ Hid (∀ (j : Nat) x, j < i → lx[j]? = some x → x.2 = false))
  case atStart => exact ⟨0, _, rfl, by omega, HST.out, fun j x hj => absurd hj (Nat.not_lt_zero j)⟩
  case round =>
   clear HST
   obtain ⟨i, lx, rfl, hi, HS, HF⟩ := hrel
   obtain ⟨y0, y1, y2, y3, y4, y5, y6⟩ := HS.out.box.1.seven
   by_cases hlt : i < n
   ·have hil : i < lx.length := by have := congrArg List.length HS.out.len; rw [List.length_map] at this; have := HN.out; omega
    obtain ⟨r, ds, rfl, hr1, hr2, hr3, -, hcap, hds, hcell, hfz, hR⟩ := HS.out.row.at_ hil
    have hmem : lx[i].1 ∈ args := by rw [← HS.out.len]; exact List.mem_map.2 ⟨lx[i], List.getElem_mem hil, rfl⟩
    have hEx : ExprR K wr ds lx[i].1 := by
     have h0 := hR.out
     unfold Fl at h0
     split at h0
     ·exact ExprR.stable K _ _ _ _ HS.out.ext h0
     ·exact h0
    obtain ⟨d0, d1, d2, d3, d4, d5, d6, rfl⟩ := seven_list hds
    have HRR := Lib.hid (fun w5 (hx : Ext wr w5) => HIH.out w5 lx[i].1 _ hmem (ExprR.stable K _ _ _ _ hx hEx))
    have u0 : wr.cell? ⟨r, i * 7, none⟩ = some d0 := hcell 0 _ rfl
    have u1 : wr.cell? ⟨r, i * 7 + 1, none⟩ = some d1 := hcell 1 _ rfl
    have u2 : wr.cell? ⟨r, i * 7 + 2, none⟩ = some d2 := hcell 2 _ rfl
    have u3 : wr.cell? ⟨r, i * 7 + 3, none⟩ = some d3 := hcell 3 _ rfl
    have u4 : wr.cell? ⟨r, i * 7 + 4, none⟩ = some d4 := hcell 4 _ rfl
    have u5 : wr.cell? ⟨r, i * 7 + 5, none⟩ = some d5 := hcell 5 _ rfl
    have u6 : wr.cell? ⟨r, i * 7 + 6, none⟩ = some d6 := hcell 6 _ rfl
    have HP : Hid (∀ w5, Ext wr w5 → ∀ us : List Value, us.length = 7 → On (From wr.heap.size) (fun w => ExprR K w us lx[i].1) w5 → CEs K w (w5.setCells r (i * 7) us) q op nm X1 X2 (some ⟨r, 0, none⟩) k1 k2 qc n args (lx.set i (lx[i].1, false))) := fun w5 hx us hu ho => HS.out.put hx hil hu ho
    have HF' : Hid (∀ (j : Nat) x, j < i + 1 → (lx.set i (lx[i].1, false))[j]? = some x → x.2 = false) := by
     intro j x hj hx
     by_cases hji : j = i
     ·subst hji
      rw [List.getElem?_set_self hil] at hx
      injection hx with hx
      rw [← hx]
     ·rw [List.getElem?_set_ne (by omega)] at hx
      exact HF.out j x (by omega) hx
    have HC5 : Hid (∀ w5, Ext wr w5 → CellsAt w5 w.heap.size [.int .i64 op, .bool q.num.neg, .slice X1 q.num.mag.length k1, .bool q.den.neg, .slice X2 q.den.mag.length k2, .string nm, .slice (some ⟨r, 0, none⟩) n qc] ∧ (∀ j, w5.frozen? ⟨r, j, none⟩ = false) ∧ ∀ j u, [d0, d1, d2, d3, d4, d5, d6][j]? = some u → w5.cell? ⟨r, i * 7 + j, none⟩ = some u) := fun w5 hx => ⟨(HS.out.box.ext hx).1, fun j => (Below.frozen hx hr3).trans (hfz j), fun j u hj => (hx.cell (p := ⟨r, i * 7 + j, none⟩) hr3).trans (hcell j u hj)⟩
    have i1 : (i : Int) < (n : Int) := by omega
    have i0 : (0 : Int) ≤ (i : Int) := by omega
    clear hcell hfz hR hEx hds hmem HF
    generalize lx[i].1 = ei at *
    go_upto_region 6 with fail
    go_region_with (first
     | (go_at_call 122; refine (HRR.out _ (by repeat first|exact xA _|assumption|refine xB ?_ _|refine xC ?_|refine xD ?_ _|refine xE ?_ (by simp <;> omega) _|refine xF ?_ (by assumption))).mono ?_; rintro x w5 ⟨r5, rfl, ⟨cs5, rfl, hl5, ho5⟩, hx5⟩; have hx55 : Ext wr w5 := (by repeat first|exact xA _|assumption|refine xB ?_ _|refine xC ?_|refine xD ?_ _|refine xE ?_ (by simp <;> omega) _|refine xF ?_ (by assumption)); have hsz5 : wr.heap.size ≤ w5.heap.size := hx55.size; obtain ⟨eop, eb1, eA1, en1, ec1, eb2, eA2, en2, ec2, enm, eA, en, ec, rfl⟩ := ExprR.shape ho5.out; have HO5 := Lib.hid (ho5.mono (S' := From wr.heap.size) (fun k _ hk => hk)); clear ho5; obtain ⟨x0, x1, x2, x3, x4, x5, x6⟩ := (HC5.out w5 hx55).1.seven; have p0 := (HC5.out w5 hx55).2.1 (i * 7); have p1 := (HC5.out w5 hx55).2.1 (i * 7 + 1); have p2 := (HC5.out w5 hx55).2.1 (i * 7 + 2); have p3 := (HC5.out w5 hx55).2.1 (i * 7 + 3); have p4 := (HC5.out w5 hx55).2.1 (i * 7 + 4); have p5 := (HC5.out w5 hx55).2.1 (i * 7 + 5); have p6 := (HC5.out w5 hx55).2.1 (i * 7 + 6); have t0 : w5.cell? ⟨r, i * 7, none⟩ = some d0 := (HC5.out w5 hx55).2.2 0 _ rfl; have t1 := (HC5.out w5 hx55).2.2 1 _ rfl; have t2 := (HC5.out w5 hx55).2.2 2 _ rfl; have t3 := (HC5.out w5 hx55).2.2 3 _ rfl; have t4 := (HC5.out w5 hx55).2.2 4 _ rfl; have t5 := (HC5.out w5 hx55).2.2 5 _ rfl; have t6 := (HC5.out w5 hx55).2.2 6 _ rfl))
    all_goals
     go_wp2_with fail
     go_roundg (n - (i + 1))
     case measure => omega
     case rel => exact ⟨i + 1, _, by simp, by omega, HP.out w5 hx55 [_, _, _, _, _, _, _] rfl HO5.out, HF'.out⟩
   ·obtain ⟨z0, z1, z2, z3, z4, z5, z6⟩ := HS.out.res.1.seven
    have f0 := HS.out.res.2 0
    have f1 := HS.out.res.2 1
    have f2 := HS.out.res.2 2
    have f3 := HS.out.res.2 3
    have f4 := HS.out.res.2 4
    have f5 := HS.out.res.2 5
    have f6 := HS.out.res.2 6
    have HD : Hid (∀ us, On (From w.heap.size) (fun w => Words w (.slice X1 q.num.mag.length k1) q.num.mag) (wr.setCells (w.heap.size + 1) 0 us) ∧ On (From w.heap.size) (fun w => Words w (.slice X2 q.den.mag.length k2) q.den.mag) (wr.setCells (w.heap.size + 1) 0 us) ∧ On (From w.heap.size) (fun w => SliceAt 7 (ExprR K) w (.slice Q n qc) args) (wr.setCells (w.heap.size + 1) 0 us)) := fun us => HS.out.done (fun j x hx => HF.out j x (by
     have h1 := (List.getElem?_eq_some_iff.1 hx).1
     have h2 := congrArg List.length HS.out.len
     rw [List.length_map] at h2
     have := HN.out
     omega) hx) HL.out us
    have HE := Lib.hid HS.out.ext
    clear HF HS
    go_wp2_with fail
    refine bodyPost_ret (v := .agg #[.int .i64 op, .bool q.num.neg, .slice X1 q.num.mag.length k1, .bool q.den.neg, .slice X2 q.den.mag.length k2, .string nm, .slice Q n qc]) ?_ rfl ⟨_, rfl, HFIN.out _ _ ⟨_, _, _, rfl, (HD.out [_, _, _, _, _, _, _]).1, (HD.out [_, _, _, _, _, _, _]).2.1, (HD.out [_, _, _, _, _, _, _]).2.2⟩, ?_⟩
    ·simp [results, Tryz.results122, go_sem, z0, z1, z2, z3, z4, z5, z6]
    ·exact Ext.sets (w.heap.size + 1) (by omega) [_, _, _, _, _, _, _] 0 wr HE.out
end Go.Proofs.YtonleohlplkglaaGreatDoor
