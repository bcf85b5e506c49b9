/- What depends on some blocks alone; rows of a call's own into which it stores. -/
import Derived.Test.YtmddjbmelajadaaGreatDoorYH
import Derived.Test.YtmddjbmelajadaaGreatDoorYF
import Derived.Deep.Slices
import Derived.SizedLaws
import GoSem.ClaimJoined
namespace Go.Proofs.YtmddjbmelajadaaGreatDoor
open Go Go.RowKit
/-- The blocks of S are as they were. -/
structure Keep (S : Nat → Prop) (w w' : World) : Prop where
 os : w'.os = w.os
 tape : w'.tape = w.tape
 output : w'.output = w.output
 size : w.heap.size ≤ w'.heap.size
 block : ∀ k, k < w.heap.size → S k → w'.heap[k]? = w.heap[k]?
/-- P holds, and goes on to hold whatever becomes of the blocks outside S. -/
def On (S : Nat → Prop) (P : World → Prop) (w : World) : Prop := ∀ w', Keep S w w' → P w'
section
variable {S S' : Nat → Prop} {a w w' : World} {P Q : World → Prop}
theorem Keep.refl (S : Nat → Prop) (w : World) : Keep S w w := ⟨rfl, rfl, rfl, Nat.le_refl _, fun _ _ _ => rfl⟩
theorem Keep.trans (h : Keep S a w) (k : Keep S w w') : Keep S a w' :=
 ⟨k.os.trans h.os, k.tape.trans h.tape, k.output.trans h.output, Nat.le_trans h.size k.size, fun i hi hs => (k.block i (Nat.lt_of_lt_of_le hi h.size) hs).trans (h.block i hi hs)⟩
theorem Keep.mono (h : Keep S w w') (hs : ∀ k, k < w.heap.size → S' k → S k) : Keep S' w w' := ⟨h.os, h.tape, h.output, h.size, fun i hi hk => h.block i hi (hs i hi hk)⟩
theorem Ext.keep (h : Ext w w') (S : Nat → Prop) : Keep S w w' := ⟨h.os, h.tape, h.output, h.size, fun i hi _ => h.block i hi⟩
theorem Keep.ext (h : Keep S w w') (hs : ∀ k, k < w.heap.size → S k) : Ext w w' := ⟨h.os, h.tape, h.output, h.size, fun i hi => h.block i hi (hs i hi)⟩
theorem Keep.set_ (w : World) (p : Addr) (u : Value) (hp : ¬ S p.block) : Keep S w (w.setCell p u) :=
 ⟨rfl, rfl, rfl, by simp [World.setCell], fun k _ hk => Below.heap_setCell _ _ _ _ (by intro e; exact hp (e ▸ hk))⟩
theorem Keep.pset (h : Keep S a w) (p : Addr) (u : Value) (hp : p.block < a.heap.size → ¬ S p.block) : Keep S a (w.setCell p u) :=
 ⟨h.os, h.tape, h.output, by simpa [World.setCell] using h.size, fun k hk hs => (Below.heap_setCell _ _ _ _ (by intro e; exact hp (e ▸ hk) (e ▸ hs))).trans (h.block k hk hs)⟩
theorem On.out (h : On S P w) : P w := h w (Keep.refl _ _)
theorem On.keep (h : On S P w) (k : Keep S w w') : On S P w' := fun w'' h' => h w'' (k.trans h')
theorem On.ext (h : On S P w) (k : Ext w w') : On S P w' := h.keep (k.keep S)
theorem On.mono (h : On S P w) (hs : ∀ k, k < w.heap.size → S k → S' k) : On S' P w := fun w'' h' => h w'' (h'.mono hs)
theorem On.imp (h : On S P w) (hq : ∀ w', Keep S w w' → P w' → Q w') : On S Q w := fun w'' h' => hq w'' h' (h w'' h')
theorem On.stable (hP : ∀ w w', Ext w w' → P w → P w') (h : P a) (hx : Ext a w) (hs : ∀ k, k < a.heap.size → S k) : On S P w := fun w' hk =>
 hP a w' ⟨hk.os.trans hx.os, hk.tape.trans hx.tape, hk.output.trans hx.output, Nat.le_trans hx.size hk.size, fun i hi => (hk.block i (Nat.lt_of_lt_of_le hi hx.size) (hs i hi)).trans (hx.block i hi)⟩ h
theorem On.const {p : Prop} (h : p) : On S (fun _ => p) w := fun _ _ => h
theorem On.and (h : On S P w) (k : On S Q w) : On S (fun w => P w ∧ Q w) w := fun w' hk => ⟨h w' hk, k w' hk⟩
end
/-- A slice that the call owns; its block lies in [lo, hi), its elements read by R, in S. -/
def RowS {α : Type} (S : Nat → Prop) (T sz : Nat) (R : World → List Value → α → Prop) (lo hi : Nat) (w : World) (v : Value) (l : List α) : Prop :=
 ∃ xs, w.ownsRow lo T sz v l.length xs ∧ (∀ r, v.ownBlock = some r → r < hi) ∧ ∀ k x, l[k]? = some x → ∃ ds, ds.length = sz ∧ (∀ j u, ds[j]? = some u → xs[k * sz + j]? = some u) ∧ On S (fun w => R w ds x) w
section
variable {α : Type} {S S' : Nat → Prop} {T sz lo hi : Nat} {R : World → List Value → α → Prop} {w w' : World} {v : Value} {l : List α}
theorem ownsRow_at {base n : Nat} {xs : List Value} {w w' : World} {v : Value} (h : w.ownsRow base T sz v n xs) (hb : ∀ r, v.ownBlock = some r → w'.heap[r]? = w.heap[r]?) : w'.ownsRow base T sz v n xs := by
 refine ⟨h.1, ?_⟩
 rcases h.2 with h1 | ⟨g, cap, cur, h1, h2, h3, h4⟩
 ·exact .inl h1
 ·exact .inr ⟨g, cap, cur, h1, h2, (hb g (by rw [h1]; rfl)).trans h3, h4⟩
theorem RowS.lt (h : RowS S T sz R lo hi w v l) : ∀ r, v.ownBlock = some r → lo ≤ r ∧ r < hi ∧ r < w.heap.size := by
 obtain ⟨xs, ho, hh, -⟩ := h
 intro r hr
 exact ⟨(ho.lt r hr).1, hh r hr, (ho.lt r hr).2⟩
theorem RowS.keep (h : RowS S T sz R lo hi w v l) (k : Keep S w w') (hb : ∀ r, v.ownBlock = some r → w'.heap[r]? = w.heap[r]?) : RowS S T sz R lo hi w' v l := by
 obtain ⟨xs, ho, hh, hel⟩ := h
 refine ⟨xs, ownsRow_at ho hb, hh, fun i x hx => ?_⟩
 obtain ⟨ds, h1, h2, h3⟩ := hel i x hx
 exact ⟨ds, h1, h2, h3.keep k⟩
theorem RowS.ext (h : RowS S T sz R lo hi w v l) (k : Ext w w') : RowS S T sz R lo hi w' v l := h.keep (k.keep S) (fun r hr => k.block r (h.lt r hr).2.2)
theorem RowS.mono (h : RowS S T sz R lo hi w v l) (hs : ∀ k, k < w.heap.size → S k → S' k) : RowS S' T sz R lo hi w v l := by
 obtain ⟨xs, ho, hh, hel⟩ := h
 refine ⟨xs, ho, hh, fun i x hx => ?_⟩
 obtain ⟨ds, h1, h2, h3⟩ := hel i x hx
 exact ⟨ds, h1, h2, h3.mono hs⟩
theorem RowS.bounds (h : RowS S T sz R lo hi w v l) {lo' hi' : Nat} (h1 : lo' ≤ lo) (h2 : hi ≤ hi') : RowS S T sz R lo' hi' w v l := by
 obtain ⟨xs, ho, hh, hel⟩ := h
 refine ⟨xs, ⟨ho.1, ?_⟩, fun r hr => Nat.lt_of_lt_of_le (hh r hr) h2, hel⟩
 rcases ho.2 with h3 | ⟨g, cap, cur, g1, g2, g3⟩
 ·exact .inl h3
 ·exact .inr ⟨g, cap, cur, g1, Nat.le_trans h1 g2, g3⟩
theorem RowS.imp {β : Type} {R' : World → List Value → β → Prop} {f : α → β} (h : RowS S T sz R lo hi w v l) (hR : ∀ w ds x, R w ds x → R' w ds (f x)) : RowS S T sz R' lo hi w v (l.map f) := by
 obtain ⟨xs, ho, hh, hel⟩ := h
 refine ⟨xs, by rw [List.length_map]; exact ho, hh, fun i x hx => ?_⟩
 rw [List.getElem?_map] at hx
 obtain ⟨y, hy, rfl⟩ := Option.map_eq_some_iff.1 hx
 obtain ⟨ds, h1, h2, h3⟩ := hel i y hy
 exact ⟨ds, h1, h2, h3.imp fun w _ h => hR w _ _ h⟩
theorem RowS.form (h : RowS S T sz R lo hi w v l) : ∃ A c, v = .slice A l.length c := by
 obtain ⟨xs, ho, -⟩ := h
 rcases ho.2 with ⟨rfl, hn⟩ | ⟨g, cap, cur, rfl, -⟩
 ·exact ⟨none, 0, by rw [hn]⟩
 ·exact ⟨_, _, rfl⟩
/-- Other data, read by another relation. -/
theorem RowS.re {β : Type} {R' : World → List Value → β → Prop} {l' : List β} (h : RowS S T sz R lo hi w v l) (hl : l'.length = l.length) (hr : ∀ (k : Nat) (x : α) (x' : β), l[k]? = some x → l'[k]? = some x' → ∀ ds, On S (fun w => R w ds x) w → On S' (fun w => R' w ds x') w) : RowS S' T sz R' lo hi w v l' := by
 obtain ⟨xs, ho, hh, hel⟩ := h
 refine ⟨xs, by rw [hl]; exact ho, hh, fun i x' hi => ?_⟩
 have hlt := (List.getElem?_eq_some_iff.1 hi).1
 obtain ⟨ds, h1, h2, h3⟩ := hel i _ (List.getElem?_eq_getElem (by omega))
 exact ⟨ds, h1, h2, hr i _ _ (List.getElem?_eq_getElem (by omega)) hi ds h3⟩
/-- One of the elements. -/
theorem RowS.at_ {A : Option Addr} {n c : Nat} (h : RowS S T sz R lo hi w (.slice A n c) l) {k : Nat} (hk : k < l.length) :
  ∃ r ds, A = some ⟨r, 0, none⟩ ∧ lo ≤ r ∧ r < hi ∧ r < w.heap.size ∧ n = l.length ∧ n ≤ c ∧ ds.length = sz ∧ (∀ j u, ds[j]? = some u → w.cell? ⟨r, k * sz + j, none⟩ = some u) ∧ (∀ j, w.frozen? ⟨r, j, none⟩ = false) ∧ On S (fun w => R w ds l[k]) w := by
 obtain ⟨xs, ho, hh, hel⟩ := h
 rcases ho.2 with ⟨h1, h2⟩ | ⟨g, cap, cur, h1, hb, hg, hcap, hcm, hcs, htk⟩
 ·omega
 ·injection h1 with e1 e2 e3
  subst e1 e2 e3
  obtain ⟨ds, d1, d2, d3⟩ := hel k _ (List.getElem?_eq_getElem hk)
  refine ⟨g, ds, rfl, hb, hh g rfl, (Array.getElem?_eq_some_iff.1 hg).1, rfl, hcap, d1, fun j u hj => ?_, fun j => ?_, d3⟩
  ·have h6 := d2 j u hj
   rw [← htk, List.getElem?_take] at h6
   split at h6
   ·rw [cell_of_row w g _ cur _ _ hg]
    simpa using h6
   ·cases h6
  ·simp [World.frozen?, hg]
theorem RowS.len {A : Option Addr} {n c : Nat} (h : RowS S T sz R lo hi w (.slice A n c) l) : n = l.length := by
 obtain ⟨A', c', h1⟩ := h.form
 injection h1
/-- One cell of a row. -/
theorem ownsRow_set {base n r o : Nat} {A : Option Addr} {m c : Nat} {xs : List Value} (h : w.ownsRow base T sz (.slice A m c) n xs) (hr : A = some ⟨r, 0, none⟩) (ho : o < n * sz) (u : Value) : (w.setCell ⟨r, o, none⟩ u).ownsRow base T sz (.slice A m c) n (xs.set o u) := by
 refine ⟨by rw [List.length_set]; exact h.1, ?_⟩
 rcases h.2 with h1 | ⟨g, cap, cur, h1, h2, h3, h4, h5, h6, h7⟩
 ·exact .inl h1
 ·injection h1 with e1 e2 e3
  rw [hr] at e1
  injection e1 with e1
  injection e1 with e1 _ _
  subst e1 e2 e3
  refine .inr ⟨r, c, cur.setIfInBounds o u, by rw [hr], h2, ?_, h4, h5, by rw [Array.size_setIfInBounds]; exact h6, ?_⟩
  ·simp [World.setCell, Array.getElem?_modify, h3]
  ·rw [Array.toList_setIfInBounds, List.take_set, h7]
theorem ownsRow_sets {base n r : Nat} {A : Option Addr} {m c : Nat} (hr : A = some ⟨r, 0, none⟩) : ∀ (us : List Value) (o : Nat) (w : World) (xs : List Value), w.ownsRow base T sz (.slice A m c) n xs → o + us.length ≤ n * sz →
  ∃ ys, (w.setCells r o us).ownsRow base T sz (.slice A m c) n ys ∧ (∀ j, j < o ∨ o + us.length ≤ j → ys[j]? = xs[j]?) ∧ (∀ j u, us[j]? = some u → ys[o + j]? = some u)
 | [], o, w, xs, h, _ => ⟨xs, h, fun _ _ => rfl, fun j u hj => by simp at hj⟩
 | a :: us, o, w, xs, h, hl => by
  obtain ⟨ys, h1, h2, h3⟩ := ownsRow_sets hr us (o + 1) _ _ (ownsRow_set h hr (o := o) (by simp at hl; omega) a) (by simp at hl; omega)
  refine ⟨ys, h1, fun j hj => ?_, fun j u hj => ?_⟩
  ·rw [h2 j (by simp at hj; omega), List.getElem?_set_ne (by simp at hj; omega)]
  ·rcases j with _ | j
   ·simp at hj
    subst hj
    rw [Nat.add_zero, h2 o (by omega), List.getElem?_set_self]
    have := h.1
    rw [this]; simp at hl; omega
   ·have := h3 j u (by simpa using hj)
    rwa [show o + 1 + j = o + (j + 1) by omega] at this
theorem Keep.sets {a : World} (r : Nat) (hr : r < a.heap.size → ¬ S r) : ∀ (us : List Value) (o : Nat) (w : World), Keep S a w → Keep S a (w.setCells r o us)
 | [], _, _, h => h
 | u :: us, o, _, h => Keep.sets r hr us (o + 1) _ (h.pset ⟨r, o, none⟩ u hr)
theorem Ext.sets {a : World} (r : Nat) (hr : a.heap.size ≤ r) : ∀ (us : List Value) (o : Nat) (w : World), Ext a w → Ext a (w.setCells r o us)
 | [], _, _, h => h
 | u :: us, o, _, h => Ext.sets r hr us (o + 1) _ (h.pset hr u)
/-- Some of an element's cells are stored anew. -/
theorem RowS.put {r m c k j0 : Nat} {us : List Value} (h : RowS S T sz R lo hi w (.slice (some ⟨r, 0, none⟩) m c) l) (hk : k < l.length) (hj : j0 + us.length ≤ sz) (hr : ¬ S r) {x' : α}
  (hx : ∀ ds, ds.length = sz → On S (fun w => R w ds l[k]) w → ∀ ds', ds'.length = sz → (∀ j, j < j0 ∨ j0 + us.length ≤ j → ds'[j]? = ds[j]?) → (∀ j u, us[j]? = some u → ds'[j0 + j]? = some u) → On S (fun w => R w ds' x') w) :
  RowS S T sz R lo hi (w.setCells r (k * sz + j0) us) (.slice (some ⟨r, 0, none⟩) m c) (l.set k x') := by
 obtain ⟨xs, ho, hh, hel⟩ := h
 have hks : (k + 1) * sz ≤ l.length * sz := Nat.mul_le_mul_right sz hk
 rw [Nat.add_mul, Nat.one_mul] at hks
 obtain ⟨ys, g1, g2, g3⟩ := ownsRow_sets rfl us (k * sz + j0) w xs ho (by omega)
 have hK : Keep S w (w.setCells r (k * sz + j0) us) := Keep.sets r (fun _ => hr) us _ w (Keep.refl _ _)
 have hyl : ys.length = l.length * sz := g1.1
 refine ⟨ys, by rw [List.length_set]; exact g1, hh, fun i x hi => ?_⟩
 by_cases hik : i = k
 ·subst hik
  rw [List.getElem?_set_self hk] at hi
  injection hi with hi
  subst hi
  obtain ⟨ds, d1, d2, d3⟩ := hel i _ (List.getElem?_eq_getElem hk)
  have hd' : ∀ j, j < sz → ((ys.drop (i * sz)).take sz)[j]? = ys[i * sz + j]? := fun j hj => by rw [List.getElem?_take_of_lt hj, List.getElem?_drop]
  refine ⟨(ys.drop (i * sz)).take sz, by rw [List.length_take, List.length_drop]; omega, fun j u hju => ?_, (hx ds d1 d3 _ (by rw [List.length_take, List.length_drop]; omega) (fun j hjj => ?_) (fun j u hju => ?_)).keep hK⟩
  ·have hjs : j < sz := by
    have := (List.getElem?_eq_some_iff.1 hju).1
    rw [List.length_take] at this; omega
   rwa [hd' j hjs] at hju
  ·rcases Nat.lt_or_ge j sz with hjs | hjs
   ·rw [hd' j hjs, g2 _ (by omega)]
    rw [List.getElem?_eq_getElem (by omega : j < ds.length)]
    exact d2 j _ (List.getElem?_eq_getElem (by omega))
   ·rw [List.getElem?_eq_none (by rw [List.length_take]; omega), List.getElem?_eq_none (by omega)]
  ·have hju' := (List.getElem?_eq_some_iff.1 hju).1
   rw [hd' _ (by omega)]
   have := g3 j u hju
   rwa [show i * sz + j0 + j = i * sz + (j0 + j) by omega] at this
 ·rw [List.getElem?_set_ne (by omega)] at hi
  obtain ⟨ds, d1, d2, d3⟩ := hel i x hi
  refine ⟨ds, d1, fun j u hju => ?_, d3.keep hK⟩
  have hjs := (List.getElem?_eq_some_iff.1 hju).1
  rw [g2]
  ·exact d2 j u hju
  ·rcases Nat.lt_or_gt_of_ne hik with h1 | h1
   ·have := Nat.mul_le_mul_right sz (show i + 1 ≤ k from h1)
    rw [Nat.add_mul] at this; omega
   ·have := Nat.mul_le_mul_right sz (show k + 1 ≤ i from h1)
    rw [Nat.add_mul] at this; omega
/-- The slice as data. -/
theorem RowS.arr (h : RowS S T sz R lo hi w v l) (hl : l.length ≤ 1000000) (hS : ∀ r, v.ownBlock = some r → S' r) (hSS : ∀ k, k < w.heap.size → S k → S' k) : On S' (fun w => ArrAt sz R w v l) w := by
 intro w' hk
 have hlt := h.lt
 have h' := h.keep (hk.mono hSS) (fun r hr => hk.block r (hlt r hr).2.2 (hS r hr))
 obtain ⟨xs, ho, -, hel⟩ := h'
 rcases ho.2 with ⟨rfl, hn⟩ | ⟨g, cap, cur, rfl, hb, hg, hcap, hcm, hcs, htk⟩
 ·obtain rfl := List.eq_nil_of_length_eq_zero hn
  exact ArrAt.nil
 ·refine ⟨some ⟨g, 0, none⟩, cap, rfl, hcap, by omega, fun _ => ⟨g, 0, rfl, (Array.getElem?_eq_some_iff.1 hg).1, fun k x hk => ?_⟩⟩
  obtain ⟨ds, h1, h2, h3⟩ := hel k x hk
  refine ⟨ds, h1, fun j u hj => ?_, h3.out⟩
  have h6 := h2 j u hj
  rw [← htk, List.getElem?_take] at h6
  split at h6
  ·rw [cell_of_row w' g _ cur _ _ hg, Nat.zero_add]
   simpa using h6
  ·cases h6
end
theorem ArrAt.old {α : Type} {sz : Nat} {R : World → List Value → α → Prop} {w0 w : World} {v : Value} {xs : List α} (h : ArrAt sz R w0 v xs) (hx : Ext w0 w) : ArrAt sz (fun _ => R w0) w v xs := by
 obtain ⟨A, c, hv, hl, hm, hc⟩ := h
 refine ⟨A, c, hv, hl, hm, fun hne => ?_⟩
 obtain ⟨b, off, hA, hb, hk⟩ := hc hne
 refine ⟨b, off, hA, Nat.lt_of_lt_of_le hb hx.size, fun k x hkx => ?_⟩
 obtain ⟨cs, hcs, hcell, hr'⟩ := hk k x hkx
 exact ⟨cs, hcs, fun j u hj => (hx.cell (p := ⟨b, off + (k * sz + j), none⟩) hb).trans (hcell j u hj), hr'⟩
/-- Slices of words, as slices of elements. -/
theorem Words.arr {w : World} {v : Value} {xs : List Nat} (h : Words w v xs) : ArrAt 1 WordR w v xs := by
 obtain ⟨A, c, hv, hl, hm, hL, hc⟩ := h
 refine ⟨A, c, hv, hl, hm, fun hne => ?_⟩
 obtain ⟨b, off, hA, hb, hk⟩ := hc (List.length_pos_iff.2 hne)
 refine ⟨b, off, hA, hb, fun k x hx => ?_⟩
 obtain ⟨hkl, hx'⟩ := List.getElem?_eq_some_iff.1 hx
 refine ⟨[.int .u32 (x : Int)], rfl, fun j u hj => ?_, rfl, hL x (by rw [← hx']; exact List.getElem_mem hkl)⟩
 rcases j with _ | j
 ·simp at hj
  subst hj
  have := hk k hkl
  rw [List.getD_eq_getElem?_getD, hx] at this
  simpa using this
 ·simp at hj
theorem ArrAt.words {w : World} {v : Value} {xs : List Nat} (h : ArrAt 1 WordR w v xs) : Words w v xs := by
 obtain ⟨A, c, hv, hl, hm, hc⟩ := h
 have hel : ∀ (hne : xs ≠ []) k (hk : k < xs.length), ∃ b off, A = some ⟨b, off, none⟩ ∧ b < w.heap.size ∧ w.cell? ⟨b, off + k, none⟩ = some (.int .u32 ((xs.getD k 0 : Nat) : Int)) ∧ xs[k] < 4294967296 := by
  intro hne k hk
  obtain ⟨b, off, hA, hb, hx⟩ := hc hne
  obtain ⟨cs, h1, h2, h3, h4⟩ := hx k _ (List.getElem?_eq_getElem hk)
  refine ⟨b, off, hA, hb, ?_, h4⟩
  rw [h3] at h2
  have := h2 0 _ rfl
  rw [List.getD_eq_getElem?_getD, List.getElem?_eq_getElem hk]
  simpa using this
 refine ⟨A, c, hv, hl, hm, fun x hx => ?_, fun h0 => ?_⟩
 ·obtain ⟨k, hk, rfl⟩ := List.mem_iff_getElem.1 hx
  obtain ⟨_, _, _, _, _, h4⟩ := hel (by intro e; rw [e] at hk; simp at hk) k hk
  exact h4
 ·have hne : xs ≠ [] := List.length_pos_iff.1 h0
  obtain ⟨b, off, hA, hb, -⟩ := hc hne
  refine ⟨b, off, hA, hb, fun k hk => ?_⟩
  obtain ⟨b', off', hA', -, h3, -⟩ := hel hne k hk
  rw [hA] at hA'
  injection hA' with hA'
  injection hA' with e1 e2 _
  subst e1 e2
  exact h3
end Go.Proofs.YtmddjbmelajadaaGreatDoor
namespace Go.Proofs.YtmddjbmelajadaaGreatDoor
open Go Go.RowKit Go.ChangeShapes Go.WideShapes Go.Deep
section
variable {H : Type} {enc : TypeId × Value → H} {w : World}
/-- The reading of the arguments. -/
noncomputable abbrev TR (enc : TypeId × Value → H) (w : World) (n : Nat) (t : TypeId) (cs : List Value) : Option (DataW H × List MemPlace) := DataW.trod enc Tryz.prog w 0 (fun _ => true) true n t cs
/-- All weights within the reach. -/
def Fits (l : List Nat) : Prop := l.all (· ≤ reachBytes) = true
theorem Fits.left {l m : List Nat} (h : Fits (l ++ m)) : Fits l := by unfold Fits at *; rw [List.all_append, Bool.and_eq_true] at h; exact h.1
theorem Fits.right {l m : List Nat} (h : Fits (l ++ m)) : Fits m := by unfold Fits at *; rw [List.all_append, Bool.and_eq_true] at h; exact h.2
theorem Fits.head {a : Nat} {l : List Nat} (h : Fits (a :: l)) : a ≤ reachBytes := by unfold Fits at h; simp at h; exact h.1
theorem Fits.tail {a : Nat} {l : List Nat} (h : Fits (a :: l)) : Fits l := by unfold Fits at *; simp at h ⊢; exact h.2
theorem fits_all {e : TypeId} {l : List (DataW H)} (h : Fits (DataW.weightsAll Tryz.prog e l)) : ∀ d ∈ l, Fits (d.weights Tryz.prog e) := by
 induction l with
 | nil => simp
 | cons a l ih =>
  intro d hd
  rw [DataW.weightsAll] at h
  rcases List.mem_cons.1 hd with rfl | hd
  ·exact h.left
  ·exact ih h.right d hd
theorem spot_none {a : Addr} {v : Value} (h : w.cell? a = some v) : a = ⟨a.block, a.off, none⟩ ∧ a.block < w.heap.size := by
 unfold World.cell? at h
 obtain ⟨b, o, s⟩ := a
 simp only at h ⊢
 have hlt : b < w.heap.size := by
  rcases Nat.lt_or_ge b w.heap.size with h1 | h1
  ·exact h1
  ·rw [Array.getElem?_eq_none h1] at h; cases h
 cases s with
 | none => exact ⟨rfl, hlt⟩
 | some s => (split at h <;> simp at h)
/-- A slice of structs. -/
theorem arr_read {α : Type} [Inhabited α] {t e : TypeId} {sz bytes : Nat} {R : World → List Value → α → Prop} {n : Nat} {cs : List Value} {x : DataW H × List MemPlace} (ht : Tryz.prog.underlying t = some (.slice e)) (hc : Tryz.prog.cellsOf e = sz) (hsz : 0 < sz) (hb : Tryz.prog.bytesOf e = bytes) (h4 : 4 ≤ bytes)
  (h : TR enc w n t cs = some x) (hw : Fits (x.1.weights Tryz.prog t)) (elem : ∀ m ds y, m < n → ds.length = sz → TR enc w m e ds = some y → Fits (y.1.weights Tryz.prog e) → ∃ a, R w ds a) :
  ∃ v xs, cs = [v] ∧ ArrAt sz R w v xs ∧ ∀ A l c, v = .slice A l c → c ≤ 35184372088832 := by
 rcases DataW.trod_slice ht h with ⟨rfl, -⟩ | ⟨a, len, cap, elems, rest, m, hn, rfl, rfl, -, hl, hm, hlen, hel, hsp, -⟩
 ·exact ⟨_, [], rfl, ⟨none, 0, rfl, Nat.le_refl _, by simp, fun h => absurd rfl h⟩, fun A l c e => by cases e; omega⟩
 ·have hrl := (hsp rfl).1
  simp only [DataW.weights, ht] at hw
  have hw0 := hw.head
  rw [List.length_map, List.length_map, hlen, hrl, hb] at hw0
  have hcap : len + (cap - len) = cap := by omega
  rw [hcap] at hw0
  have hreach : reachBytes ≤ 140737488355328 := by decide
  have hcl : cap * 4 ≤ cap * bytes := Nat.mul_le_mul_left _ h4
  have hcap2 : cap ≤ 35184372088832 := by omega
  have hall := fits_all (hw.tail.left)
  have key : ∀ i, i < len → ∃ p : α × List Value, p.2.length = sz ∧ (∀ j u, p.2[j]? = some u → w.cell? ((a.add (i * sz)).add j) = some u) ∧ R w p.2 p.1 := by
   intro i hi
   have h1 := hel i hi
   rw [hc, List.getElem?_eq_getElem (by omega)] at h1
   obtain ⟨ds, h2, h3⟩ := Option.bind_eq_some_iff.1 h1
   obtain ⟨-, h5, h6⟩ := World.cells?_some h2
   obtain ⟨y, hy⟩ := elem m ds _ (by omega) h5 h3 (hall _ (List.mem_map.2 ⟨_, List.getElem_mem (show i < elems.length by omega), rfl⟩))
   refine ⟨(y, ds), h5, fun j u hj => ?_, hy⟩
   have hj' : j < sz := by rw [← h5]; exact (List.getElem?_eq_some_iff.1 hj).1
   rw [h6 j hj']; exact hj
  obtain ⟨f, hf⟩ := choose_lt (α := α × List Value) key
  refine ⟨_, (List.range len).map fun i => (f i).1, rfl, ⟨some a, cap, by simp, by simpa using hl, by simp; omega, fun hne => ?_⟩, fun A l c e => by cases e; exact hcap2⟩
  have h0 : 0 < len := by
   rcases Nat.eq_zero_or_pos len with h0 | h0
   ·subst h0; simp at hne
   ·exact h0
  obtain ⟨g1, g2, g3⟩ := hf 0 h0
  obtain ⟨u0, hu0⟩ : ∃ u, (f 0).2[0]? = some u := ⟨_, List.getElem?_eq_getElem (by omega)⟩
  have hc0 := g2 0 u0 hu0
  rw [Nat.zero_mul] at hc0
  have hadd : (a.add 0).add 0 = a := by simp [Addr.add]
  rw [hadd] at hc0
  obtain ⟨hs, hlt⟩ := spot_none hc0
  refine ⟨a.block, a.off, by rw [← hs], hlt, fun k x hk => ?_⟩
  have hkl : k < len := by have := (List.getElem?_eq_some_iff.1 hk).1; simpa using this
  obtain ⟨g1, g2, g3⟩ := hf k hkl
  refine ⟨(f k).2, g1, fun j u hj => ?_, ?_⟩
  ·have := g2 j u hj
   rw [hs, add_add, Addr.add_lit] at this
   exact this
  ·have : x = (f k).1 := by
    rw [List.getElem?_map, List.getElem?_range hkl] at hk
    simpa using hk.symm
   rw [this]; exact g3
end
end Go.Proofs.YtmddjbmelajadaaGreatDoor
namespace Go.Proofs.YtmddjbmelajadaaGreatDoor
open Go Go.RowKit Go.ChangeShapes Go.WideShapes Go.Deep
theorem cBool : Tryz.prog.cellsOf 4 = 1 := by kernel_rfl
theorem cInt : Tryz.prog.cellsOf 3 = 1 := by kernel_rfl
theorem cStr : Tryz.prog.cellsOf 9 = 1 := by kernel_rfl
theorem cInts : Tryz.prog.cellsOf 23 = 1 := by kernel_rfl
section
variable {H : Type} {enc : TypeId × Value → H} {w : World}
theorem two_of {α : Type} {l : List α} (h : l.length = 2) : ∃ a b, l = [a, b] := by
 match l, h with
 | [a, b], _ => exact ⟨a, b, rfl⟩
theorem four_of {α : Type} {l : List α} (h : l.length = 4) : ∃ a b c d, l = [a, b, c, d] := by
 match l, h with
 | [a, b, c, d], _ => exact ⟨a, b, c, d, rfl⟩
end
end Go.Proofs.YtmddjbmelajadaaGreatDoor
namespace Go.Proofs.YtmddjbmelajadaaGreatDoor
open Go Go.RowKit Go.ChangeShapes Go.WideShapes Go.Deep
theorem seven_ofX {α : Type} {l : List α} (h : l.length = 7) : ∃ a b c d e f g, l = [a, b, c, d, e, f, g] := by
 match l, h with
 | [a, b, c, d, e, f, g], _ => exact ⟨a, b, c, d, e, f, g, rfl⟩
theorem eight_of {α : Type} {l : List α} (h : l.length = 8) : ∃ a b c d e f g i, l = [a, b, c, d, e, f, g, i] := by
 match l, h with
 | [a, b, c, d, e, f, g, i], _ => exact ⟨a, b, c, d, e, f, g, i, rfl⟩
section
variable {H : Type} {enc : TypeId × Value → H} {w : World}
theorem int_read {n : Nat} {cs : List Value} {x : DataW H × List MemPlace} (h : TR enc w n 3 cs = some x) : ∃ k : Int, cs = [.int .i64 k] := by
 obtain ⟨k, h1, _⟩ := DataW.trod_int Tryz.underlying3 h
 exact ⟨k, h1⟩
instance : Inhabited ZI := ⟨⟨false, []⟩⟩
instance : Inhabited QI := ⟨⟨default, default⟩⟩
instance : Inhabited PtI := ⟨⟨default, default⟩⟩
instance : Inhabited RdI := ⟨⟨0, default⟩⟩
instance : Inhabited SgI := ⟨⟨0, 0⟩⟩
instance : Inhabited ArI := ⟨⟨0, 0, 0, false⟩⟩
instance : Inhabited PcI := ⟨⟨false, 0, false⟩⟩
instance : Inhabited EI := ⟨.mk 0 default ⟨#[]⟩ []⟩
instance : Inhabited CI := ⟨⟨0, [], [], [], 0⟩⟩
theorem ints_read {n : Nat} {cs : List Value} {x : DataW H × List MemPlace} (h : TR enc w n 23 cs = some x) (hw : Fits (x.1.weights Tryz.prog 23)) : ∃ v xs, cs = [v] ∧ Ints w v xs := by
 obtain ⟨v, xs, rfl, ha, -⟩ := arr_read (R := IntR) (sz := 1) (bytes := 8) Tryz.underlying23 cInt (by omega) (by kernel_rfl) (by omega) h hw (fun m ds y _ _ hy _ => by
  obtain ⟨k, rfl⟩ := int_read hy
  exact ⟨k, rfl⟩)
 exact ⟨v, xs, rfl, ha⟩
end
end Go.Proofs.YtmddjbmelajadaaGreatDoor
