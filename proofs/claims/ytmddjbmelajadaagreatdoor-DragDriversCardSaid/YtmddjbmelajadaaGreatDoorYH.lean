/- The example of the statements of layer 26. -/
import Derived.Test.YtmddjbmelajadaaGreatDoorYF
import Derived.Test.YtmddjbmelajadaaGreatDoorYE
import Derived.Deep.Upon
namespace Go.Proofs.YtmddjbmelajadaaGreatDoor
open Go Go.RowKit
theorem ArrAt.nil {α : Type} {sz : Nat} {R : World → List Value → α → Prop} {w : World} : ArrAt sz R w (.slice none 0 0) ([] : List α) :=
 ⟨none, 0, rfl, Nat.le_refl _, by simp, fun h => absurd rfl h⟩
end Go.Proofs.YtmddjbmelajadaaGreatDoor
namespace Go.Proofs.YtmddjbmelajadaaGreatDoor
open Go Go.RowKit
/-- A point on a circle. -/
def onC (pc : Int × Int) : CI := ⟨13, [pc.1], [pc.2], [], 0⟩
def onV (bp bc : Nat) : List Value := [.int .i64 13, .slice (some ⟨bp, 0, none⟩) 1 1, .slice (some ⟨bc, 0, none⟩) 1 1, .slice none 0 0, .int .i64 0]
/-- The list of constraints, whose numbers lie in blocks of their own. -/
def OutAt (base : Nat) (w : World) (v : Value) (l : List (Int × Int)) : Prop :=
 ∃ xs, w.ownsRow base 72 5 v l.length xs ∧ ∀ k pc, l[k]? = some pc → ∃ bp bc, (∀ j u, (onV bp bc)[j]? = some u → xs[k * 5 + j]? = some u) ∧ CellsAt w bp [.int .i64 pc.1] ∧ CellsAt w bc [.int .i64 pc.2] ∧ some bp ≠ v.ownBlock ∧ some bc ≠ v.ownBlock
theorem OutAt.nil (base : Nat) (w : World) : OutAt base w (.slice none 0 0) [] := ⟨[], World.ownsRow_nil _ _ _ _, fun k pc h => by simp at h⟩
theorem OutAt.ext {base : Nat} {w w' : World} {v : Value} {l : List (Int × Int)} (h : OutAt base w v l) (hx : Ext w w') : OutAt base w' v l := by
 obtain ⟨xs, ho, hel⟩ := h
 refine ⟨xs, ownsRow_ext ho hx, fun k pc hk => ?_⟩
 obtain ⟨bp, bc, h1, h2, h3, h4, h5⟩ := hel k pc hk
 exact ⟨bp, bc, h1, h2.ext hx, h3.ext hx, h4, h5⟩
theorem ints_one {w : World} {g c : Nat} {x : Int} (h : CellsAt w g [.int .i64 x]) (hc : 1 ≤ c) : Ints w (.slice (some ⟨g, 0, none⟩) 1 c) [x] := by
 refine ⟨some ⟨g, 0, none⟩, c, rfl, hc, by simp, fun _ => ⟨g, 0, rfl, h.1, fun k y hk => ?_⟩⟩
 rcases k with _ | k
 ·simp at hk
  subst hk
  refine ⟨[.int .i64 x], rfl, fun j u hj => ?_, rfl⟩
  have := h.2 j u hj
  simpa using this
 ·simp at hk
theorem OutAt.form {base : Nat} {w : World} {v : Value} {l : List (Int × Int)} (h : OutAt base w v l) : ∃ A c, v = .slice A l.length c := by
 obtain ⟨xs, ho, -⟩ := h
 rcases ho.2 with ⟨rfl, hn⟩ | ⟨g, cap, cur, rfl, -⟩
 ·exact ⟨none, 0, by rw [hn]⟩
 ·exact ⟨_, _, rfl⟩
theorem OutAt.arr {base : Nat} {w : World} {v : Value} {l : List (Int × Int)} (K : Nat) (h : OutAt base w v l) (hl : l.length ≤ 1000000) : ArrAt 5 (ConR K) w v (l.map onC) := by
 obtain ⟨xs, ho, hel⟩ := h
 rcases ho.2 with ⟨rfl, hn⟩ | ⟨g, cap, cur, rfl, hb, hg, hcap, hcm, hcs, htk⟩
 ·obtain rfl := List.eq_nil_of_length_eq_zero hn
  exact ArrAt.nil
 ·refine ⟨some ⟨g, 0, none⟩, cap, by simp, by simpa using hcap, by simp; omega, fun _ => ⟨g, 0, rfl, (Array.getElem?_eq_some_iff.1 hg).1, fun k x hk => ?_⟩⟩
  rw [List.getElem?_map] at hk
  obtain ⟨pc, hpc, rfl⟩ := Option.map_eq_some_iff.1 hk
  obtain ⟨bp, bc, h1, h2, h3, -, -⟩ := hel k pc hpc
  refine ⟨onV bp bc, rfl, fun j u hj => ?_, _, _, _, rfl, ints_one h2 (Nat.le_refl _), ints_one h3 (Nat.le_refl _), ArrAt.nil⟩
  have h6 := h1 j u hj
  rw [← htk, List.getElem?_take] at h6
  split at h6
  ·rw [cell_of_row w g _ cur _ _ hg, Nat.zero_add]
   simpa using h6
  ·cases h6
theorem OutAt.grow {base : Nat} {X w' : World} {v : Value} {l : List (Int × Int)} {xs : List Value} (hel : ∀ k pc, l[k]? = some pc → ∃ bp bc, (∀ j u, (onV bp bc)[j]? = some u → xs[k * 5 + j]? = some u) ∧ CellsAt X bp [.int .i64 pc.1] ∧ CellsAt X bc [.int .i64 pc.2] ∧ some bp ≠ v.ownBlock ∧ some bc ≠ v.ownBlock)
  (hxs : xs.length = l.length * 5) {pc : Int × Int} {bp bc g cap : Nat} (hp : CellsAt X bp [.int .i64 pc.1]) (hc : CellsAt X bc [.int .i64 pc.2]) (np : some bp ≠ v.ownBlock) (nc : some bc ≠ v.ownBlock)
  (hown : w'.ownsRow base 72 5 (.slice (some ⟨g, 0, none⟩) (l.length + 1) cap) (l.length + 1) (xs ++ onV bp bc)) (hg : X.grownBy w' v.ownBlock) (hat : v.ownBlock = some g ∨ g = X.heap.size) :
  OutAt base w' (.slice (some ⟨g, 0, none⟩) (l.length + 1) cap) (l ++ [pc]) := by
 have keep : ∀ b c, CellsAt X b c → some b ≠ v.ownBlock → CellsAt w' b c ∧ some b ≠ (Value.slice (some ⟨g, 0, none⟩) (l.length + 1) cap).ownBlock := by
  intro b c hb hne
  refine ⟨⟨Nat.lt_of_lt_of_le hb.1 hg.size, fun i u hi => (hg.cell_far ⟨b, i, none⟩ hb.1 hne).trans (hb.2 i u hi)⟩, ?_⟩
  intro e
  simp [Value.ownBlock] at e
  subst e
  rcases hat with h1 | h1
  ·exact hne h1.symm
  ·exact absurd hb.1 (by omega)
 refine ⟨xs ++ onV bp bc, by simpa using hown, fun k qc hk => ?_⟩
 rcases Nat.lt_or_ge k l.length with hlt | hge
 ·rw [List.getElem?_append_left hlt] at hk
  obtain ⟨b1, b2, h1, h2, h3, h4, h5⟩ := hel k qc hk
  refine ⟨b1, b2, fun j u hj => ?_, (keep _ _ h2 h4).1, (keep _ _ h3 h5).1, (keep _ _ h2 h4).2, (keep _ _ h3 h5).2⟩
  have := h1 j u hj
  rw [List.getElem?_append_left ((List.getElem?_eq_some_iff.1 this).1)]
  exact this
 ·rw [List.getElem?_append_right hge] at hk
  have hk0 : k = l.length := by
   have := (List.getElem?_eq_some_iff.1 hk).1
   simp at this; omega
  subst hk0
  simp at hk
  subst hk
  refine ⟨bp, bc, fun j u hj => ?_, (keep _ _ hp np).1, (keep _ _ hc nc).1, (keep _ _ hp np).2, (keep _ _ hc nc).2⟩
  rw [List.getElem?_append_right (by omega), show l.length * 5 + j - xs.length = j by omega]
  exact hj
end Go.Proofs.YtmddjbmelajadaaGreatDoor
namespace Go.Proofs.YtmddjbmelajadaaGreatDoor
open Go Go.RowKit
theorem CellsAt.far {X w' : World} {row : Option Nat} {b : Nat} {cs : List Value} (h : CellsAt X b cs) (hg : X.grownBy w' row) (hne : some b ≠ row) : CellsAt w' b cs :=
 ⟨Nat.lt_of_lt_of_le h.1 hg.size, fun i u hi => (hg.cell_far ⟨b, i, none⟩ h.1 hne).trans (h.2 i u hi)⟩
end Go.Proofs.YtmddjbmelajadaaGreatDoor
namespace Go.Proofs.YtmddjbmelajadaaGreatDoor
open Go Go.RowKit
/-- What R says holds whatever becomes of one row. -/
def Off {α : Type} (row : Option Nat) (R : World → List Value → α → Prop) (w : World) (ds : List Value) (x : α) : Prop := ∀ w', w.grownBy w' row → R w' ds x
theorem grownBy_refl (w : World) (row : Option Nat) : w.grownBy w row := ⟨rfl, rfl, rfl, Nat.le_refl _, fun _ _ _ => rfl⟩
theorem grownBy_ext {w a b : World} {row : Option Nat} (h : Ext w a) (hg : a.grownBy b row) : w.grownBy b row :=
 ⟨hg.os.trans h.os, hg.tape.trans h.tape, hg.output.trans h.output, Nat.le_trans h.size hg.size, fun k hk hne => (hg.block k (Nat.lt_of_lt_of_le hk h.size) hne).trans (h.block k hk)⟩
theorem Off.out {α : Type} {row : Option Nat} {R : World → List Value → α → Prop} {w : World} {ds : List Value} {x : α} (h : Off row R w ds x) : R w ds x := h w (grownBy_refl w row)
theorem Off.ext {α : Type} {row : Option Nat} {R : World → List Value → α → Prop} {w w' : World} {ds : List Value} {x : α} (h : Off row R w ds x) (hx : Ext w w') : Off row R w' ds x := fun w'' hg => h w'' (grownBy_ext hx hg)
/-- Another row, which lies in no block that was there, or in the same one. -/
theorem Off.grown {α : Type} {row : Option Nat} {g : Nat} {R : World → List Value → α → Prop} {w w' : World} {ds : List Value} {x : α} (h : Off row R w ds x) (hg : w.grownBy w' row) (hat : row = some g ∨ g = w.heap.size) : Off (some g) R w' ds x := fun w'' hg' =>
 h w'' ⟨hg'.os.trans hg.os, hg'.tape.trans hg.tape, hg'.output.trans hg.output, Nat.le_trans hg.size hg'.size, fun k hk hne => (hg'.block k (Nat.lt_of_lt_of_le hk hg.size) (by
  intro e
  injection e with e
  subst e
  rcases hat with h1 | h1
  ·exact hne h1.symm
  ·omega)).trans (hg.block k hk hne)⟩
/-- Whatever lay there ahead of the row. -/
theorem Off.of_stable {α : Type} {row : Option Nat} {R : World → List Value → α → Prop} {w0 w : World} {ds : List Value} {x : α} (hR : Stable R) (h : R w0 ds x) (hx : Ext w0 w) (hr : ∀ r, row = some r → w0.heap.size ≤ r) : Off row R w ds x := fun _ hg => hR _ _ _ _ (ext_grown hg hx hr) h
/-- A slice that the call owns, and what its elements read as. -/
def RowOf {α : Type} (T sz : Nat) (R : World → List Value → α → Prop) (base : Nat) (w : World) (v : Value) (l : List α) : Prop :=
 ∃ xs, w.ownsRow base T sz v l.length xs ∧ ∀ k x, l[k]? = some x → ∃ ds, ds.length = sz ∧ (∀ j u, ds[j]? = some u → xs[k * sz + j]? = some u) ∧ Off v.ownBlock R w ds x
section
variable {α : Type} {T sz : Nat} {R : World → List Value → α → Prop} {base : Nat} {w w' : World} {v : Value} {l : List α}
theorem RowOf.nil : RowOf T sz R base w (.slice none 0 0) ([] : List α) := ⟨[], World.ownsRow_nil _ _ _ _, fun k x h => by simp at h⟩
theorem RowOf.ext (h : RowOf T sz R base w v l) (hx : Ext w w') : RowOf T sz R base w' v l := by
 obtain ⟨xs, ho, hel⟩ := h
 refine ⟨xs, ownsRow_ext ho hx, fun k x hk => ?_⟩
 obtain ⟨ds, h1, h2, h3⟩ := hel k x hk
 exact ⟨ds, h1, h2, h3.ext hx⟩
theorem RowOf.form (h : RowOf T sz R base w v l) : ∃ A c, v = .slice A l.length c := by
 obtain ⟨xs, ho, -⟩ := h
 rcases ho.2 with ⟨rfl, hn⟩ | ⟨g, cap, cur, rfl, -⟩
 ·exact ⟨none, 0, by rw [hn]⟩
 ·exact ⟨_, _, rfl⟩
theorem RowOf.lt (h : RowOf T sz R base w v l) : ∀ r, v.ownBlock = some r → base ≤ r ∧ r < w.heap.size := by
 obtain ⟨xs, ho, -⟩ := h
 exact ho.lt
theorem RowOf.arr (h : RowOf T sz R base w v l) (hl : l.length ≤ 1000000) : ArrAt sz R w v l := by
 obtain ⟨xs, ho, hel⟩ := h
 rcases ho.2 with ⟨rfl, hn⟩ | ⟨g, cap, cur, rfl, hb, hg, hcap, hcm, hcs, htk⟩
 ·obtain rfl := List.eq_nil_of_length_eq_zero hn
  exact ArrAt.nil
 ·refine ⟨some ⟨g, 0, none⟩, cap, rfl, hcap, by omega, fun _ => ⟨g, 0, rfl, (Array.getElem?_eq_some_iff.1 hg).1, fun k x hk => ?_⟩⟩
  obtain ⟨ds, h1, h2, h3⟩ := hel k x hk
  refine ⟨ds, h1, fun j u hj => ?_, h3.out⟩
  have h6 := h2 j u hj
  rw [← htk, List.getElem?_take] at h6
  split at h6
  ·rw [cell_of_row w g _ cur _ _ hg, Nat.zero_add]
   simpa using h6
  ·cases h6
/-- Behind an append. -/
theorem RowOf.append {X : World} {xs news : List Value} {m g cap : Nat} {l' : List α} (hxs : xs.length = l.length * sz) (hel : ∀ k x, l[k]? = some x → ∃ ds, ds.length = sz ∧ (∀ j u, ds[j]? = some u → xs[k * sz + j]? = some u) ∧ Off v.ownBlock R X ds x)
  (hel' : ∀ k x, l'[k]? = some x → ∃ ds, ds.length = sz ∧ (∀ j u, ds[j]? = some u → news[k * sz + j]? = some u) ∧ Off v.ownBlock R X ds x) (hm : l'.length = m)
  (hown : w'.ownsRow base T sz (.slice (some ⟨g, 0, none⟩) (l.length + m) cap) (l.length + m) (xs ++ news)) (hg : X.grownBy w' v.ownBlock) (hat : v.ownBlock = some g ∨ g = X.heap.size) :
  RowOf T sz R base w' (.slice (some ⟨g, 0, none⟩) (l ++ l').length cap) (l ++ l') := by
 subst hm
 refine ⟨xs ++ news, by rw [List.length_append]; exact hown, fun k x hk => ?_⟩
 rcases Nat.lt_or_ge k l.length with hlt | hge
 ·rw [List.getElem?_append_left hlt] at hk
  obtain ⟨ds, h1, h2, h3⟩ := hel k x hk
  refine ⟨ds, h1, fun j u hj => ?_, h3.grown hg hat⟩
  have := h2 j u hj
  rw [List.getElem?_append_left ((List.getElem?_eq_some_iff.1 this).1)]
  exact this
 ·rw [List.getElem?_append_right hge] at hk
  obtain ⟨ds, h1, h2, h3⟩ := hel' _ x hk
  refine ⟨ds, h1, fun j u hj => ?_, h3.grown hg hat⟩
  have := h2 j u hj
  rw [List.getElem?_append_right (by rw [hxs]; have := Nat.mul_le_mul_right sz hge; omega)]
  rw [show k * sz + j - xs.length = (k - l.length) * sz + j by rw [hxs, Nat.sub_mul]; have := Nat.mul_le_mul_right sz hge; omega]
  exact this
end
/-- The cells of a slice of structs, one behind the other. -/
theorem ArrAt.flat {α : Type} {sz : Nat} {R : World → List Value → α → Prop} {w : World} : ∀ {xs : List α} {b off : Nat}, (∀ k x, xs[k]? = some x → ∃ cs : List Value, cs.length = sz ∧ (∀ j u, cs[j]? = some u → w.cell? ⟨b, off + (k * sz + j), none⟩ = some u) ∧ R w cs x) →
  ∃ news : List Value, news.length = xs.length * sz ∧ (∀ j u, news[j]? = some u → w.cell? (Addr.add ⟨b, off, none⟩ j) = some u) ∧ (∀ u ∈ news, ∃ (k : Nat) (x : α) (cs : List Value), xs[k]? = some x ∧ R w cs x ∧ u ∈ cs) ∧ ∀ k x, xs[k]? = some x → ∃ ds, ds.length = sz ∧ (∀ j u, ds[j]? = some u → news[k * sz + j]? = some u) ∧ R w ds x := by
 intro xs
 induction xs with
 | nil => intro b off _; exact ⟨[], by simp, fun j u h => by simp at h, fun u h => by simp at h, fun k x h => by simp at h⟩
 | cons a l ih =>
  intro b off h
  obtain ⟨cs, h1, h2, h3⟩ := h 0 a rfl
  obtain ⟨news, n1, n2, n3, n4⟩ := ih (b := b) (off := off + sz) (fun k x hk => by
   obtain ⟨ds, d1, d2, d3⟩ := h (k + 1) x (by simpa using hk)
   refine ⟨ds, d1, fun j u hj => ?_, d3⟩
   have := d2 j u hj
   rw [show off + ((k + 1) * sz + j) = off + sz + (k * sz + j) by rw [Nat.add_mul]; omega] at this
   exact this)
  refine ⟨cs ++ news, by rw [List.length_append, h1, n1, List.length_cons, Nat.add_mul]; omega, fun j u hj => ?_, fun u hu => ?_, fun k x hk => ?_⟩
  ·rw [Addr.add_lit]
   rcases Nat.lt_or_ge j cs.length with hlt | hge
   ·rw [List.getElem?_append_left hlt] at hj
    have := h2 j u hj
    rw [Nat.zero_mul, Nat.zero_add] at this
    exact this
   ·rw [List.getElem?_append_right hge] at hj
    have := n2 _ u hj
    rw [Addr.add_lit, show off + sz + (j - cs.length) = off + j by omega] at this
    exact this
  ·rcases List.mem_append.1 hu with hu | hu
   ·exact ⟨0, a, cs, rfl, h3, hu⟩
   ·obtain ⟨k, x, ds, e1, e2, e3⟩ := n3 u hu
    exact ⟨k + 1, x, ds, by simpa using e1, e2, e3⟩
  ·rcases k with _ | k
   ·simp at hk
    subst hk
    refine ⟨cs, h1, fun j u hj => ?_, h3⟩
    rw [Nat.zero_mul, Nat.zero_add, List.getElem?_append_left ((List.getElem?_eq_some_iff.1 hj).1)]
    exact hj
   ·obtain ⟨ds, d1, d2, d3⟩ := n4 k x (by simpa using hk)
    refine ⟨ds, d1, fun j u hj => ?_, d3⟩
    rw [List.getElem?_append_right (by rw [h1, Nat.add_mul]; omega), show (k + 1) * sz + j - cs.length = k * sz + j by rw [h1, Nat.add_mul]; omega]
    exact d2 j u hj
end Go.Proofs.YtmddjbmelajadaaGreatDoor
namespace Go.Proofs.YtmddjbmelajadaaGreatDoor
open Go Go.RowKit
theorem ArrAt.off {α : Type} {sz : Nat} {R : World → List Value → α → Prop} (hR : Stable R) {w0 w : World} {v : Value} {xs : List α} (h : ArrAt sz R w0 v xs) (hx : Ext w0 w) {row : Option Nat} (hr : ∀ r, row = some r → w0.heap.size ≤ r) : ArrAt sz (Off row R) w v xs := by
 obtain ⟨A, c, hv, hl, hm, hc⟩ := h
 refine ⟨A, c, hv, hl, hm, fun hne => ?_⟩
 obtain ⟨b, off, hA, hb, hk⟩ := hc hne
 refine ⟨b, off, hA, Nat.lt_of_lt_of_le hb hx.size, fun k x hkx => ?_⟩
 obtain ⟨cs, hcs, hcell, hr'⟩ := hk k x hkx
 exact ⟨cs, hcs, fun j u hj => (hx.cell (p := ⟨b, off + (k * sz + j), none⟩) hb).trans (hcell j u hj), Off.of_stable hR hr' hx hr⟩
theorem ArrAt.const {α : Type} {sz : Nat} {R : World → List Value → α → Prop} {w0 w : World} {v : Value} {xs : List α} (h : ArrAt sz R w0 v xs) (hx : Ext w0 w) (row : Option Nat) : ArrAt sz (Off row (fun _ ds x => R w0 ds x)) w v xs := by
 obtain ⟨A, c, hv, hl, hm, hc⟩ := h
 refine ⟨A, c, hv, hl, hm, fun hne => ?_⟩
 obtain ⟨b, off, hA, hb, hk⟩ := hc hne
 refine ⟨b, off, hA, Nat.lt_of_lt_of_le hb hx.size, fun k x hkx => ?_⟩
 obtain ⟨cs, hcs, hcell, hr'⟩ := hk k x hkx
 exact ⟨cs, hcs, fun j u hj => (hx.cell (p := ⟨b, off + (k * sz + j), none⟩) hb).trans (hcell j u hj), fun _ _ => hr'⟩
theorem RowOf.far {α : Type} {T sz : Nat} {S : List Value → α → Prop} {base : Nat} {w w' : World} {v : Value} {l : List α} {row : Option Nat} (h : RowOf T sz (fun _ => S) base w v l) (hg : w.grownBy w' row) (hne : v.ownBlock = none ∨ v.ownBlock ≠ row) : RowOf T sz (fun _ => S) base w' v l := by
 obtain ⟨xs, ho, hel⟩ := h
 refine ⟨xs, ho.kept hg hne, fun k x hk => ?_⟩
 obtain ⟨ds, h1, h2, h3⟩ := hel k x hk
 exact ⟨ds, h1, h2, fun _ _ => h3.out⟩
section
variable {P : Program}
theorem run_append_row (w : World) (t ty e : TypeId) (i : TypeInfo) (z : Value) (size bytes : Nat) (ht : P.underlying t = some (.slice e)) (hi : P.info? e = some i) (hz : i.zero = some z) (hsize : i.size = size) (hby : i.bytes = bytes) (hzs : z.cells.size = size) (hsz : 0 < size)
  {α : Type} {R : World → List Value → α → Prop} {base : Nat} {v : Value} {l : List α} (hrow : RowOf e size R base w v l) {xv : Value} {ys : List α} (hsrc : ArrAt size (Off v.ownBlock R) w xv ys) (hone : ∀ w ds x, R w ds x → ∀ u ∈ ds, u.oneCell' = true)
  (h63 : l.length + ys.length ≤ maxLen) (hbytes : (l.length + ys.length) * bytes ≤ 140737488355328) (hbase : base ≤ w.heap.size) :
  ∃ v' w', (Builtin.append_ #[t, t] ty #[v, xv]).run P w = .ok v' w' ∧ RowOf e size R base w' v' (l ++ ys) ∧ w.grownBy w' v.ownBlock ∧ (v'.ownBlock = v.ownBlock ∨ v'.ownBlock = some w.heap.size) := by
 obtain ⟨A, c, rfl, hl, hm, hc⟩ := hsrc
 by_cases hne : ys = []
 ·subst hne
  have hS : Src P i.size t (.slice A ([] : List α).length c) 0 [] w := by
   cases A with
   | none => exact Src.ofNil (P := P) w ht c
   | some a => exact Src.ofSlice (P := P) w ht a 0 c [] (by simp) (fun j u h => by simp at h) (fun u h => by simp at h)
  have hle : ∃ B n cp, v = .slice B n cp ∧ n ≤ cp := by
   obtain ⟨xs, ho, -⟩ := hrow
   rcases ho.2 with ⟨rfl, -⟩ | ⟨g, cap, cur, rfl, -, -, h1, -⟩
   ·exact ⟨none, 0, 0, rfl, Nat.le_refl _⟩
   ·exact ⟨_, _, _, rfl, h1⟩
  obtain ⟨B, n, cp, rfl, hn⟩ := hle
  exact ⟨_, w, run_append_nothing (P := P) w t t ty e i ht hi B n cp hn _ hS, by simpa using hrow, grownBy_refl _ _, .inl rfl⟩
 ·obtain ⟨b, off, rfl, hb, hel⟩ := hc hne
  obtain ⟨news, n1, n2, n3, n4⟩ := ArrAt.flat (R := Off v.ownBlock R) hel
  obtain ⟨xs, ho, hx⟩ := hrow
  have hpos : 0 < ys.length := List.length_pos_iff.2 hne
  obtain ⟨g, cap, w', h1, h2, h3, h4, h5⟩ := run_append_lies (P := P) w t ty base e i z size bytes ht hi hz hsize hby hzs hsz v l.length xs ho ⟨b, off, none⟩ ys.length c news n1 n2 (fun u hu => by
   obtain ⟨k, x, cs, -, h6, h7⟩ := n3 u hu
   exact hone _ _ _ h6.out u h7) hpos h63 hbytes hbase w.heap.size rfl
  refine ⟨_, w', h1, ?_, h3, ?_⟩
  ·have := RowOf.append (l' := ys) ho.1 hx n4 rfl h2 h3 h4
   rw [List.length_append] at this
   exact this
  ·rcases h4 with h4 | h4
   ·left; rw [h4]; rfl
   ·right; rw [h4]; rfl
theorem wp_append_row (w : World) {o : Oper} {a : Act} {K : Act → World → Prop} {Q : Exit → Act → World → Prop} (s x : Operand) (t : TypeId)
  (ho : o.op = .call { callee := .builtin .append, args := #[s, x], argTypes := #[t, t] })
  (e : TypeId) (i : TypeInfo) (z : Value) (size bytes : Nat) (ht : P.underlying t = some (.slice e)) (hi : P.info? e = some i) (hz : i.zero = some z) (hsize : i.size = size) (hby : i.bytes = bytes) (hzs : z.cells.size = size) (hsz : 0 < size)
  {α : Type} {R : World → List Value → α → Prop} {base : Nat} (v : Value) {l : List α} (hs : a.eval s = v) (hrow : RowOf e size R base w v l) (xv : Value) {ys : List α} (hx : a.eval x = xv) (hsrc : ArrAt size (Off v.ownBlock R) w xv ys) (hone : ∀ w ds x, R w ds x → ∀ u ∈ ds, u.oneCell' = true)
  (h63 : l.length + ys.length ≤ maxLen) (hbytes : (l.length + ys.length) * bytes ≤ 140737488355328) (hbase : base ≤ w.heap.size)
  (h : ∀ A c w', RowOf e size R base w' (.slice A (l ++ ys).length c) (l ++ ys) → w.grownBy w' v.ownBlock → ((Value.slice A (l ++ ys).length c).ownBlock = v.ownBlock ∨ (Value.slice A (l ++ ys).length c).ownBlock = some w.heap.size) → K (a.put o.dst (.slice A (l ++ ys).length c)) w') : o.wp P a w K Q := by
 obtain ⟨v', w', hr, h2, h3, h4⟩ := run_append_row (P := P) w t o.type e i z size bytes ht hi hz hsize hby hzs hsz hrow hsrc hone h63 hbytes hbase
 obtain ⟨A, c, rfl⟩ := h2.form
 unfold Oper.wp execOp
 simp only [ho, resolve, invoke, builtin, Sem.run_bind, Sem.run_pure, Result.andThen_ok, List.map_toArray, List.map_cons, List.map_nil, hs, hx, hr]
 exact h A c w' h2 h3 h4
theorem step_append_row (w : World) {ops : Array Oper} {o : Oper} {a : Act} {K : Act → World → Prop} {Q : Exit → Act → World → Prop} {E : Prop} (hgd : o.guard = none) (s x : Operand) (t : TypeId)
  (ho : o.op = .call { callee := .builtin .append, args := #[s, x], argTypes := #[t, t] })
  (e : TypeId) (i : TypeInfo) (z : Value) (size bytes : Nat) (ht : P.underlying t = some (.slice e)) (hi : P.info? e = some i) (hz : i.zero = some z) (hsize : i.size = size) (hby : i.bytes = bytes) (hzs : z.cells.size = size) (hsz : 0 < size)
  {α : Type} {R : World → List Value → α → Prop} {base : Nat} (v : Value) {l : List α} (hs : a.eval s = v) (hrow : RowOf e size R base w v l) (xv : Value) {ys : List α} (hx : a.eval x = xv) (hsrc : ArrAt size (Off v.ownBlock R) w xv ys) (hone : ∀ w ds x, R w ds x → ∀ u ∈ ds, u.oneCell' = true)
  (h63 : l.length + ys.length ≤ maxLen) (hbytes : (l.length + ys.length) * bytes ≤ 140737488355328) (hbase : base ≤ w.heap.size)
  (h : ∀ A c w', RowOf e size R base w' (.slice A (l ++ ys).length c) (l ++ ys) → w.grownBy w' v.ownBlock → ((Value.slice A (l ++ ys).length c).ownBlock = v.ownBlock ∨ (Value.slice A (l ++ ys).length c).ownBlock = some w.heap.size) → K (a.put o.dst (.slice A (l ++ ys).length c)) w') :
  if Region.wanted o (yielded ops a.tmps) = true then Oper.wp P o a w K Q else E := by
 have hw : Region.wanted o (yielded ops a.tmps) = true := by simp [Region.wanted, hgd]
 rw [if_pos hw]
 exact wp_append_row w s x t ho e i z size bytes ht hi hz hsize hby hzs hsz v hs hrow xv hx hsrc hone h63 hbytes hbase h
end
theorem ConR.one {K : Nat} : ∀ (w : World) (ds : List Value) (x : CI), ConR K w ds x → ∀ u ∈ ds, u.oneCell' = true := by
 rintro w ds x ⟨pv, cv, vv, rfl, hp, hc, hv⟩ u hu
 obtain ⟨_, _, rfl, _⟩ := hp.form
 obtain ⟨_, _, rfl, _⟩ := hc.form
 obtain ⟨_, _, rfl, _⟩ := hv.form
 simp only [List.mem_cons, List.not_mem_nil, or_false] at hu
 rcases hu with rfl | rfl | rfl | rfl | rfl <;> rfl
end Go.Proofs.YtmddjbmelajadaaGreatDoor
