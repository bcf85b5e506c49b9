/- Words for memory: what a value reads as in a world; kept by whatever changes no block that was there. -/
import Derived.Below
import Derived.Laws.OwnMore
import Derived.Deep.Draws
import Derived.Test.YtonleohlplkglaaGreatDoorNum
namespace Go.Proofs.YtonleohlplkglaaGreatDoor
open Go Go.RowKit

/-- The call returned a value of which R holds, and nothing that was there has changed. -/
def Ret (w : World) (R : Value → World → Prop) (e : Ending) (w' : World) : Prop := ∃ v, e = .returned v ∧ R v w' ∧ Below w.heap.size w w'

/-- Everything that was there is still there. -/
abbrev Ext (w w' : World) : Prop := Below w.heap.size w w'

theorem Ext.refl (w : World) : Ext w w := Below.refl _ _
theorem Ext.trans {a b c : World} (h : Ext a b) (k : Ext b c) : Ext a c := Below.trans h (k.mono h.size)
theorem Ext.drew (w : World) : Ext w w.drew := (Below.refl _ _).drew
theorem Ext.drewN (w : World) (n : Nat) : Ext w (w.drewN n) := ⟨rfl, rfl, rfl, Nat.le_refl _, fun _ _ => rfl⟩
theorem Ext.alloc (w : World) (o : Obj) : Ext w (w.alloc o) := (Below.refl _ _).alloc (Nat.le_refl _) o
theorem Ext.grown {w w' : World} (h : w.grownBy w' none) : Ext w w' := ⟨h.os, h.tape, h.output, h.size, fun k hk => h.block k hk (by simp)⟩
theorem Ext.pdrew {w a : World} (h : Ext w a) : Ext w a.drew := h.trans (Ext.drew a)
theorem Ext.pdrewN {w a : World} (h : Ext w a) (n : Nat) : Ext w (a.drewN n) := h.trans (Ext.drewN a n)
theorem Ext.palloc {w a : World} (h : Ext w a) (o : Obj) : Ext w (a.alloc o) := h.trans (Ext.alloc a o)
theorem Ext.pset {w a : World} (h : Ext w a) {p : Addr} (hp : w.heap.size ≤ p.block) (u : Value) : Ext w (a.setCell p u) := Below.setCell h hp u
theorem Ext.cell {w w' : World} (h : Ext w w') {p : Addr} (hp : p.block < w.heap.size) : w'.cell? p = w.cell? p := Below.cell h hp

theorem Below.heap_new (w : World) (o : Obj) : (w.alloc o).heap[w.heap.size]? = some o := by
  show (w.heap.push o)[w.heap.size]? = _
  simp
/-- A slice of elements of 'sz' cells each: it lies in one block, and each element's cells read by R. -/
def SliceAt {α : Type} (sz : Nat) (R : World → List Value → α → Prop) (w : World) (v : Value) (xs : List α) : Prop :=
  ∃ (A : Option Addr) (c : Nat), v = .slice A xs.length c ∧ xs.length ≤ c ∧ c ≤ maxLen ∧
    (xs ≠ [] → ∃ b off : Nat, A = some ⟨b, off, none⟩ ∧ b < w.heap.size ∧
      ∀ k x, xs[k]? = some x → ∃ cs : List Value, cs.length = sz ∧ (∀ j u, cs[j]? = some u → w.cell? ⟨b, off + (k * sz + j), none⟩ = some u) ∧ R w cs x)

/-- What R says is kept by whatever changes no block that was there. -/
def Stable {α : Type} (R : World → List Value → α → Prop) : Prop := ∀ w w' cs x, Ext w w' → R w cs x → R w' cs x

theorem SliceAt.ext {α : Type} {sz : Nat} {R : World → List Value → α → Prop} (hR : Stable R) {w w' : World} {v : Value} {xs : List α} (h : SliceAt sz R w v xs) (hx : Ext w w') : SliceAt sz R w' v xs := by
  obtain ⟨A, c, hv, hl, hm, hc⟩ := h
  refine ⟨A, c, hv, hl, hm, fun hne => ?_⟩
  obtain ⟨b, off, hA, hb, hk⟩ := hc hne
  refine ⟨b, off, hA, Nat.lt_of_lt_of_le hb hx.size, fun k x hkx => ?_⟩
  obtain ⟨cs, hcs, hcell, hr⟩ := hk k x hkx
  exact ⟨cs, hcs, fun j u hj => (hx.cell (p := ⟨b, off + (k * sz + j), none⟩) hb).trans (hcell j u hj), hR _ _ _ _ hx hr⟩

/-- One word. -/
def WordR (_ : World) (cs : List Value) (x : Nat) : Prop := cs = [.int .u32 (x : Int)] ∧ x < 4294967296
theorem WordR.stable : Stable WordR := fun _ _ _ _ _ h => h

/-- A slice of words. -/
def Words (w : World) (v : Value) (xs : List Nat) : Prop :=
  ∃ (A : Option Addr) (c : Nat), v = .slice A xs.length c ∧ xs.length ≤ c ∧ xs.length ≤ 35184372088832 ∧ Limb xs ∧
    (0 < xs.length → ∃ b off : Nat, A = some ⟨b, off, none⟩ ∧ b < w.heap.size ∧ ∀ k, k < xs.length → w.cell? ⟨b, off + k, none⟩ = some (.int .u32 ((xs.getD k 0 : Nat) : Int)))

theorem Words.ext {w w' : World} {v : Value} {xs : List Nat} (h : Words w v xs) (hx : Ext w w') : Words w' v xs := by
  obtain ⟨A, c, hv, hl, hm, hL, hc⟩ := h
  refine ⟨A, c, hv, hl, hm, hL, fun hne => ?_⟩
  obtain ⟨b, off, hA, hb, hk⟩ := hc hne
  exact ⟨b, off, hA, Nat.lt_of_lt_of_le hb hx.size, fun k hkx => (hx.cell (p := ⟨b, off + k, none⟩) hb).trans (hk k hkx)⟩
theorem Words.limb {w : World} {v : Value} {xs : List Nat} (h : Words w v xs) : Limb xs := by
  obtain ⟨_, _, _, _, _, hL, _⟩ := h; exact hL
theorem Words.nil (w : World) : Words w (.slice none 0 0) [] := ⟨none, 0, rfl, Nat.le_refl _, by simp, Limb.nil, fun h => by simp at h⟩

/-- A slice whose array lies in no block below B. -/
def FreshV (B : Nat) (v : Value) : Prop := ∀ a n c, v = .slice (some a) n c → B ≤ a.block
theorem FreshV.mono {B B' : Nat} {v : Value} (h : FreshV B v) (hB : B' ≤ B) : FreshV B' v := fun a n c e => Nat.le_trans hB (h a n c e)
theorem FreshV.mk (B : Nat) {g off n c : Nat} (h : B ≤ g) : FreshV B (.slice (some ⟨g, off, none⟩) n c) := fun a n' c' e => by injection e with e1 _ _; injection e1 with e1; rw [← e1]; exact h

/-- The values of a list of words. -/
def wordVs (xs : List Nat) : List Value := xs.map fun (x : Nat) => Value.int .u32 (x : Int)

/-- A block of the call's own that holds just these words. -/
def Row (w : World) (g : Nat) (xs : List Nat) : Prop := w.heap[g]? = some (.cells (wordVs xs).toArray 142 (0, 0))

section
variable {w w' : World} {g : Nat} {xs : List Nat}
theorem Row.lt (h : Row w g xs) : g < w.heap.size := by
  rcases Nat.lt_or_ge g w.heap.size with hlt | hge
  · exact hlt
  · unfold Row at h; rw [Array.getElem?_eq_none hge] at h; cases h
theorem Row.cell (h : Row w g xs) {k : Nat} (hk : k < xs.length) : w.cell? ⟨g, k, none⟩ = some (.int .u32 ((xs.getD k 0 : Nat) : Int)) := by
  unfold Row at h
  simp only [World.cell?, h, Option.isSome_none, Bool.false_eq_true, if_false]
  simp [wordVs, List.getElem?_eq_getElem hk]
theorem Row.frozen (h : Row w g xs) (k : Nat) : w.frozen? ⟨g, k, none⟩ = false := by
  unfold Row at h
  simp [World.frozen?, h]
theorem Row.alloc (h : Row w g xs) (o : Obj) : Row (w.alloc o) g xs := (Below.heap_alloc w o g h.lt).trans h
theorem Row.drewN (h : Row w g xs) (n : Nat) : Row (w.drewN n) g xs := h
theorem Row.ext (h : Row w g xs) (hx : Ext w w') : Row w' g xs := (hx.block g h.lt).trans h
theorem Row.set_ (h : Row w g xs) (k x : Nat) : Row (w.setCell ⟨g, k, none⟩ (.int .u32 (x : Int))) g (xs.set k x) := by
  unfold Row at h ⊢
  simp [World.setCell, Array.getElem?_modify, h, wordVs, List.map_set]
theorem Row.far (h : Row w g xs) {p : Addr} (hp : g ≠ p.block) (u : Value) : Row (w.setCell p u) g xs := (Below.heap_setCell w p u g hp).trans h
theorem Row.words (h : Row w g xs) (hL : Limb xs) {c : Nat} (hc : xs.length ≤ c) (hm : c ≤ 35184372088832) : Words w (.slice (some ⟨g, 0, none⟩) xs.length c) xs :=
  ⟨_, _, rfl, hc, by omega, hL, fun _ => ⟨g, 0, rfl, h.lt, fun k hk => by rw [Nat.zero_add]; exact h.cell hk⟩⟩
end

theorem Words.set_ {w : World} {A : Option Addr} {n c : Nat} {xs : List Nat} (h : Words w (.slice A n c) xs) {p : Addr} (hp : ∀ a, A = some a → a.block ≠ p.block) (u : Value) : Words (w.setCell p u) (.slice A n c) xs := by
  obtain ⟨A', c', hv, hl, hm, hL, hc⟩ := h
  obtain ⟨rfl, rfl, rfl⟩ : A = A' ∧ n = xs.length ∧ c = c' := by injection hv with h1 h2 h3; exact ⟨h1, h2, h3⟩
  refine ⟨A, c, rfl, hl, hm, hL, fun h0 => ?_⟩
  obtain ⟨b, off, rfl, hb, hcell⟩ := hc h0
  refine ⟨b, off, rfl, by simpa [World.setCell] using hb, fun k hk => ?_⟩
  rw [World.cell?_setCell_other]
  · exact hcell k hk
  · intro e; exact hp _ rfl (by rw [e])
/-- A block in which no word lies: a box for a struct of bools and slices. -/
def NoWord (w : World) (g : Nat) : Prop := ∀ j n, w.cell? ⟨g, j, none⟩ ≠ some (.int .u32 n)
theorem Words.box {w : World} {v : Value} {xs : List Nat} (h : Words w v xs) {g : Nat} (hg : NoWord w g) (i : Nat) (u : Value) : Words (w.setCell ⟨g, i, none⟩ u) v xs := by
  obtain ⟨A, c, hv, hl, hm, hL, hc⟩ := h
  refine ⟨A, c, hv, hl, hm, hL, fun h0 => ?_⟩
  obtain ⟨b, off, rfl, hb, hcell⟩ := hc h0
  refine ⟨b, off, rfl, by simpa [World.setCell] using hb, fun k hk => ?_⟩
  rw [World.cell?_setCell_other]
  · exact hcell k hk
  · intro e
    injection e with e1 _ _
    exact hg _ _ (e1 ▸ hcell 0 h0)
theorem NoWord.set_ {w : World} {g : Nat} (hg : NoWord w g) (i : Nat) {u : Value} (hu : ∀ n, u ≠ .int .u32 n) : NoWord (w.setCell ⟨g, i, none⟩ u) g := by
  intro j n e
  by_cases hij : i = j
  · subst hij
    cases hc : w.cell? ⟨g, i, none⟩ with
    | none =>
      have : (w.setCell ⟨g, i, none⟩ u).cell? ⟨g, i, none⟩ = none := by
        unfold World.cell? at hc ⊢
        simp only [World.setCell, Array.getElem?_modify] at hc ⊢
        cases hh : w.heap[g]? with
        | none => simp
        | some o => cases o <;> simp_all
      rw [this] at e; cases e
    | some x =>
      rw [World.cell?_setCell_same _ _ _ hc] at e
      injection e with e
      exact hu n e
  · rw [World.cell?_setCell_other w ⟨g, i, none⟩ ⟨g, j, none⟩ u (by intro e'; injection e' with _ e2 _; exact hij e2)] at e
    exact hg j n e
theorem NoWord.ext {w w' : World} {g : Nat} (hg : NoWord w g) (hlt : g < w.heap.size) (hx : Ext w w') : NoWord w' g := fun j n => by
  rw [hx.cell (p := ⟨g, j, none⟩) hlt]; exact hg j n
theorem NoWord.new (w : World) (cs : Array Value) (t : TypeId) (h : ∀ u ∈ cs, ∀ n, u ≠ .int .u32 n) : NoWord (w.alloc (.cells cs t)) w.heap.size := by
  intro j n e
  have h1 : (w.alloc (.cells cs t)).heap[w.heap.size]? = some (.cells cs t) := Below.heap_new w _
  simp only [World.cell?, h1, Option.isSome_none, Bool.false_eq_true, if_false] at e
  exact h _ (Array.mem_of_getElem? e) n rfl
/-- A part of a row. -/
theorem Row.part {w : World} {g : Nat} {xs : List Nat} (h : Row w g xs) (hL : Limb xs) {i n c : Nat} (hn : i + n ≤ xs.length) (hc : n ≤ c) (hm : c ≤ 35184372088832) : Words w (.slice (some ⟨g, i, none⟩) n c) ((xs.drop i).take n) := by
  have hl : ((xs.drop i).take n).length = n := by rw [List.length_take, List.length_drop]; omega
  refine ⟨some ⟨g, i, none⟩, c, by rw [hl], by omega, by omega, (hL.drop i).take n, fun _ => ⟨g, i, rfl, h.lt, fun k hk => ?_⟩⟩
  rw [h.cell (k := i + k) (by omega)]
  congr 3
  rw [List.getD_eq_getElem?_getD, List.getD_eq_getElem?_getD, List.getElem?_take, if_pos (by omega), List.getElem?_drop]
theorem Words.at_ {w : World} {A : Option Addr} {n c : Nat} {xs : List Nat} (h : Words w (.slice A n c) xs) {k : Nat} (hk : k < n) :
    ∃ b off, A = some ⟨b, off, none⟩ ∧ b < w.heap.size ∧ n = xs.length ∧ ∀ j, j < n → w.cell? ⟨b, off + j, none⟩ = some (.int .u32 ((xs.getD j 0 : Nat) : Int)) := by
  obtain ⟨A', c', hv, hl, hm, hL, hc⟩ := h
  obtain ⟨rfl, rfl, rfl⟩ : A = A' ∧ n = xs.length ∧ c = c' := by injection hv with h1 h2 h3; exact ⟨h1, h2, h3⟩
  obtain ⟨b, off, rfl, hb, hcell⟩ := hc (by omega)
  exact ⟨b, off, rfl, hb, rfl, hcell⟩
theorem Words.len {w : World} {A : Option Addr} {n c : Nat} {xs : List Nat} (h : Words w (.slice A n c) xs) : n = xs.length ∧ n ≤ c ∧ n ≤ 35184372088832 := by
  obtain ⟨A', c', hv, hl, hm, hL, hc⟩ := h
  obtain ⟨rfl, rfl, rfl⟩ : A = A' ∧ n = xs.length ∧ c = c' := by injection hv with h1 h2 h3; exact ⟨h1, h2, h3⟩
  exact ⟨rfl, hl, hm⟩
theorem Row.made (w : World) (n : Nat) : Row (w.alloc (.cells (madeCells #[.int .u32 0] n) 142)) w.heap.size (List.replicate n 0) := by
  unfold Row
  have : madeCells #[.int .u32 0] n = (wordVs (List.replicate n 0)).toArray := by
    apply Array.ext'
    rw [toList_madeCells_one]; simp [wordVs]
  rw [this]
  exact heap_alloc_new w _

end Go.Proofs.YtonleohlplkglaaGreatDoor
