/- Plain Lean: the digits of a number in chunks of nine. -/
import Derived.Test.YtmddjbmelajadaaGreatDoorYV
import Derived.Test.YtmddjbmelajadaaGreatDoorYE
import Derived.Test.YtmddjbmelajadaaGreatDoorYO
import Derived.RangeFuncBound
import Derived.RangeFuncCalls
import Derived.Maps.AppendAt
import Derived.Shelf.RegionOpen
import Derived.Sort.LoopGhostIn
import Derived.WalkKit
import Derived.Test.YtmddjbmelajadaaGreatDoorYP
namespace Go.Proofs.YtmddjbmelajadaaGreatDoor
open Go Go.RowKit
theorem ndig_big {x : Nat} (h : 10 ≤ x) : ndig x = ndig (x / 10) + 1 := ndig_pos (by omega)
theorem ndig_nine {x : Nat} (h : 1000000000 ≤ x) : ndig x = ndig (x / 1000000000) + 9 := by
 rw [ndig_big (by omega), ndig_big (x := x / 10) (by omega), ndig_big (x := x / 10 / 10) (by omega), ndig_big (x := x / 10 / 10 / 10) (by omega), ndig_big (x := x / 10 / 10 / 10 / 10) (by omega), ndig_big (x := x / 10 / 10 / 10 / 10 / 10) (by omega),
  ndig_big (x := x / 10 / 10 / 10 / 10 / 10 / 10) (by omega), ndig_big (x := x / 10 / 10 / 10 / 10 / 10 / 10 / 10) (by omega), ndig_big (x := x / 10 / 10 / 10 / 10 / 10 / 10 / 10 / 10) (by omega)]
 simp only [Nat.div_div_eq_div_mul, Nat.add_assoc]
theorem ndig_one {x : Nat} (h : 0 < x) : 1 ≤ ndig x := by rw [ndig_pos (by omega)]; omega
theorem nDigits_ndig (u : Nat) : Lib.nDigits u = max 1 (ndig u) := by
 induction u using Nat.strongRecOn with
 | _ u ih =>
  by_cases h : u < 10
  ·rw [Lib.nDigits_small h]
   by_cases h0 : u = 0
   ·subst h0; rw [ndig_zero]; rfl
   ·rw [ndig_pos h0, show u / 10 = 0 by omega, ndig_zero]; rfl
  ·rw [Lib.nDigits_big h, ih (u / 10) (by omega), ndig_big (x := u) (by omega)]
   have := ndig_one (x := u / 10) (by omega)
   omega
theorem nDigits_nine {u : Nat} (h : u < 1000000000) : Lib.nDigits u ≤ 9 := by
 rw [nDigits_ndig]
 have : ndig u ≤ 9 := ndig_le (by simpa using h)
 omega
/-- The chunks so far, the lowest first, and the rest x of the number a. -/
def ChS (a x : Nat) (cs : List Nat) : Prop := (∀ i, cs.getD i 0 < 1000000000) ∧ (x = 0 → ∃ l t, cs = l ++ [t] ∧ 9 * l.length + Lib.nDigits t = ndig a) ∧ (0 < x → 9 * cs.length + ndig x = ndig a)
theorem ChS.start {a : Nat} (h : 0 < a) : ChS a a [] := ⟨fun i => by simp, fun h0 => by omega, fun _ => by simp⟩
theorem ChS.step {a x : Nat} {cs : List Nat} (h : ChS a x cs) (hx : 0 < x) : ChS a (x / 1000000000) (cs ++ [x % 1000000000]) := by
 obtain ⟨h1, -, h3⟩ := h
 have h3 := h3 hx
 refine ⟨fun i => ?_, fun h0 => ⟨cs, x % 1000000000, rfl, ?_⟩, fun h0 => ?_⟩
 ·rw [List.getD_eq_getElem?_getD, List.getElem?_append]
  split
  ·have := h1 i; rwa [List.getD_eq_getElem?_getD] at this
  ·cases hk : i - cs.length with
   | zero => simp; omega
   | succ k => simp
 ·rw [Nat.mod_eq_of_lt (by omega), nDigits_ndig]
  have := ndig_one hx
  omega
 ·rw [List.length_append, List.length_singleton]
  have := ndig_nine (x := x) (by omega)
  omega
theorem ChS.len {a x : Nat} {cs : List Nat} (h : ChS a x cs) (h0 : 0 < x) : 9 * cs.length < ndig a := by
 have := h.2.2 h0; have := ndig_one h0; omega
/-- How many bytes have been written. -/
def outL (k : Nat) (ys : List (Nat × WK 1000000000)) : Nat := (ys.map fun p => if p.1 + 1 < k then 9 else Lib.nDigits p.2.1).sum
theorem outL_snoc (k : Nat) (ys : List (Nat × WK 1000000000)) (y : Nat × WK 1000000000) : outL k (ys ++ [y]) = outL k ys + if y.1 + 1 < k then 9 else Lib.nDigits y.2.1 := by
 simp [outL]
theorem outL_le (k : Nat) : ∀ ys : List (Nat × WK 1000000000), outL k ys ≤ 9 * ys.length
 | [] => by simp [outL]
 | y :: ys => by
  have := outL_le k ys
  have h9 := nDigits_nine y.2.2
  simp only [outL, List.map_cons, List.sum_cons, List.length_cons] at this ⊢
  split <;> omega
theorem outL_low (k : Nat) : ∀ (ys : List (Nat × WK 1000000000)), (∀ y ∈ ys, y.1 + 1 < k) → outL k ys = 9 * ys.length
 | [], _ => by simp [outL]
 | y :: ys, h => by
  have := outL_low k ys (fun z hz => h z (by simp [hz]))
  have h1 := h y (by simp)
  simp only [outL, List.map_cons, List.sum_cons, List.length_cons, if_pos h1] at this ⊢
  omega
theorem outL_all {l : List Nat} {t : Nat} {ys : List (Nat × WK 1000000000)} (h1 : ys.map (fun p => p.2.1) = (l ++ [t]).reverse) (h2 : ys.map (fun p => p.1) = (List.range (l ++ [t]).length).reverse) :
  outL (l ++ [t]).length ys = 9 * l.length + Lib.nDigits t := by
 rw [List.length_append, List.length_singleton] at h2 ⊢
 rw [List.range_succ, List.reverse_append] at h2
 rw [List.reverse_append] at h1
 cases ys with
 | nil => simp at h1
 | cons y ys =>
  simp only [List.map_cons, List.reverse_singleton, List.singleton_append, List.cons.injEq] at h1 h2
  have hl : ys.length = l.length := by have := congrArg List.length h2.2; simpa using this
  have hlow := outL_low (l.length + 1) ys (fun z hz => by
   have : z.1 ∈ (List.range l.length).reverse := by rw [← h2.2]; exact List.mem_map_of_mem hz
   simp at this; omega)
  have : outL (l.length + 1) (y :: ys) = (if y.1 + 1 < l.length + 1 then 9 else Lib.nDigits y.2.1) + outL (l.length + 1) ys := by simp [outL]
  rw [this, hlow, h2.1, h1.1, if_neg (by omega), hl]
  omega
end Go.Proofs.YtmddjbmelajadaaGreatDoor
namespace Go.Proofs.YtmddjbmelajadaaGreatDoor
open Go Go.RowKit Go.Shelf
attribute [local go_sem] Oper.semAt_some
set_option maxRecDepth 100000 in
set_option maxHeartbeats 800000 in
theorem int_clone_own {A : Option Addr} {n c : Nat} {xs : List Nat} {w : World} (h : Words w (.slice A n c) xs) :
  Calls Tryz.prog 162 #[.slice A n c] w (Ret w fun v w' => w'.ownsRow w.heap.size 118 1 v xs.length (wordVs xs)) := by
 obtain ⟨rfl, hl, hm⟩ := h.len
 have hL := h.limb
 have qn : ∀ (w : World) (a : Option Addr) (n c n' c' : Nat), (binOp .eql 60 (.slice a n c) (.slice none n' c')).run Tryz.prog w = .ok (.bool a.isNone) w := fun w a n c n' c' => Lib.run_eql_slice_nil w _ _ a n c n' c' Tryz.underlying60
 cases A with
 | none =>
  have hn : xs = [] := by
   by_cases h0 : 0 < xs.length
   ·obtain ⟨b, off, e, _⟩ := h.at_ h0; cases e
   ·exact List.eq_nil_of_length_eq_zero (by omega)
  subst hn
  go_enter Tryz.func162, Tryz.ntmps162
  go_wp2_with fail
  go_ret
  exact ⟨_, rfl, World.ownsRow_nil _ _ _ _, (by repeat first|exact xA _|assumption|refine xB ?_ _|refine xC ?_|refine xD ?_ _|refine xE ?_ (by simp <;> omega) _|refine xF ?_ (by assumption))⟩
 | some a =>
  have hnews : ∀ j u, (wordVs xs)[j]? = some u → w.cell? (a.add j) = some u := by
   intro j u hj
   obtain ⟨hjl, hju⟩ := List.getElem?_eq_some_iff.1 hj
   simp [wordVs] at hjl
   obtain ⟨b, off, e1, hb, -, hcell⟩ := h.at_ hjl
   injection e1 with e1
   subst e1
   have := hcell j hjl
   rw [Addr.add_lit, this, ← hju]
   simp [wordVs, List.getElem?_eq_getElem hjl]
  have HN := Lib.hid hnews
  have hown : (w.alloc (.cells #[] 118)).ownsRow w.heap.size 118 1 (.slice (some ⟨w.heap.size, 0, none⟩) 0 0) 0 [] :=
   ⟨rfl, .inr ⟨w.heap.size, 0, #[], rfl, Nat.le_refl _, by rw [heap_alloc_new], Nat.le_refl _, Nat.zero_le _, rfl, rfl⟩⟩
  have HO := Lib.hid hown
  have HL := Lib.hid (And.intro hm hL)
  have HW : Hid ((wordVs xs).length = xs.length * 1) := by show _ = _; simp [wordVs]
  have HU : Hid (∀ u ∈ wordVs xs, u.oneCell' = true) := (by intro u hu; simp [wordVs] at hu; obtain ⟨x, _, rfl⟩ := hu; rfl)
  clear h hnews hown hm hL
  generalize wordVs xs = ws at *
  generalize xs.length = n at *
  obtain ⟨i0, hi, hz0, hz1, hz2⟩ := info_parts infoU32
  go_enter Tryz.func162, Tryz.ntmps162
  go_wp2_with (at_builtin; refine wpList_append_own _ rfl _ _ 60 rfl w.heap.size 118 i0 (.int .u32 0) 1 4 Tryz.underlying60 hi hz0 hz1 hz2 rfl (by decide) _ 0 [] rfl HO.out a n c ws rfl HW.out ?c1 ?c2 (by have := HL.out.1; unfold maxLen; omega) (by have := HL.out.1; omega) (by simp) ?_)
  case c1 =>
   intro j u hj
   exact Lib.cell?_alloc_some _ (HN.out j u hj)
  case c2 => exact HU.out
  intro v' w' h1 h2 _
  have HF := Lib.hid h1
  obtain ⟨A', c', rfl⟩ : ∃ A c, v' = .slice A n c := by
   rcases h1.2 with ⟨h1, h2⟩ | ⟨g, cap, cur, h1, -⟩
   ·exact ⟨none, 0, by rw [h1, h2]⟩
   ·exact ⟨_, _, h1⟩
  go_wp2_with fail
  go_ret
  exact ⟨_, rfl, by simpa using HF.out, (Below.refl _ _).alloc (Nat.le_refl _) _ |>.grown h2 (by simp) (fun k e => by cases e; simp)⟩
theorem own_take {w : World} {B g n c : Nat} {xs : List Nat} (h : w.ownsRow B 118 1 (.slice (some ⟨g, 0, none⟩) n c) n (wordVs xs)) {k : Nat} (hk : k ≤ n) : w.ownsRow B 118 1 (.slice (some ⟨g, 0, none⟩) k c) k (wordVs (xs.take k)) := by
 obtain ⟨h1, h2⟩ := h
 rcases h2 with ⟨h2, -⟩ | ⟨g', cap, cur, h2, hb, hg, hn, hc, hs, ht⟩
 ·cases h2
 ·obtain ⟨rfl, rfl⟩ : g = g' ∧ c = cap := by injection h2 with e1 _ e3; injection e1 with e1; injection e1 with e1; exact ⟨e1, e3⟩
  refine ⟨?_, .inr ⟨g, c, cur, rfl, hb, hg, by omega, hc, hs, ?_⟩⟩
  ·simp [wordVs] at h1 ⊢; omega
  ·have : cur.toList.take (k * 1) = (cur.toList.take (n * 1)).take k := by rw [List.take_take]; congr 1; omega
   rw [this, ht]
   simp [wordVs, List.map_take]
theorem own_set {w : World} {B g n c : Nat} {xs : List Nat} (h : w.ownsRow B 118 1 (.slice (some ⟨g, 0, none⟩) n c) n (wordVs xs)) (j x : Nat) : (w.setCell ⟨g, j, none⟩ (.int .u32 (x : Int))).ownsRow B 118 1 (.slice (some ⟨g, 0, none⟩) n c) n (wordVs (xs.set j x)) := by
 have := (h.stored j (.int .u32 (x : Int))).1
 rwa [show (wordVs xs).set j (.int .u32 (x : Int)) = wordVs (xs.set j x) by simp [wordVs, List.map_set]] at this
theorem own_cell {w : World} {B g n c : Nat} {xs : List Nat} (h : w.ownsRow B 118 1 (.slice (some ⟨g, 0, none⟩) n c) n (wordVs xs)) (hx : xs.length = n) {j : Nat} (hj : j < n) : w.cell? ⟨g, j, none⟩ = some (.int .u32 ((xs.getD j 0 : Nat) : Int)) := by
 rw [h.cellAt j (by omega)]
 unfold wordVs
 rw [List.getElem?_map, List.getElem?_eq_getElem (by omega), List.getD_eq_getElem?_getD, List.getElem?_eq_getElem (by omega)]
 rfl
/-- The number's row, while it is divided. -/
def MRow (w : World) (B g n c : Nat) (zs : List Nat) : Prop := w.ownsRow B 118 1 (.slice (some ⟨g, 0, none⟩) n c) n (wordVs zs) ∧ zs.length = n ∧ Limb zs
/-- The chunks' row and its box. -/
def CRow (w : World) (b : Nat) (v : Value) (cs : List Nat) : Prop := Boxed w b 60 v ∧ w.ownsRow b 118 1 v cs.length (wordVs cs)
theorem MRow.set_ {w : World} {B g n c : Nat} {zs : List Nat} (h : MRow w B g n c zs) (j : Nat) {x : Nat} (hx : x < 4294967296) : MRow (w.setCell ⟨g, j, none⟩ (.int .u32 (x : Int))) B g n c (zs.set j x) :=
 ⟨own_set h.1 j x, by simp [h.2.1], limb_set h.2.2 hx⟩
theorem MRow.words {w : World} {B g n c : Nat} {zs : List Nat} (h : MRow w B g n c zs) (hn : n ≤ 5000) : Words w (.slice (some ⟨g, 0, none⟩) n c) zs := by
 obtain ⟨h1, h2, h3⟩ := h
 subst h2
 exact words_of_own h1 h3 (by omega)
theorem MRow.trim {w : World} {B g n c : Nat} {zs : List Nat} (h : MRow w B g n c zs) : MRow w B g (trimL zs).length c (trimL zs) := by
 have h1 := own_take h.1 (k := (trimL zs).length) (by rw [← h.2.1]; exact trimL_length_le zs)
 rw [← trimL_prefix] at h1
 exact ⟨h1, rfl, limb_trimL h.2.2⟩
theorem CRow.far {w : World} {b : Nat} {v : Value} {cs : List Nat} (h : CRow w b v cs) {g j : Nat} (hg : g < b) (u : Value) : CRow (w.setCell ⟨g, j, none⟩ u) b v cs := by
 have hgr : w.grownBy (w.setCell ⟨g, j, none⟩ u) (some g) := ⟨rfl, rfl, rfl, by simp [World.setCell], fun k hk hne => Below.heap_setCell _ _ _ _ (by intro e; exact hne (by rw [e]))⟩
 refine ⟨h.1.kept hgr (by simp; omega), h.2.kept hgr ?_⟩
 rcases hv : v.ownBlock with _ | k
 ·exact .inl rfl
 ·right; have := (h.2.lt k hv).1; simp; omega
theorem MRow.kept {w w1 : World} {B g n c b : Nat} {zs : List Nat} {tmp : Obj} {v v' : Value} {cs : List Nat} (h : MRow w B g n c zs) (hc : CRow w b v cs) (hg : g < b) (hgr : (w.alloc tmp).grownBy w1 v.ownBlock) : MRow (w1.setCell ⟨b, 0, none⟩ v') B g n c zs := by
 refine ⟨((h.1.alloc tmp).kept hgr ?_).kept (grownBy_setCell' w1 b v') ?_, h.2⟩
 ·right
  intro e
  have := (hc.2.lt g e.symm).1
  omega
 ·right; simp [Value.ownBlock]; omega
theorem builder_same {T e : TypeId} {B b : Nat} {bs : List Value} {w w' : World} (h : Lib.IsBuilderF T e B b bs w) (hk : ∀ (k : Nat) (c : Array Value) (t : TypeId) (fz : Nat × Nat), w.heap[k]? = some (Obj.cells c t fz) → w'.heap[k]? = some (Obj.cells c t fz)) : Lib.IsBuilderF T e B b bs w' := by
 have key : ∀ p, Lib.BuilderAtF T e B b p bs w → Lib.BuilderAtF T e B b p bs w' := by
  rintro p ⟨hB, v, hb, hown, hne⟩
  refine ⟨hB, v, hk _ _ _ _ hb, ⟨hown.1, ?_⟩, hne⟩
  rcases hown.2 with h1 | ⟨g, cap, cur, fz, hv, hbg, hg, rest⟩
  ·exact .inl h1
  ·exact .inr ⟨g, cap, cur, fz, hv, hbg, hk _ _ _ _ hg, rest⟩
 exact h.elim (fun h => .inl (key _ h)) (fun h => .inr (key _ h))
theorem builder_ext {T e : TypeId} {B b : Nat} {bs : List Value} {w w' : World} (h : Lib.IsBuilderF T e B b bs w) (hx : Ext w w') : Lib.IsBuilderF T e B b bs w' :=
 builder_same h fun k _ _ _ hk => (hx.block k (Array.getElem?_eq_some_iff.1 hk).1).trans hk
/-- What stands between two rounds: the builder and the iterator's box. -/
def BSt (b kc : Nat) (bv : Value) (ys : List (Nat × WK 1000000000)) (W : World) : Prop :=
 (∃ l, Lib.IsBuilderF 342 5 b b (Lib.byteCells l) W ∧ l.length = outL kc ys) ∧ Boxed W (b + 1) 60 bv
theorem BSt.own (b kc : Nat) (bv : Value) : Own (BSt b kc bv) := by
 rintro ys W W' row ⟨⟨l, hl, hn⟩, hb⟩ hg hr
 have hne : ∀ (k : Nat) (c : Array Value) (t : TypeId) (fz : Nat × Nat), W.heap[k]? = some (Obj.cells c t fz) → some k ≠ row := by
  intro k c t fz hk e
  obtain ⟨o, ho, hc⟩ := hr k e.symm
  rw [hk] at ho
  cases ho
  cases hc
 exact ⟨⟨l, builder_same hl fun k c t fz hk => (hg.block k (Array.getElem?_eq_some_iff.1 hk).1 (hne k c t fz hk)).trans hk, hn⟩, hb.kept hg (hne _ _ _ _ hb)⟩
theorem others_ext {e : TypeId} {b : Option Nat} {w w' : World} (hx : Ext w w') : Lib.OthersKept e b w w' := fun k _ hk _ _ => (hx.block k (Array.getElem?_eq_some_iff.1 hk).1).trans hk
theorem builder_write {b : Nat} {l : List UInt8} {s : ByteArray} {w : World} (h : Lib.IsBuilderF 342 5 b b (Lib.byteCells l) w) (hl : l.length + s.size ≤ 1000000000) (hb : b ≤ w.heap.size) :
  Calls Tryz.prog 332 #[.pointer (some ⟨b, 0, none⟩), .string s] w fun e w' => e = .returned (.tuple #[.int .i64 s.size, .nilIface]) ∧ Lib.IsBuilderF 342 5 b b (Lib.byteCells (l ++ s.data.toList)) w' ∧ Below b w w' ∧ Lib.OthersKept 5 (some b) w w' := by
 refine (Any.Builder_WriteString_k { Tryz.lays105 with } Tryz.Builder_Extra_105 b b (Lib.byteCells l) s w h (by rw [Lib.byteCells_length]; omega) hb).mono ?_
 rintro e w1 ⟨rfl, h1, h2, h3⟩
 exact ⟨rfl, by rw [Lib.byteCells_append]; exact .inr h1, h2, h3⟩
/-- A round of the loop that writes. -/
theorem BSt.next {b kc B : Nat} {bv : Value} {ys : List (Nat × WK 1000000000)} {x : Nat × WK 1000000000} {l : List UInt8} {w7 W W' : World} (h : BSt b kc bv ys W) (hb : Below b w7 W) (hB : b < B)
  (hn : Lib.IsBuilderF 342 5 b b (Lib.byteCells l) W') (hl : l.length = outL kc (ys ++ [x])) (hw : Below b W W') (ho : Lib.OthersKept 5 (some b) W W') :
  KeepsFrom B W W' ∧ KpB b (b + 1) W W' ∧ BSt b kc bv (ys ++ [x]) W' ∧ Below b w7 W' := by
 have hbx : Boxed W' (b + 1) 60 bv := ho _ _ h.2 (by simp) (by intro c fz e; injection e with _ e _; revert e; decide)
 refine ⟨⟨hw.size, fun k o hk h1 h2 => ho k o h1 (by intro e; injection e with e; omega) (by rintro c fz rfl; cases h2)⟩, ⟨hw, fun v hv => ?_⟩, ⟨⟨l, hn, hl⟩, hbx⟩, hb.trans hw⟩
 rw [h.2.cell] at hv
 rw [hbx.cell, hv]
theorem Ext.trans' {B : Nat} {a b c : World} (h : Ext a b) (k : Below B b c) (hB : a.heap.size ≤ B) : Ext a c := Below.trans h (k.mono hB)
set_option maxRecDepth 100000 in
set_option maxHeartbeats 6400000 in
theorem int_Format {A : Option Addr} {n c a : Nat} {w : World} (h : Words w (.slice A n c) (limbs a)) (hl : n ≤ 5000) (hg : GLp w) :
  Calls Tryz.prog 277 #[.agg #[.bool false, .slice A n c]] w fun e w' => (∃ s, e = .returned (.string s) ∧ s.size = max 1 (ndig a)) ∧ Ext w w' := by
 have hlen := h.len
 have HT : Hid (∀ w1, Ext w w1 → Calls Tryz.prog 178 #[.slice A n c] w1 fun e w' => e = .returned (.slice A n c) ∧ w1 = w') := fun w1 hx => by
  have := int_trim (h.ext hx)
  rwa [trimL_limbs, ← hlen.1] at this
 have HC : Hid (∀ w1, Ext w w1 → Calls Tryz.prog 162 #[.slice A n c] w1 (Ret w1 fun v w' => w'.ownsRow w1.heap.size 118 1 v n (wordVs (limbs a)))) := fun w1 hx => by
  have := int_clone_own (h.ext hx)
  rwa [← hlen.1] at this
 have HN := Lib.hid hlen.1
 have HB := Lib.hid (BoxI.new w false (.slice A n c) 62 (by simp))
 clear h hlen
 refine (callsIn_wide (n := 5)).1 ?_
 refine callsIn_of_wp_marks Tryz.func277 rfl trivial ?_ rfl
 simp only [Tryz.ntmps277, List.size_toArray, List.length_cons, List.length_nil, Nat.reduceAdd, Nat.reduceSub, Array.replicate_succ, Array.replicate_zero, List.push_toArray, List.append_toArray, List.nil_append, List.cons_append]
 obtain ⟨y0, y1, y2, y3, -⟩ := HB.out
 gi_wp2_with fail
 refine ⟨trivial, callsIn_wide.2 ((HT.out _ (Ext.alloc _ _)).mono ?_)⟩
 rintro e w1 ⟨rfl, rfl⟩
 gi_wp2_with fail
 refine ⟨trivial, callsIn_wide.2 ((HC.out _ (Ext.alloc _ _)).mono ?_)⟩
 rintro e w2 ⟨v2, rfl, ho2, hx2⟩
 have hE2 : Ext w w2 := Ext.trans (Ext.alloc _ _) hx2
 rw [World.size_alloc] at ho2
 have HB2 := Lib.hid (HB.out.ext hx2)
 have HO2 := Lib.hid ho2
 clear HT HC HB y0 y1 y2 y3 hx2
 by_cases h0 : a = 0
 ·subst h0
  have hn0 : n = 0 := by rw [HN.out, limbs_zero]; rfl
  subst hn0
  obtain ⟨A', c', rfl⟩ : ∃ A c, v2 = .slice A 0 c := by
   rcases ho2.2 with ⟨h1, -⟩ | ⟨g, cap, cur, h1, -⟩
   ·exact ⟨none, 0, h1⟩
   ·exact ⟨_, _, h1⟩
  clear ho2 HO2 HB2 HN
  gi_wp2_with fail
  refine ⟨_, results_tmp rfl _ _ _, ⟨_, rfl, ?_⟩, hE2⟩
  rw [ndig_zero]; rfl
 ·have hpos : 0 < n := by rw [HN.out, limbs_pos h0]; simp
  obtain ⟨g, cap, rfl, hgb, hgl⟩ := ho2.form hpos
  clear ho2
  have hM0 : MRow (w2.alloc (.cells #[.slice none 0 0] 60)) (w.heap.size + 1) g n cap (limbs a) := ⟨HO2.out.alloc _, HN.out.symm, limb_limbs a⟩
  have hC0 : CRow (w2.alloc (.cells #[.slice none 0 0] 60)) w2.heap.size (.slice none 0 0) [] := ⟨Boxed.new w2 _ _, World.ownsRow_nil _ _ _ _⟩
  have hE4 : Ext w (w2.alloc (.cells #[.slice none 0 0] 60)) := hE2.palloc _
  have HB4 := Lib.hid (HB2.out.ext (Ext.alloc w2 (.cells #[.slice none 0 0] 60)))
  have hs4 : w2.heap.size < (w2.alloc (.cells #[.slice none 0 0] 60)).heap.size := by simp
  have HS0 : Hid (ChS a a []) := ChS.start (by omega)
  have hz : ((n : Int) == 0) = false := by rw [beq_eq_false_iff_ne]; omega
  clear HO2 HB2 h0
  gi_wp2_with fail
  generalize (w2.alloc (.cells #[.slice none 0 0] 60)) = w4 at *
  generalize w2.heap.size = b4 at *
  have HM0 := Lib.hid hM0
  have HC0 := Lib.hid hC0
  clear hM0 hC0
  gi_loopg [3, 5, 6] a (fun x m r i wr => ∃ (k : Nat) (v : Value) (cs : List Nat), m = .slice (some ⟨g, 0, none⟩) k cap ∧ k ≤ 5000 ∧ Hid (k = (limbs x).length) ∧ Hid (MRow wr (w.heap.size + 1) g k cap (limbs x)) ∧ Hid (CRow wr b4 v cs) ∧ Hid (ChS a x cs) ∧ Hid (Below g w4 wr))
  case atStart => exact ⟨n, _, [], rfl, hl, HN, HM0, HC0, HS0, Below.refl _ _⟩
  case round =>
   obtain ⟨k, v, cs, rfl, hk, HK, HM, HCR, HCS, HBE⟩ := hrel
   by_cases hx0 : gk = 0
   ·subst hx0
    have hk0 : k = 0 := by rw [HK.out, limbs_zero]; rfl
    subst hk0
    obtain ⟨l, t, rfl, hnd⟩ := HCS.out.2.1 rfl
    have hcs : ∀ i, (l ++ [t]).getD i 0 < 1000000000 := HCS.out.1
    have HND := Lib.hid hnd
    obtain ⟨hbx, hrow⟩ := HCR.out
    obtain ⟨g5, c5, rfl, hg5, hl5⟩ := hrow.form (by simp)
    have hbc := hbx.cell
    have hb4 : b4 < wr.heap.size := hbx.lt
    have hneg : wr.cell? ⟨w.heap.size, 0, none⟩ = some (.bool false) := (HBE.out.cell (p := ⟨w.heap.size, 0, none⟩) hgb).trans HB4.out.1
    have hwl : w.heap.size < wr.heap.size := by omega
    have HE : Hid (Ext w wr) := hE4.trans' HBE.out (by omega)
    have hcell : ∀ j, j < (l ++ [t]).length → wr.cell? ⟨g5, j, none⟩ = some (.int .u32 (((l ++ [t]).getD j 0 : Nat) : Int)) := fun j hj => own_cell hrow rfl hj
    have HCL := Lib.hid hcell
    have HCB := Lib.hid hcs
    have HBX := Lib.hid hbx
    have hlen5 : (l ++ [t]).length ≤ 1000000 := by
     have h2 := ndig_limbs a
     rw [← HN.out] at h2
     rw [List.length_append, List.length_singleton]
     omega
    clear hnd hcell hcs HCR hrow hbx HM HCS HK HBE HB4 HM0 HC0 HS0
    generalize hcsl : l ++ [t] = cs at *
    have HCSL := Lib.hid hcsl
    generalize hkc : cs.length = kc at *
    gi_wp2_with fail
    refine ⟨trivial, (backward_call Fence.wide 4 trivial rfl _ _ _ _).mono ?_⟩
    rintro e w6 ⟨rfl, rfl⟩
    gi_wp2_with fail
    have hE7 : Ext wr ((wr.alloc (.cells #[.pointer none, .slice none 0 0] 342)).alloc (.cells #[.slice (some ⟨g5, 0, none⟩) kc c5] 60)) := Ext.palloc (Ext.alloc _ _) _
    have HI0 : Hid (BSt wr.heap.size kc (.slice (some ⟨g5, 0, none⟩) kc c5) [] ((wr.alloc (.cells #[.pointer none, .slice none 0 0] 342)).alloc (.cells #[.slice (some ⟨g5, 0, none⟩) kc c5] 60))) :=
     ⟨⟨[], builder_ext (Lib.IsBuilderF.of (Lib.fresh_isBuilder _ _ wr)) (Ext.alloc _ _), rfl⟩, by have := Boxed.new (wr.alloc (.cells #[.pointer none, .slice none 0 0] 342)) 60 (.slice (some ⟨g5, 0, none⟩) kc c5); rwa [World.size_alloc] at this⟩
    have hs7 : ((wr.alloc (.cells #[.pointer none, .slice none 0 0] 342)).alloc (.cells #[.slice (some ⟨g5, 0, none⟩) kc c5] 60)).heap.size = wr.heap.size + 2 := by simp
    have HBX7 := Lib.hid (HBX.out.kept (World.grownBy_alloc wr (.cells #[.pointer none, .slice none 0 0] 342) none) (by simp) |>.alloc (.cells #[.slice (some ⟨g5, 0, none⟩) kc c5] 60))
    have HCL7 : Hid (∀ j, j < kc → ((wr.alloc (.cells #[.pointer none, .slice none 0 0] 342)).alloc (.cells #[.slice (some ⟨g5, 0, none⟩) kc c5] 60)).cell? ⟨g5, j, none⟩ = some (.int .u32 ((cs.getD j 0 : Nat) : Int))) := fun j hj => (hE7.cell (p := ⟨g5, j, none⟩) hl5).trans (HCL.out j hj)
    have HE7 : Hid (Ext w ((wr.alloc (.cells #[.pointer none, .slice none 0 0] 342)).alloc (.cells #[.slice (some ⟨g5, 0, none⟩) kc c5] 60))) := Ext.trans HE.out hE7
    clear HBX HCL HE hE7 hbc hneg
    generalize (wr.alloc (.cells #[.pointer none, .slice none 0 0] 342)).alloc (.cells #[.slice (some ⟨g5, 0, none⟩) kc c5] 60) = w7 at *
    generalize wr.heap.size = b7 at *
    subst hkc
    refine wpIn_rangeFunc_ownG rfl (by omega) (gf := 275) (lb := #[.pointer (some ⟨b7 + 1, 0, none⟩)]) rfl trivial (enters_of Tryz.func275 (by kernel_rfl) rfl)
     (backward_stops (K := 1000000000) Fence.wide 4 trivial rfl (by omega) (b7 + 1) b7 (some ⟨g5, 0, none⟩) c5 cs w7 (by omega) (by omega) HI0.out.2.cell (by omega) HCB.out (fun _ => ⟨g5, 0, rfl, hl5, fun j hj => by rw [Nat.zero_add]; exact HCL7.out j hj⟩)) kpB_t (kpB_b (by omega) (by omega)) (Below.refl _ _) (fun _ => rfl)
     (fun pre W => BSt b7 cs.length (.slice (some ⟨g5, 0, none⟩) cs.length c5) pre W ∧ Below b7 w7 W)
     (fun _ _ _ => False)
     (OwnFrom.and (Own.from (BSt.own _ _ _) _) (ownFrom_below (by omega) (by omega)))
     (fun _ _ _ _ _ hs _ _ => hs)
     ⟨HI0.out, Below.refl _ _⟩
     (fun x => { tmps := #[Value.agg #[Value.bool false, Value.slice A n c], Value.pointer (some ⟨w.heap.size, 0, none⟩), Value.string ⟨#[]⟩, Value.slice (some ⟨g, 0, none⟩) 0 cap, Value.pointer (some ⟨b4, 0, none⟩), u5, u6, Value.pointer (some ⟨b7, 0, none⟩), .int .i64 (x.1 : Int), .int .u32 ((x.2.1 : Nat) : Int), undef, Value.pointer (some ⟨w.heap.size, 1, none⟩), Value.slice A n c, Value.slice A n c, Value.slice (some ⟨g, 0, none⟩) n cap, Value.slice (some ⟨g, 0, none⟩) n cap, Value.int IntKind.i64 n, Value.bool false, Value.slice (some ⟨g, 0, none⟩) 0 cap, Value.int IntKind.i64 0, Value.bool false, u21, u22, u23, u24, u25, u26, u27, u28, u29, u30, u31, u32, u33, u34, u35, u36, u37, u38, u39, u40, u41, u42, u43, u44, u45, u46, u47, u48, u49, u50, Value.pointer (some ⟨w.heap.size, 0, none⟩), Value.bool false, undef, Value.slice (some ⟨g5, 0, none⟩) cs.length c5, Value.func (Fn.func 275) #[] #[Value.pointer (some ⟨b7 + 1, 0, none⟩)], .int .i64 (x.1 : Int), .int .u32 ((x.2.1 : Nat) : Int), undef, undef, undef, undef, undef, undef, undef, undef, undef, undef, undef, undef, undef, undef, undef, undef], defers := [] }) ?assign ?body ?done ?stop
    case assign =>
     intro l x W K hK
     gi_wp2
     exact hK
    case body =>
     rintro lp pre x W ⟨HB0, hbel⟩ hpl
     have HBS := Lib.hid HB0
     obtain ⟨⟨l0, hb0, hn0⟩, hbxW⟩ := HB0
     have hc9 := nDigits_nine x.2.2
     have hxw : x.2.1 < 1000000000 := x.2.2
     have hol := outL_le cs.length pre
     have HF := Lib.hid (str_FormatUint x.2.1 (by have := x.2.2; omega) W (hg.ext (HE7.out.trans' hbel (by omega))))
     have hcb : W.cell? ⟨b4, 0, none⟩ = some (.slice (some ⟨g5, 0, none⟩) cs.length c5) := (hbel.cell (p := ⟨b4, 0, none⟩) hb4).trans HBX7.out.cell
     have hb7W : b7 ≤ W.heap.size := by have := hbel.size; omega
     have HB0 := Lib.hid hb0
     have HN0 : Hid (l0.length = outL cs.length pre) := hn0
     have HSN := Lib.hid (outL_snoc cs.length pre x)
     have hl0 : l0.length ≤ 9000000 := by rw [hn0]; omega
     clear hb0 hn0
     generalize Lib.nDigits x.2.1 = nd at *
     generalize x.2.1 = xw at *
     generalize x.1 = xi at *
     gi_wp2_with fail
     refine ⟨trivial, CallsIn.inRound lp (callsIn_wide.2 (HF.out.mono ?_))⟩
     rintro e w1 ⟨⟨s, rfl, rfl⟩, hx1⟩
     have HB1 := Lib.hid (builder_ext HB0.out hx1)
     have hcb1 := (hx1.cell (p := ⟨b4, 0, none⟩) (by show b4 < _; omega)).trans hcb
     have hb71 : b7 ≤ w1.heap.size := by have := hx1.size; omega
     have HW1 : Hid (Below b7 W w1) := hx1.mono hb7W
     have HO1 : Hid (Lib.OthersKept 5 (some b7) W w1) := others_ext hx1
     clear HF HB0 hcb hx1 hxw
     by_cases hlo : xi + 1 < cs.length
     ·have hlo' : (xi : Int) < (cs.length : Int) - 1 := by omega
      rw [if_pos hlo] at HSN
      have HR := Lib.hid (fun w2 => zeros_Repeat (9 - s.size) (by omega) w2)
      rw [show (((9 - s.size : Nat)) : Int) = 9 - (s.size : Int) by omega] at HR
      gi_wp2_with fail
      refine ⟨trivial, CallsIn.inRound lp (callsIn_wide.2 ((HR.out _).mono ?_))⟩
      rintro e w2 ⟨⟨s2, rfl, hs2⟩, hx2⟩
      have hb72 : b7 ≤ w2.heap.size := by have := hx2.size; omega
      have HS2 := Lib.hid hs2
      have HWR := Lib.hid (builder_write (builder_ext HB1.out hx2) (s := s2) (by omega) hb72)
      have HW2 : Hid (Below b7 W w2) := HW1.out.trans (hx2.mono hb71)
      have HO2 : Hid (Lib.OthersKept 5 (some b7) W w2) := HO1.out.trans (others_ext hx2)
      clear HR HB1 hcb1 hx2 HW1 HO1 hs2
      gi_wp2_with fail
      refine ⟨trivial, CallsIn.inRound lp (callsIn_wide.2 (HWR.out.mono ?_))⟩
      rintro e w3 ⟨rfl, hb3, hw3, ho3⟩
      have hb73 : b7 ≤ w3.heap.size := by have := hw3.size; omega
      have HWR3 := Lib.hid (builder_write hb3 (s := s) (by
       have h2 := HS2.out
       have e1 : s2.data.toList.length = s2.size := by rw [Array.length_toList]; rfl
       rw [List.length_append]
       omega) hb73)
      have HW3 : Hid (Below b7 W w3) := HW2.out.trans hw3
      have HO3 : Hid (Lib.OthersKept 5 (some b7) W w3) := HO2.out.trans ho3
      clear HWR hb3 hw3 ho3 HW2 HO2
      gi_wp2_with fail
      refine ⟨trivial, CallsIn.inRound lp (callsIn_wide.2 (HWR3.out.mono ?_))⟩
      rintro e w4 ⟨rfl, hb4', hw4, ho4⟩
      have HFIN := Lib.hid (BSt.next HBS.out hbel (B := w7.heap.size) (by omega) hb4' (x := x) (by
       have h2 := HS2.out
       rw [HSN.out, ← HN0.out]
       simp only [List.length_append]
       have e1 : s2.data.toList.length = s2.size := by rw [Array.length_toList]; rfl
       have e2 : s.data.toList.length = s.size := by rw [Array.length_toList]; rfl
       omega) (HW3.out.trans hw4) (HO3.out.trans ho4))
      clear HWR3 hb4' hw4 ho4
      gi_wp2_with fail
      exact HFIN.out
     ·have hlo' : ¬ ((xi : Int) < (cs.length : Int) - 1) := by omega
      rw [if_neg hlo] at HSN
      have HWR3 := Lib.hid (builder_write HB1.out (s := s) (by omega) hb71)
      clear HB1
      gi_wp2_with fail
      refine ⟨trivial, CallsIn.inRound lp (callsIn_wide.2 (HWR3.out.mono ?_))⟩
      rintro e w4 ⟨rfl, hb4', hw4, ho4⟩
      have HFIN := Lib.hid (BSt.next HBS.out hbel (B := w7.heap.size) (by omega) hb4' (x := x) (by
       rw [HSN.out, ← HN0.out]
       simp only [List.length_append]
       have e2 : s.data.toList.length = s.size := by rw [Array.length_toList]; rfl
       omega) (HW1.out.trans hw4) (HO1.out.trans ho4))
      clear HWR3 hb4' hw4 ho4
      gi_wp2_with fail
      exact HFIN.out
    case done =>
     rintro D ys W hD ⟨hy1, hy2⟩ ⟨⟨⟨l', hb, hn⟩, hbx⟩, hbel⟩ hK
     have hall := outL_all (l := l) (t := t) (ys := ys) (by rw [HCSL.out]; exact hy1) (by rw [HCSL.out]; exact hy2)
     rw [HCSL.out, HND.out, ← hn] at hall
     have hb7W : b7 ≤ W.heap.size := by have := hbel.size; omega
     have HSTR := Lib.hid (Any.Builder_String_any_k { Tryz.lays105 with } Tryz.Builder_Extra_105 b7 b7 l' W hb hb7W)
     have HALL := Lib.hid hall
     have HEW : Hid (Ext w W) := HE7.out.trans' hbel (by omega)
     have hna : 1 ≤ ndig a := by
      have h9 := HND.out
      have := Lib.nDigits_pos t
      omega
     clear hy1 hy2 hb hn hbx hall
     gi_wp2_with fail
     refine ⟨trivial, callsIn_wide.2 (HSTR.out.mono ?_)⟩
     rintro e w8 ⟨rfl, h1, h2, h3⟩
     have hK8 : w8.heap[D]? = some (.deferred (some [])) := h3 D _ hK (by intro e; injection e with e; omega) (by intro c fz e; cases e)
     have HE8 : Hid (Ext w w8) := HEW.out.trans' h2 (by omega)
     clear h1 h2 h3 HSTR hK
     gi_wp2_with fail
     refine ⟨by simp, .inl ⟨_, _, rfl, run_takeDeferred hK8, ?_⟩⟩
     refine ⟨_, results_tmp rfl _ _ _, ⟨_, rfl, ?_⟩, Below.trans HE8.out (belowK_b (w := w) (Nat.le_refl _) w8 D _ _ (by omega) hK8 rfl rfl)⟩
     show l'.toArray.size = _
     rw [List.size_toArray, HALL.out]
     omega
    case stop =>
     rintro D c pre W _ _ h _
     exact h.elim
   ·have hk0 : 0 < k := by rw [HK.out, limbs_pos hx0]; simp
    gi_wp2_with fail
    generalize gk = x at *
    gi_loopg [5, 6] k (fun j r i wr2 => ∃ (ρ : Nat) (zs : List Nat), i = .int .i64 ((j : Int) - 1) ∧ r = .int .u64 (ρ : Int) ∧ ρ < 1000000000 ∧ j ≤ k ∧ Hid (MRow wr2 (w.heap.size + 1) g k cap zs) ∧ Hid (CRow wr2 b4 v cs) ∧ Hid ((∀ t, t < j → zs.getD t 0 = (limbs x).getD t 0) ∧ val ((limbs x).drop j) = 1000000000 * val (zs.drop j) + ρ) ∧ Hid (Below g w4 wr2))
    case atStart => exact ⟨0, limbs x, by first | rfl | simp, rfl, by omega, Nat.le_refl _, HM, HCR, ⟨fun _ _ => rfl, by rw [List.drop_eq_nil_of_le (by rw [HK.out]; exact Nat.le_refl _)]; rfl⟩, HBE⟩
    case round =>
     obtain ⟨ρ, zs, rfl, rfl, hρ, hj, HM2, HC2, HV, HB2⟩ := hrel
     by_cases hj0 : 0 < gk
     ·obtain ⟨t, rfl⟩ : ∃ t, gk = t + 1 := ⟨gk - 1, by omega⟩
      have hi : (((t + 1 : Nat) : Int)) - 1 = (t : Int) := by omega
      rw [hi]
      have g1 := own_cell HM2.out.1 HM2.out.2.1 (j := t) (by omega)
      rw [HV.out.1 t (by omega)] at g1
      have g2 := HM2.out.1.frozenAt t
      have hy := (limb_limbs x).getD t
      have HS : Hid (val ((limbs x).drop t) = 1000000000 * val ((zs.set t (((limbs x).getD t 0 + 4294967296 * ρ) / 1000000000)).drop t) + ((limbs x).getD t 0 + 4294967296 * ρ) % 1000000000) := by_step (by rw [← HK.out]; omega) (by rw [HM2.out.2.1]; exact HK.out) HV.out.2
      have HU : Hid (∀ q s, s < t → (zs.set t q).getD s 0 = (limbs x).getD s 0) := fun q s hs => by
       rw [← HV.out.1 s (by omega), List.getD_eq_getElem?_getD, List.getD_eq_getElem?_getD, List.getElem?_set_ne (by omega)]
      have hqr : (((limbs x).getD t 0 + 4294967296 * ρ) / 1000000000) < 4294967296 := by_lt hρ hy
      generalize (limbs x).getD t 0 = y at *
      clear hi HV HK HM HCR HCS HBE
      gi_wp2_with fail
      have e1 := by_r hρ (by omega) hy
      have e2 := by_q hρ (by omega) hy
      simp only [Int.cast_ofNat_Int] at e1 e2
      rw [e1, e2]
      have hr := Nat.mod_lt (y + 4294967296 * ρ) (show 0 < 1000000000 by omega)
      gi_roundg t
      case measure => omega
      case rel => exact ⟨_, _, rfl, rfl, hr, by omega, HM2.out.set_ t hqr, HC2.out.far hgl _, ⟨fun s hs => HU.out _ s hs, HS.out⟩, HB2.out.setCell (p := ⟨g, t, none⟩) (Nat.le_refl _) _⟩
     ·obtain rfl : gk = 0 := by omega
      have hval : val (limbs x) = 1000000000 * val zs + ρ := by have := HV.out.2; simpa using this
      rw [val_limbs] at hval
      have hq : x / 1000000000 = val zs := by omega
      have hr : x % 1000000000 = ρ := by omega
      have htl : trimL zs = limbs (x / 1000000000) := by rw [hq]; exact trimL_eq_limbs HM2.out.2.2
      have HT2 := Lib.hid (int_trim (HM2.out.words hk))
      have HM3 := Lib.hid HM2.out.trim
      rw [htl] at HT2 HM3
      have HS3 : Hid (ChS a (x / 1000000000) (cs ++ [ρ])) := by rw [← hr]; exact HCS.out.step (by omega)
      have HK3 : Hid ((limbs (x / 1000000000)).length ≤ 5000) := by
       have := trimL_length_le zs
       rw [htl, HM2.out.2.1] at this
       show _ ≤ _; omega
      have hx2 : x / 1000000000 < x := by omega
      have hcl : cs.length ≤ 100000000 := by
       have h1 := HCS.out.len (by omega)
       have h2 := ndig_limbs a
       rw [← HN.out] at h2
       omega
      obtain ⟨hbx, hrow⟩ := HC2.out
      have hbc := hbx.cell
      have hb4 : b4 < wr.heap.size := hbx.lt
      obtain ⟨i0, hi, hz0, hz1, hz2⟩ := info_parts infoU32
      have hro : wr.ownsRow b4 118 1 v cs.length (wordVs cs) := hrow
      clear hval hq hr htl HV HK HM HCR HCS HBE
      generalize x / 1000000000 = x' at *
      generalize hlk : (limbs x').length = k' at *
      have HLK := Lib.hid hlk
      clear hlk
      gi_wp2_with fail
      refine ⟨trivial, callsIn_wide.2 (HT2.out.mono ?_)⟩
      rintro e w5 ⟨rfl, rfl⟩
      gi_wp2_with (gi_at_builtin; refine wpListIn_append_own _ rfl _ _ 60 rfl b4 118 i0 (.int .u32 0) 1 4 Tryz.underlying60 hi hz0 hz1 hz2 rfl (by decide) _ _ _ rfl (hro.alloc _) ⟨wr.heap.size, 0, none⟩ 1 1 [.int .u32 (ρ : Int)] rfl rfl (cell_one_new _ _ _) (by simp [Value.oneCell']) (by unfold maxLen; omega) (by omega) (by simp; omega) ?_; intro v5 w5 hown5 hgr5 _; obtain ⟨g5, c5, rfl⟩ := ownsRow_succ hown5; obtain ⟨hv1, hv2, hr2, hk2, hb2⟩ := hbx.appended (by decide) hro (by omega) (Nat.le_refl _) hown5 hgr5; have hc1 := hv1.cell; have hf1 := hv1.frozen; have HM5 := Lib.hid (HM3.out.kept HC2.out hgl hgr5 (v' := .slice (some ⟨g5, 0, none⟩) (cs.length + 1) c5)))
      gi_roundg x'
      case measure => exact hx2
      case rel =>
       refine ⟨k', _, cs ++ [ρ], rfl, HK3.out, HLK.out.symm, HM5, ⟨hv2, ?_⟩, HS3, HB2.out.trans (hb2.mono (by omega))⟩
       have := hr2
       simpa [wordVs] using this
end Go.Proofs.YtmddjbmelajadaaGreatDoor
