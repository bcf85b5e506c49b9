/- The plain law of Drivers: sorted numbers without repetitions; a step of a plan. -/
import Derived.Lib.SlicesCompact
import Derived.Sort.Grow
import Derived.Test.YtmddjbmelajadaaGreatDoorYF
import Derived.Shelf.Sort.Plain
import Derived.Shelf.Slices.CompactI
import Derived.Shelf.Slices.In.SortNone
namespace Go.Proofs.YtmddjbmelajadaaGreatDoor
open Go Go.Lib
theorem incr_ext : ∀ {l m : List Int}, l.Pairwise (· < ·) → m.Pairwise (· < ·) → (∀ x, x ∈ l ↔ x ∈ m) → l = m
 | [], [], _, _, _ => rfl
 | [], b :: m, _, _, h => absurd ((h b).2 (by simp)) (by simp)
 | a :: l, [], _, _, h => absurd ((h a).1 (by simp)) (by simp)
 | a :: l, b :: m, hl, hm, h => by
  have hl' := List.pairwise_cons.1 hl
  have hm' := List.pairwise_cons.1 hm
  have hab : a = b := by
   have h1 := (h a).1 (by simp)
   have h2 := (h b).2 (by simp)
   rcases List.mem_cons.1 h1 with h1 | h1
   ·exact h1
   ·rcases List.mem_cons.1 h2 with h2 | h2
    ·exact h2.symm
    ·have := hl'.1 b h2; have := hm'.1 a h1; omega
  subst hab
  rw [incr_ext hl'.2 hm'.2 fun x => ?_]
  constructor
  ·intro hx
   rcases List.mem_cons.1 ((h x).1 (List.mem_cons_of_mem _ hx)) with e | e
   ·have := hl'.1 x hx; omega
   ·exact e
  ·intro hx
   rcases List.mem_cons.1 ((h x).2 (List.mem_cons_of_mem _ hx)) with e | e
   ·have := hm'.1 x hx; omega
   ·exact e
theorem compactUpTo_mem (d : Array Int) : ∀ m, (∀ x, x ∈ compactUpTo d m ↔ ∃ j, j < m ∧ x = d[j]!)
 | 0, x => by simp [compactUpTo]
 | m + 1, x => by
  rw [compactUpTo_succ, List.mem_append, compactUpTo_mem d m x]
  constructor
  ·rintro (⟨j, hj, rfl⟩ | h)
   ·exact ⟨j, by omega, rfl⟩
   ·split at h
    ·exact ⟨m, by omega, by simpa using h⟩
    ·simp at h
  ·rintro ⟨j, hj, rfl⟩
   rcases Nat.lt_succ_iff_lt_or_eq.1 hj with h | rfl
   ·exact .inl ⟨j, h, rfl⟩
   ·by_cases hk : keeps d j = true
    ·right; simp [hk]
    ·left
     have h0 : 0 < j := by
      rcases Nat.eq_zero_or_pos j with e | e
      ·subst e; exact absurd (keeps_lt_one d 0 (by omega)) hk
      ·exact e
     refine ⟨j - 1, by omega, ?_⟩
     by_cases e : d[j]! = d[j - 1]!
     ·exact e
     ·exact absurd (keeps_pos e) hk
theorem compactUpTo_incr (d : Array Int) (hs : ∀ i j, i ≤ j → j < d.size → d[i]! ≤ d[j]!) : ∀ m, m ≤ d.size → (compactUpTo d m).Pairwise (· < ·)
 | 0, _ => by simp [compactUpTo]
 | m + 1, hm => by
  rw [compactUpTo_succ, List.pairwise_append]
  refine ⟨compactUpTo_incr d hs m (by omega), by split <;> simp, fun a ha b hb => ?_⟩
  split at hb
  ·rename_i hk
   obtain rfl : b = d[m]! := by simpa using hb
   obtain ⟨j, hj, rfl⟩ := (compactUpTo_mem d m a).1 ha
   have h1 : d[j]! ≤ d[m - 1]! := hs j (m - 1) (by omega) (by omega)
   have h2 : d[m - 1]! ≤ d[m]! := hs (m - 1) m (by omega) (by omega)
   have h3 : d[m]! ≠ d[m - 1]! := by
    intro e
    rw [keeps_neg (by omega) e] at hk
    cases hk
   omega
  ·simp at hb
/-- The sorted list without repetitions. -/
def sortC (l : List Int) : List Int := Lib.compact (l.mergeSort fun x y => decide (x ≤ y))
theorem sort_pairwise (l : List Int) : (l.mergeSort fun x y => decide (x ≤ y)).Pairwise (fun x y : Int => x ≤ y) := by
 have := List.pairwise_mergeSort (le := fun x y : Int => decide (x ≤ y)) (by intro a b c h1 h2; simp at *; omega) (by intro a b; simp; omega) l
 exact this.imp (by intro a b h; simpa using h)
theorem sortC_mem (l : List Int) (x : Int) : x ∈ sortC l ↔ x ∈ l := by
 unfold sortC Lib.compact
 have hp := List.mergeSort_perm l (fun x y : Int => decide (x ≤ y))
 rw [compactUpTo_mem, ← hp.mem_iff]
 generalize l.mergeSort _ = z
 constructor
 ·rintro ⟨j, hj, rfl⟩
  rw [getElem!_pos _ j (by simpa using hj)]
  simp
 ·intro h
  obtain ⟨j, hj⟩ := List.getElem?_of_mem h
  obtain ⟨hj1, hj2⟩ := List.getElem?_eq_some_iff.1 hj
  exact ⟨j, hj1, by rw [getElem!_pos _ j (by simpa using hj1)]; simp [hj2]⟩
theorem sortC_incr (l : List Int) : (sortC l).Pairwise (· < ·) := by
 have hs := sort_pairwise l
 unfold sortC Lib.compact
 generalize l.mergeSort _ = z at *
 refine compactUpTo_incr _ (fun i j hij hj => ?_) _ (by simp)
 have hj' : j < z.length := by simpa using hj
 rw [getElem!_pos _ j hj, getElem!_pos _ i (by omega)]
 rcases Nat.lt_or_ge i j with h | h
 ·simpa using List.pairwise_iff_getElem.1 hs i j (by omega) hj' h
 ·obtain rfl : i = j := by omega
  exact Int.le_refl _
theorem sortC_len (l : List Int) : (sortC l).length ≤ l.length := by
 have h := (List.mergeSort_perm l (fun x y : Int => decide (x ≤ y))).length_eq
 unfold sortC Lib.compact
 rw [← h]
 generalize l.mergeSort _ = z
 show (compactUpTo z.toArray z.length).length ≤ z.length
 have key : ∀ m, (compactUpTo z.toArray m).length ≤ m := by
  intro m
  induction m with
  | zero => simp [compactUpTo]
  | succ m ih => rw [compactUpTo_succ]; simp only [List.length_append]; split <;> simp <;> omega
 exact key _
/-- A number put in its place. -/
def insL (n : Int) (l : List Int) : List Int := l.takeWhile (fun x => decide (x < n)) ++ n :: l.drop (l.takeWhile fun x => decide (x < n)).length
theorem drop_take_while (n : Int) : ∀ l : List Int, l.drop (l.takeWhile fun x => decide (x < n)).length = l.dropWhile fun x => decide (x < n)
 | [] => rfl
 | a :: l => by
  by_cases h : a < n
  ·simp [h, drop_take_while n l]
  ·simp [h]
theorem insL_mem (n : Int) (l : List Int) (x : Int) : x ∈ insL n l ↔ x = n ∨ x ∈ l := by
 unfold insL
 rw [drop_take_while]
 conv => rhs; rw [← List.takeWhile_append_dropWhile (p := fun x => decide (x < n)) (l := l)]
 simp only [List.mem_append, List.mem_cons]
 constructor
 ·rintro (h | h | h)
  ·exact .inr (.inl h)
  ·exact .inl h
  ·exact .inr (.inr h)
 ·rintro (h | h | h)
  ·exact .inr (.inl h)
  ·exact .inl h
  ·exact .inr (.inr h)
theorem insL_incr (n : Int) : ∀ l : List Int, l.Pairwise (· < ·) → n ∉ l → (insL n l).Pairwise (· < ·)
 | [], _, _ => by simp [insL]
 | a :: l, h, hn => by
  have h' := List.pairwise_cons.1 h
  by_cases ha : a < n
  ·have ih := insL_incr n l h'.2 (fun e => hn (List.mem_cons_of_mem _ e))
   have e : insL n (a :: l) = a :: insL n l := by simp [insL, ha]
   rw [e, List.pairwise_cons]
   refine ⟨fun x hx => ?_, ih⟩
   rcases (insL_mem n l x).1 hx with rfl | hx
   ·exact ha
   ·exact h'.1 x hx
  ·have e : insL n (a :: l) = n :: a :: l := by simp [insL, ha]
   rw [e, List.pairwise_cons]
   have hna : n < a := by
    have : n ≠ a := fun e => hn (by simp [e])
    omega
   refine ⟨fun x hx => ?_, h⟩
   rcases List.mem_cons.1 hx with rfl | hx
   ·exact hna
   ·have := h'.1 x hx; omega
theorem insL_len (n : Int) (l : List Int) : (insL n l).length = l.length + 1 := by
 have h := congrArg List.length (List.takeWhile_append_dropWhile (p := fun x => decide (x < n)) (l := l))
 unfold insL
 rw [drop_take_while]
 rw [List.length_append] at h
 rw [List.length_append, List.length_cons]
 omega
/-- What is left to be put in, of the numbers that count. -/
def insAll (all : List Int) : List Int → List Int → List Int
 | [], out => out
 | t :: l, out => insAll all l (if t ∈ all ∧ t ∉ out then insL t out else out)
theorem insAll_eq (all : List Int) : ∀ (l out : List Int), out.Pairwise (· < ·) → (insAll all l out).Pairwise (· < ·) ∧ ∀ x, x ∈ insAll all l out ↔ (x ∈ out ∨ (x ∈ l ∧ x ∈ all))
 | [], out, h => ⟨h, fun x => by simp [insAll]⟩
 | t :: l, out, h => by
  unfold insAll
  by_cases ht : t ∈ all ∧ t ∉ out
  ·rw [if_pos ht]
   obtain ⟨h1, h2⟩ := insAll_eq all l (insL t out) (insL_incr t out h ht.2)
   refine ⟨h1, fun x => ?_⟩
   rw [h2, insL_mem, List.mem_cons]
   constructor
   ·rintro ((rfl | h) | h)
    ·exact .inr ⟨.inl rfl, ht.1⟩
    ·exact .inl h
    ·exact .inr ⟨.inr h.1, h.2⟩
   ·rintro (h | ⟨rfl | h, h3⟩)
    ·exact .inl (.inr h)
    ·exact .inl (.inl rfl)
    ·exact .inr ⟨h, h3⟩
  ·rw [if_neg ht]
   obtain ⟨h1, h2⟩ := insAll_eq all l out h
   refine ⟨h1, fun x => ?_⟩
   rw [h2, List.mem_cons]
   constructor
   ·rintro (h | h)
    ·exact .inl h
    ·exact .inr ⟨.inr h.1, h.2⟩
   ·rintro (h | ⟨rfl | h, h3⟩)
    ·exact .inl h
    ·left
     refine Classical.byContradiction fun hx => ht ⟨h3, hx⟩
    ·exact .inr ⟨h, h3⟩
/-- A step of a plan: its kind and its target. -/
structure StI where
 kind : Int
 target : Int
def StI.drives (x : StI) : Bool := decide (x.kind = 1 ∨ x.kind = 2)
/-- The targets of the steps that drive. -/
def dlOf (l : List StI) : List Int := (l.filter StI.drives).map StI.target
theorem dlOf_target {l : List StI} {x : Int} (h : x ∈ dlOf l) : x ∈ l.map StI.target := by
 unfold dlOf at h
 obtain ⟨s, hs, rfl⟩ := List.mem_map.1 h
 exact List.mem_map.2 ⟨s, (List.mem_filter.1 hs).1, rfl⟩
theorem drivers_eq (l : List StI) : sortC (dlOf l) = insAll (dlOf l) (l.map StI.target) [] := by
 obtain ⟨h1, h2⟩ := insAll_eq (dlOf l) (l.map StI.target) [] (by simp)
 refine incr_ext (sortC_incr _) h1 fun x => ?_
 rw [sortC_mem, h2]
 constructor
 ·intro h; exact .inr ⟨dlOf_target h, h⟩
 ·rintro (h | h)
  ·simp at h
  ·exact h.2
theorem dlOf_len (l : List StI) : (dlOf l).length ≤ l.length := by
 unfold dlOf
 rw [List.length_map]
 exact List.length_filter_le _ _
end Go.Proofs.YtmddjbmelajadaaGreatDoor
namespace Go.Proofs.YtmddjbmelajadaaGreatDoor
open Go Go.RowKit Go.Sort
/-- The cells of a step. -/
def StR (_ : World) (cs : List Value) (x : StI) : Prop := ∃ A n c b, cs = [.int .i64 x.kind, .int .i64 x.target, .slice A n c, .int .i64 b]
theorem StR.stable : Stable StR := fun _ _ _ _ _ h => h
theorem Ext.ahead (w : World) (n : Nat) : Ext w (Sort.ahead w n) := ⟨rfl, rfl, rfl, Nat.le_refl _, fun _ _ => rfl⟩
theorem Ext.grow (w : World) (os : Array Obj) : Ext w (Sort.grow w os) := ⟨rfl, rfl, rfl, by simp, fun k hk => heap_grow_old w os hk⟩
theorem heap_mapBlock_ne (w : World) {g k : Nat} (h : k ≠ g) (f : Array Value → Array Value) : (mapBlock w g f).heap[k]? = w.heap[k]? := by
 unfold mapBlock
 simp only [Array.getElem?_modify]
 rw [if_neg (Ne.symm h)]
theorem Ext.putRow {w0 w : World} (h : Ext w0 w) {g : Nat} (hg : w0.heap.size ≤ g) (enc : Int → Value) (off : Nat) (d : Array Int) : Ext w0 (Sort.putRow enc w g off d) :=
 ⟨h.os, h.tape, h.output, by rw [size_putRow]; exact h.size, fun k hk => (heap_mapBlock_ne w (by omega) _).trans (h.block k hk)⟩
theorem holds_of_own {w : World} {base g T cap : Nat} {l : List Int} (h : w.ownsRow base T 1 (.slice (some ⟨g, 0, none⟩) l.length cap) l.length (intVs l)) : Holds (Value.int .i64) w g 0 l.toArray := by
 rcases h.2 with ⟨e, -⟩ | ⟨g', cap', cur, e, hb, hg, hcap, hcm, hcs, htk⟩
 ·cases e
 ·injection e with e1 e2 e3
  injection e1 with e1
  injection e1 with e1 e4
  subst e1 e3
  intro j hj
  have hj' : j < l.length := by simpa using hj
  refine ⟨?_, by simp [World.frozen?, hg]⟩
  rw [cell_of_row w g _ cur _ _ hg, Nat.zero_add]
  have h6 : (intVs l)[j]? = some (.int .i64 l[j]) := by unfold intVs; rw [List.getElem?_map, List.getElem?_eq_getElem hj']; rfl
  rw [← htk, List.getElem?_take, if_pos (by omega)] at h6
  rw [getElem!_pos _ j hj]
  simpa using h6
theorem ints_of_holds {w : World} {g off n cap : Nat} {d : Array Int} {l : List Int} (h : Holds (Value.int .i64) w g off d) (hg : g < w.heap.size) (hn : l.length = n) (hc : n ≤ cap) (hm : n ≤ 1000000) (hle : n ≤ d.size) (hd : ∀ k, k < n → d[k]! = l[k]!) : Ints w (.slice (some ⟨g, off, none⟩) n cap) l := by
 subst hn
 refine ⟨some ⟨g, off, none⟩, cap, rfl, hc, by omega, fun _ => ⟨g, off, rfl, hg, fun k x hk => ⟨[.int .i64 x], rfl, fun j u hj => ?_, rfl⟩⟩⟩
 obtain ⟨hk1, hk2⟩ := List.getElem?_eq_some_iff.1 hk
 have hj0 : j = 0 := by
  have := (List.getElem?_eq_some_iff.1 hj).1
  simp at this; omega
 subst hj0
 simp at hj
 subst hj
 have := (h k (by omega)).1
 rw [hd k hk1, getElem!_pos _ k hk1, hk2] at this
 rw [Nat.mul_one, Nat.add_zero]
 exact this
end Go.Proofs.YtmddjbmelajadaaGreatDoor
namespace Go.Proofs
open Go.Shelf
def Tryz.lays189_ren : Go.Shelf.Ren := ⟨fun | 189 => 13 | 125 => 30 | 257 => 29 | 128 => 62 | 129 => 63 | 294 => 53 | 295 => 54 | 296 => 55 | 297 => 56 | 298 => 57 | 299 => 58 | 216 => 59 | 300 => 60 | 301 => 61 | 328 => 111 | 329 => 112 | 330 => 113 | 331 => 114 | 332 => 115 | 215 => 116 | 343 => 175 | n => n, fun | 28 => 23 | 3 => 3 | 46 => 89 | 0 => 0 | 51 => 118 | 53 => 120 | 4 => 4 | 183 => 110 | 182 => 109 | 131 => 115 | 5 => 5 | 9 => 9 | 218 => 166 | 222 => 170 | 228 => 214 | 229 => 178 | n => n, fun | n => n⟩
theorem Tryz.lays189 : Go.Proofs.Lays.n189 Tryz.prog Tryz.lays189_ren := {
 mixed := by kernel_rfl
 f125 := Tryz.func30.trans (congrArg some (by kernel_rfl))
 f128 := Tryz.func62.trans (congrArg some (by kernel_rfl))
 f129 := Tryz.func63.trans (congrArg some (by kernel_rfl))
 f189 := Tryz.func13.trans (congrArg some (by kernel_rfl))
 f215 := Tryz.func116.trans (congrArg some (by kernel_rfl))
 f216 := Tryz.func59.trans (congrArg some (by kernel_rfl))
 f257 := Tryz.func29.trans (congrArg some (by kernel_rfl))
 f294 := Tryz.func53.trans (congrArg some (by kernel_rfl))
 f295 := Tryz.func54.trans (congrArg some (by kernel_rfl))
 f296 := Tryz.func55.trans (congrArg some (by kernel_rfl))
 f297 := Tryz.func56.trans (congrArg some (by kernel_rfl))
 f298 := Tryz.func57.trans (congrArg some (by kernel_rfl))
 f299 := Tryz.func58.trans (congrArg some (by kernel_rfl))
 f300 := Tryz.func60.trans (congrArg some (by kernel_rfl))
 f301 := Tryz.func61.trans (congrArg some (by kernel_rfl))
 f328 := Tryz.func111.trans (congrArg some (by kernel_rfl))
 f329 := Tryz.func112.trans (congrArg some (by kernel_rfl))
 f330 := Tryz.func113.trans (congrArg some (by kernel_rfl))
 f331 := Tryz.func114.trans (congrArg some (by kernel_rfl))
 f332 := Tryz.func115.trans (congrArg some (by kernel_rfl))
 f343 := Tryz.func175.trans (congrArg some (by kernel_rfl))
 t0 := Tryz.underlying0
 a0 := Tryz.isAgg0
 z0 := Tryz.sizeOf0
 v0 := Tryz.zeroValue0
 t3 := Tryz.underlying3
 a3 := Tryz.isAgg3
 z3 := Tryz.sizeOf3
 v3 := Tryz.zeroValue3
 t4 := Tryz.underlying4
 a4 := Tryz.isAgg4
 z4 := Tryz.sizeOf4
 v4 := Tryz.zeroValue4
 t5 := Tryz.underlying5
 a5 := Tryz.isAgg5
 z5 := Tryz.sizeOf5
 v5 := Tryz.zeroValue5
 t9 := Tryz.underlying9
 a9 := Tryz.isAgg9
 z9 := Tryz.sizeOf9
 v9 := Tryz.zeroValue9
 t28 := Tryz.underlying23
 a28 := Tryz.isAgg23
 z28 := Tryz.sizeOf23
 v28 := Tryz.zeroValue23
 t46 := Tryz.underlying89
 a46 := Tryz.isAgg89
 z46 := Tryz.sizeOf89
 v46 := Tryz.zeroValue89
 t51 := Tryz.underlying118
 a51 := Tryz.isAgg118
 z51 := Tryz.sizeOf118
 v51 := Tryz.zeroValue118
 t53 := Tryz.underlying120
 a53 := Tryz.isAgg120
 z53 := Tryz.sizeOf120
 v53 := Tryz.zeroValue120
 t131 := Tryz.underlying115
 a131 := Tryz.isAgg115
 z131 := Tryz.sizeOf115
 v131 := Tryz.zeroValue115
 t182 := Tryz.underlying109
 a182 := Tryz.isAgg109
 z182 := Tryz.sizeOf109
 v182 := Tryz.zeroValue109
 t183 := Tryz.underlying110
 a183 := Tryz.isAgg110
 z183 := Tryz.sizeOf110
 v183 := Tryz.zeroValue110
 t218 := Tryz.underlying166
 a218 := Tryz.isAgg166
 z218 := Tryz.sizeOf166
 v218 := Tryz.zeroValue166
 t222 := Tryz.underlying170
 a222 := Tryz.isAgg170
 z222 := Tryz.sizeOf170
 v222 := Tryz.zeroValue170
 t228 := Tryz.underlying214
 a228 := Tryz.isAgg214
 z228 := Tryz.sizeOf214
 v228 := Tryz.zeroValue214
 t229 := Tryz.underlying178
 a229 := Tryz.isAgg178
 z229 := Tryz.sizeOf178
 v229 := Tryz.zeroValue178 }
def Tryz.laysNm220_ren : Go.Shelf.Ren := ⟨fun | 20 => 14 | n => n, fun | 22 => 23 | 3 => 3 | 4 => 4 | 0 => 0 | n => n, fun | n => n⟩
theorem Tryz.laysNm220 : Go.Proofs.Lays2.n20 Tryz.prog Tryz.laysNm220_ren := {
 mixed := by kernel_rfl
 f20 := Tryz.func14.trans (congrArg some (by kernel_rfl))
 t0 := Tryz.underlying0
 a0 := Tryz.isAgg0
 z0 := Tryz.sizeOf0
 v0 := Tryz.zeroValue0
 t3 := Tryz.underlying3
 a3 := Tryz.isAgg3
 z3 := Tryz.sizeOf3
 v3 := Tryz.zeroValue3
 t4 := Tryz.underlying4
 a4 := Tryz.isAgg4
 z4 := Tryz.sizeOf4
 v4 := Tryz.zeroValue4
 t22 := Tryz.underlying23
 a22 := Tryz.isAgg23
 z22 := Tryz.sizeOf23
 v22 := Tryz.zeroValue23
 i3 := by kernel_rfl }
end Go.Proofs
namespace Go.Proofs.YtmddjbmelajadaaGreatDoor
open Go Go.RowKit Go.Sort Go.Shelf
/-- A row of the call's own, if there is any element. -/
def OwnL (base : Nat) (w : World) (A : Option Addr) (l : List Int) : Prop := l ≠ [] → ∃ g, A = some ⟨g, 0, none⟩ ∧ base ≤ g ∧ g < w.heap.size ∧ Holds (Value.int .i64) w g 0 l.toArray
theorem ownL_of_own {base : Nat} {w : World} {A : Option Addr} {c : Nat} {l : List Int} (h : w.ownsRow base 3 1 (.slice A l.length c) l.length (intVs l)) : OwnL base w A l ∧ l.length ≤ c := by
 have hh := h
 rcases h.2 with ⟨e, hn⟩ | ⟨g, cap, cur, e, hb, hg, hcap, hcm, hcs, htk⟩
 ·obtain rfl := List.eq_nil_of_length_eq_zero hn
  exact ⟨fun hne => absurd rfl hne, Nat.zero_le _⟩
 ·injection e with e1 e2 e3
  subst e1 e3
  exact ⟨fun _ => ⟨g, rfl, hb, (Array.getElem?_eq_some_iff.1 hg).1, holds_of_own hh⟩, hcap⟩
theorem sort_own {base : Nat} {w : World} {A : Option Addr} {c : Nat} {l : List Int} (h : OwnL base w A l) (hm : l.length ≤ 1000) :
  Calls Tryz.prog 13 #[.slice A l.length c] w fun e w' => e = .returned (.tuple #[]) ∧ OwnL base w' A (l.mergeSort fun x y => decide (x ≤ y)) ∧ ∀ w0, Ext w0 w → w0.heap.size ≤ base → Ext w0 w' := by
 by_cases h0 : l = []
 ·subst h0
  refine (Any.slices_Sort_int_none Tryz.lays189 A c w).mono ?_
  rintro e w' ⟨rfl, rfl⟩
  exact ⟨rfl, fun hne => absurd (by simp) hne, fun _ hx _ => hx⟩
 ·obtain ⟨g, rfl, hb, hg, hH⟩ := h h0
  refine (Any.slices_Sort_int Tryz.lays189 g 0 c l w hH hg (by omega)).mono ?_
  rintro e w' ⟨rfl, nn, os, rfl⟩
  have hl2 : (l.mergeSort fun x y => decide (x ≤ y)).length = l.length := List.length_mergeSort l
  refine ⟨rfl, fun _ => ⟨g, rfl, hb, ?_, ?_⟩, fun w0 hx hle => ?_⟩
  ·have : g < (putRow (Value.int .i64) (Sort.ahead w nn) g 0 (l.mergeSort fun x y => decide (x ≤ y)).toArray).heap.size := by rw [size_putRow]; exact hg
   rw [size_grow]; omega
  ·exact holds_grow _ _ os g 0 _ (by rw [size_putRow]; exact hg) (holds_putRow _ _ g 0 _ _ (holds_ahead _ w nn g 0 _ hH) (by simp))
  ·exact Ext.trans (Ext.putRow (Ext.trans hx (Ext.ahead w nn)) (by omega) _ _ _) (Ext.grow _ _)
theorem compact_len (z : List Int) : (Lib.compact z).length ≤ z.length := by
 show (Lib.compactUpTo z.toArray z.length).length ≤ z.length
 have key : ∀ m, (Lib.compactUpTo z.toArray m).length ≤ m := by
  intro m
  induction m with
  | zero => simp [Lib.compactUpTo]
  | succ m ih => rw [Lib.compactUpTo_succ]; simp only [List.length_append]; split <;> simp <;> omega
 exact key _
theorem ints_put {w : World} {g c q : Nat} {l m : List Int} (hH : Holds (Value.int .i64) w g 0 l.toArray) (hg : g < w.heap.size) (hle : m.length ≤ l.length) (hc : l.length ≤ c) (hm : l.length ≤ 1000) :
  Ints (putRow (Value.int .i64) (Sort.ahead w q) g 0 (m ++ List.replicate (l.length - m.length) 0).toArray) (.slice (some ⟨g, 0, none⟩) m.length c) m := by
 have h1 := holds_putRow (Value.int .i64) (Sort.ahead w q) g 0 l.toArray (m ++ List.replicate (l.length - m.length) 0).toArray (holds_ahead _ w q g 0 _ hH) (by simp; omega)
 refine ints_of_holds h1 (by rw [size_putRow]; exact hg) rfl (by omega) (by omega) (by simp) fun k hk => ?_
 rw [getElem!_pos _ k (by simp; omega), getElem!_pos _ k hk]
 simp [hk]
theorem compact_own {base n : Nat} {w : World} {A : Option Addr} {c : Nat} {l : List Int} (h : OwnL base w A l) (hn : l.length = n) (hm : n ≤ 1000) (hc : n ≤ c) :
  Calls Tryz.prog 14 #[.slice A n c] w fun e w' => e = .returned (.slice A (Lib.compact l).length c) ∧ Ints w' (.slice A (Lib.compact l).length c) (Lib.compact l) ∧ ∀ w0, Ext w0 w → w0.heap.size ≤ base → Ext w0 w' := by
 subst hn
 by_cases h0 : l = []
 ·subst h0
  refine (Any.slices_Compact_int_empty Tryz.laysNm220 A c w).mono ?_
  rintro e w' ⟨rfl, rfl⟩
  exact ⟨rfl, ⟨A, c, rfl, Nat.zero_le _, by show 0 ≤ _; omega, fun hne => absurd rfl hne⟩, fun _ hx _ => hx⟩
 ·obtain ⟨g, rfl, hb, hg, hH⟩ := h h0
  have hle := compact_len l
  refine (Any.slices_Compact_int Tryz.laysNm220 g 0 c l w hH (by omega) hc).mono ?_
  rintro e w' ⟨rfl, q, rfl⟩
  exact ⟨rfl, ints_put hH hg hle hc hm, fun w0 hx hle => Ext.putRow (Ext.trans hx (Ext.ahead w q)) (by omega) _ _ _⟩
theorem dlOf_snoc (l : List StI) {i : Nat} (h : i < l.length) : dlOf (l.take (i + 1)) = dlOf (l.take i) ++ (if l[i].drives then [l[i].target] else []) := by
 unfold dlOf
 rw [List.take_succ_eq_append_getElem h, List.filter_append, List.map_append]
 congr 1
 by_cases hd : l[i].drives <;> simp [hd]
theorem own_snocI {w : World} {base g cap : Nat} {out : List Int} {i : Int} (h : w.ownsRow base 3 1 (.slice (some ⟨g, 0, none⟩) (out.length + 1) cap) (out.length + 1) (intVs out ++ [.int .i64 i])) : w.ownsRow base 3 1 (.slice (some ⟨g, 0, none⟩) (out ++ [i]).length cap) (out ++ [i]).length (intVs (out ++ [i])) := by
 simpa [intVs] using h
theorem news_at (w : World) (cs : List Value) (T : TypeId) (H : Nat) (h : w.heap.size = H) : ∀ j u, cs[j]? = some u → (w.alloc (.cells cs.toArray T)).cell? (Addr.add ⟨H, 0, none⟩ j) = some u := by
 subst h; exact news_new w cs T
theorem CellsAt.twoI {w : World} {g : Nat} {a b : Value} (k : CellsAt w g [a, b]) : w.cell? ⟨g, 0, none⟩ = some a ∧ w.cell? ⟨g, 1, none⟩ = some b := ⟨k.2 0 _ rfl, k.2 1 _ rfl⟩
set_option maxRecDepth 100000 in
set_option maxHeartbeats 3200000 in
theorem drag_Drivers {l : List StI} {v0 v1 : Value} {w : World} (h : ArrAt 4 StR w v0 l) (hl : l.length ≤ 40) :
  Calls Tryz.prog 5 #[.agg #[v0, v1]] w (Ret w fun r w' => ∃ A c, r = .slice A (sortC (dlOf l)).length c ∧ Ints w' (.slice A (sortC (dlOf l)).length c) (sortC (dlOf l))) := by
 obtain ⟨A0, c0, rfl, hl0, hm0⟩ := h.form
 have HST := Lib.hid h
 have HBX := Lib.hid (CellsAt.new w [.slice A0 l.length c0, v1] 25)
 obtain ⟨w1, hw1⟩ : ∃ w1, w.alloc (.cells #[.slice A0 l.length c0, v1] 25) = w1 := ⟨_, rfl⟩
 have HE1 : Hid (Ext w w1) := by rw [← hw1]; exact Ext.alloc _ _
 have HB1 : Hid (CellsAt w1 w.heap.size [.slice A0 l.length c0, v1]) := by rw [← hw1]; exact HBX.out
 have HW1 := Lib.hid hw1
 clear hw1 HBX h
 obtain ⟨i0, hi, hz0, hz1, hz2⟩ := info_parts infoInt
 have hE1 := HE1.out
 obtain ⟨y0, y1⟩ := HB1.out.twoI
 go_enter Tryz.func5, Tryz.ntmps5
 go_upto_region 1 with fail
 rw [HW1.out]
 go_wp2_with fail
 clear y0 y1
 go_loopg [3, 9] l.length (fun gk v x wr => ∃ (i : Nat) (out : List Int) (A : Option Addr) (c : Nat), v = .slice A out.length c ∧ x = .int .i64 (i : Int) ∧ i + gk = l.length ∧ out.length ≤ i ∧ Hid (wr.ownsRow w1.heap.size 3 1 (.slice A out.length c) out.length (intVs out)) ∧ Hid (out = dlOf (l.take i)) ∧ Hid (Ext w1 wr))
 case atStart => exact ⟨0, [], none, 0, rfl, rfl, by omega, Nat.le_refl _, World.ownsRow_nil _ _ _ _, rfl, Ext.refl _⟩
 case round =>
  obtain ⟨i, out, A, c, rfl, rfl, hk, hol, HO, HF, HE⟩ := hrel
  have hE0 := HE.out
  have hEr : Ext w wr := Ext.trans hE1 HE.out
  by_cases hlt : i < l.length
  ·obtain ⟨b, off, rfl, hb, ds, hds, hcell, B, m, d, br, rfl⟩ := HST.out.at_ hlt
   have q0 : wr.cell? ⟨b, off + i * 4, none⟩ = _ := (hEr.cell (p := ⟨b, off + (i * 4 + 0), none⟩) hb).trans (hcell 0 _ rfl)
   have q1 : wr.cell? ⟨b, off + i * 4 + 1, none⟩ = _ := (hEr.cell (p := ⟨b, off + (i * 4 + 1), none⟩) hb).trans (hcell 1 _ rfl)
   have q2 : wr.cell? ⟨b, off + i * 4 + 2, none⟩ = _ := (hEr.cell (p := ⟨b, off + (i * 4 + 2), none⟩) hb).trans (hcell 2 _ rfl)
   have q3 : wr.cell? ⟨b, off + i * 4 + 3, none⟩ = _ := (hEr.cell (p := ⟨b, off + (i * 4 + 3), none⟩) hb).trans (hcell 3 _ rfl)
   have hz3 : b < wr.heap.size := Nat.lt_of_lt_of_le hb hEr.size
   have HST2 := Lib.hid (dlOf_snoc l hlt)
   have HDR : Hid (l[i].drives = (decide (l[i].kind = 1) || decide (l[i].kind = 2))) := by show _ = _; unfold StI.drives; rw [Bool.decide_or]
   clear hcell hds
   generalize hdv : l[i].drives = dv at *
   clear hdv
   generalize l[i].kind = kd at *
   generalize l[i].target = tg at *
   by_cases h1 : kd = 1
   ·have e1 : (kd == 1) = true := by simp [h1]
    have HDV : Hid (dv = true) := by show _ = _; rw [HDR.out, h1]; rfl
    have HF2 : Hid (out ++ [tg] = dlOf (l.take (i + 1))) := by show _ = _; rw [HST2.out, HDV.out, HF.out]; rfl
    clear h1
    go_wp2_with (at_builtin; refine wpList_append_lies _ rfl _ _ 23 rfl w1.heap.size 3 i0 (.int .i64 0) 1 8 Tryz.underlying23 hi hz0 hz1 hz2 rfl (by decide) _ out.length (intVs out) rfl (ownsRow_ext HO.out (by repeat first|exact xA _|assumption|refine xB ?_ _|refine xC ?_|refine xD ?_ _|refine xE ?_ (by simp <;> omega) _|refine xF ?_ (by assumption))) _ 1 1 [.int .i64 tg] rfl rfl (news_at _ [.int .i64 tg] _ _ (by simp)) (by simp [Value.oneCell']) (by omega) (by unfold maxLen; omega) (by omega) (by have := hE0.size; simp; omega) _ rfl ?_; intro g cap w4 hown4 hgrow hat hlt4)
    go_roundg (l.length - (i + 1))
    case measure => omega
    case rel => exact ⟨i + 1, out ++ [tg], some ⟨g, 0, none⟩, cap, by simp, by simp, by omega, by simp; omega, own_snocI hown4, HF2.out, ext_grown hgrow (by repeat first|exact xA _|assumption|refine xB ?_ _|refine xC ?_|refine xD ?_ _|refine xE ?_ (by simp <;> omega) _|refine xF ?_ (by assumption)) (ownsRow_block HO.out)⟩
   ·have e1 : (kd == 1) = false := by simpa using h1
    by_cases h2 : kd = 2
    ·have e2 : (kd == 2) = true := by simp [h2]
     have HDV : Hid (dv = true) := by show _ = _; rw [HDR.out, h2]; rfl
     have HF2 : Hid (out ++ [tg] = dlOf (l.take (i + 1))) := by show _ = _; rw [HST2.out, HDV.out, HF.out]; rfl
     clear h1 h2
     go_wp2_with (at_builtin; refine wpList_append_lies _ rfl _ _ 23 rfl w1.heap.size 3 i0 (.int .i64 0) 1 8 Tryz.underlying23 hi hz0 hz1 hz2 rfl (by decide) _ out.length (intVs out) rfl (ownsRow_ext HO.out (by repeat first|exact xA _|assumption|refine xB ?_ _|refine xC ?_|refine xD ?_ _|refine xE ?_ (by simp <;> omega) _|refine xF ?_ (by assumption))) _ 1 1 [.int .i64 tg] rfl rfl (news_at _ [.int .i64 tg] _ _ (by simp)) (by simp [Value.oneCell']) (by omega) (by unfold maxLen; omega) (by omega) (by have := hE0.size; simp; omega) _ rfl ?_; intro g cap w4 hown4 hgrow hat hlt4)
     go_roundg (l.length - (i + 1))
     case measure => omega
     case rel => exact ⟨i + 1, out ++ [tg], some ⟨g, 0, none⟩, cap, by simp, by simp, by omega, by simp; omega, own_snocI hown4, HF2.out, ext_grown hgrow (by repeat first|exact xA _|assumption|refine xB ?_ _|refine xC ?_|refine xD ?_ _|refine xE ?_ (by simp <;> omega) _|refine xF ?_ (by assumption)) (ownsRow_block HO.out)⟩
    ·have e2 : (kd == 2) = false := by simpa using h2
     have HDV : Hid (dv = false) := by show _ = _; rw [HDR.out, decide_eq_false h1, decide_eq_false h2]; rfl
     have HF2 : Hid (out = dlOf (l.take (i + 1))) := by show _ = _; rw [HST2.out, HDV.out, HF.out]; simp
     clear h1 h2
     go_wp2_with fail
     go_roundg (l.length - (i + 1))
     case measure => omega
     case rel => exact ⟨i + 1, out, _, _, rfl, by simp, by omega, by omega, ownsRow_ext HO.out (by repeat first|exact xA _|assumption|refine xB ?_ _|refine xC ?_|refine xD ?_ _|refine xE ?_ (by simp <;> omega) _|refine xF ?_ (by assumption)), HF2.out, hE0.trans (by repeat first|exact xA _|assumption|refine xB ?_ _|refine xC ?_|refine xD ?_ _|refine xE ?_ (by simp <;> omega) _|refine xF ?_ (by assumption))⟩
  ·have HU : Hid (out = dlOf l) := by show _ = _; rw [HF.out, List.take_of_length_le (by omega)]
   obtain ⟨hO1, hO2⟩ := ownL_of_own HO.out
   have HS := Lib.hid (sort_own (c := c) hO1 (by omega))
   have HL : Hid ((out.mergeSort fun x y => decide (x ≤ y)).length = out.length) := List.length_mergeSort out
   have HQ : Hid (Lib.compact (out.mergeSort fun x y => decide (x ≤ y)) = sortC (dlOf l)) := by show _ = _; rw [HU.out]; rfl
   clear hO1
   go_wp2_with fail
   refine HS.out.mono ?_
   rintro e w2 ⟨rfl, hO3, hx2⟩
   have HC := Lib.hid (compact_own (c := c) hO3 HL.out (by omega) hO2)
   have hX2 := hx2 w1 hE0 (Nat.le_refl _)
   clear hO3
   go_wp2_with fail
   refine HC.out.mono ?_
   rintro e w3 ⟨rfl, hI, hx3⟩
   have HI := Lib.hid hI
   have hX3 := hx3 w1 hX2 (Nat.le_refl _)
   clear hI
   go_wp2_with fail
   go_ret
   have e0 : Value.slice A (Lib.compact (out.mergeSort fun x y => decide (x ≤ y))).length c = .slice A (sortC (dlOf l)).length c := by rw [HQ.out]
   exact ⟨_, rfl, ⟨A, c, e0, by rw [← HQ.out]; exact HI.out⟩, Ext.trans hE1 hX3⟩
end Go.Proofs.YtmddjbmelajadaaGreatDoor
