/- How what the arguments read as lies in memory: slices, integers, rational numbers. -/
import Derived.Test.YtjigihlhjhbkpaaGreatDoorYJ
import Derived.Deep.Slices
import Derived.SizedLaws
import GoSem.ClaimJoined
namespace Go.Proofs.YtjigihlhjhbkpaaGreatDoor
open Go Go.RowKit Go.ChangeShapes Go.WideShapes Go.Deep
section
variable {H : Type} {enc : TypeId × Value → H} {w : World}
/-- The reading of the arguments. -/
noncomputable abbrev TR (enc : TypeId × Value → H) (w : World) (n : Nat) (t : TypeId) (cs : List Value) : Option (DataW H × List MemPlace) := DataW.trod enc Tryz.prog w 0 (fun _ => true) true n t cs
/-- All weights within the reach. -/
def Fits (l : List Nat) : Prop := l.all (· ≤ reachBytes) = true
theorem Fits.left {l m : List Nat} (h : Fits (l ++ m)) : Fits l := by unfold Fits at *; rw [List.all_append, Bool.and_eq_true] at h; exact h.1
theorem Fits.right {l m : List Nat} (h : Fits (l ++ m)) : Fits m := by unfold Fits at *; rw [List.all_append, Bool.and_eq_true] at h; exact h.2
theorem Fits.head {a : Nat} {l : List Nat} (h : Fits (a :: l)) : a ≤ reachBytes := by unfold Fits at h; simp at h; exact h.1
theorem Fits.tail {a : Nat} {l : List Nat} (h : Fits (a :: l)) : Fits l := by unfold Fits at *; simp at h ⊢; exact h.2
theorem fits_all {e : TypeId} {l : List (DataW H)} (h : Fits (DataW.weightsAll Tryz.prog e l)) : ∀ d ∈ l, Fits (d.weights Tryz.prog e) := by
 induction l with
 | nil => simp
 | cons a l ih =>
  intro d hd
  rw [DataW.weightsAll] at h
  rcases List.mem_cons.1 hd with rfl | hd
  ·exact h.left
  ·exact ih h.right d hd
theorem spot_none {a : Addr} {v : Value} (h : w.cell? a = some v) : a = ⟨a.block, a.off, none⟩ ∧ a.block < w.heap.size := by
 unfold World.cell? at h
 obtain ⟨b, o, s⟩ := a
 simp only at h ⊢
 have hlt : b < w.heap.size := by
  rcases Nat.lt_or_ge b w.heap.size with h1 | h1
  ·exact h1
  ·rw [Array.getElem?_eq_none h1] at h; cases h
 cases s with
 | none => exact ⟨rfl, hlt⟩
 | some s => (split at h <;> simp at h)
/-- A slice of structs. -/
theorem arr_read {α : Type} [Inhabited α] {t e : TypeId} {sz bytes : Nat} {R : World → List Value → α → Prop} {n : Nat} {cs : List Value} {x : DataW H × List MemPlace} (ht : Tryz.prog.underlying t = some (.slice e)) (hc : Tryz.prog.cellsOf e = sz) (hsz : 0 < sz) (hb : Tryz.prog.bytesOf e = bytes) (h4 : 4 ≤ bytes)
  (h : TR enc w n t cs = some x) (hw : Fits (x.1.weights Tryz.prog t)) (elem : ∀ m ds y, m < n → ds.length = sz → TR enc w m e ds = some y → Fits (y.1.weights Tryz.prog e) → ∃ a, R w ds a) :
  ∃ v xs, cs = [v] ∧ ArrAt sz R w v xs ∧ ∀ A l c, v = .slice A l c → c ≤ 35184372088832 := by
 rcases DataW.trod_slice ht h with ⟨rfl, -⟩ | ⟨a, len, cap, elems, rest, m, hn, rfl, rfl, -, hl, hm, hlen, hel, hsp, -⟩
 ·exact ⟨_, [], rfl, ⟨none, 0, rfl, Nat.le_refl _, by simp, fun h => absurd rfl h⟩, fun A l c e => by cases e; omega⟩
 ·have hrl := (hsp rfl).1
  simp only [DataW.weights, ht] at hw
  have hw0 := hw.head
  rw [List.length_map, List.length_map, hlen, hrl, hb] at hw0
  have hcap : len + (cap - len) = cap := by omega
  rw [hcap] at hw0
  have hreach : reachBytes ≤ 140737488355328 := by decide
  have hcl : cap * 4 ≤ cap * bytes := Nat.mul_le_mul_left _ h4
  have hcap2 : cap ≤ 35184372088832 := by omega
  have hall := fits_all (hw.tail.left)
  have key : ∀ i, i < len → ∃ p : α × List Value, p.2.length = sz ∧ (∀ j u, p.2[j]? = some u → w.cell? ((a.add (i * sz)).add j) = some u) ∧ R w p.2 p.1 := by
   intro i hi
   have h1 := hel i hi
   rw [hc, List.getElem?_eq_getElem (by omega)] at h1
   obtain ⟨ds, h2, h3⟩ := Option.bind_eq_some_iff.1 h1
   obtain ⟨-, h5, h6⟩ := World.cells?_some h2
   obtain ⟨y, hy⟩ := elem m ds _ (by omega) h5 h3 (hall _ (List.mem_map.2 ⟨_, List.getElem_mem (show i < elems.length by omega), rfl⟩))
   refine ⟨(y, ds), h5, fun j u hj => ?_, hy⟩
   have hj' : j < sz := by rw [← h5]; exact (List.getElem?_eq_some_iff.1 hj).1
   rw [h6 j hj']; exact hj
  obtain ⟨f, hf⟩ := choose_lt (α := α × List Value) key
  refine ⟨_, (List.range len).map fun i => (f i).1, rfl, ⟨some a, cap, by simp, by simpa using hl, by simp; omega, fun hne => ?_⟩, fun A l c e => by cases e; exact hcap2⟩
  have h0 : 0 < len := by
   rcases Nat.eq_zero_or_pos len with h0 | h0
   ·subst h0; simp at hne
   ·exact h0
  obtain ⟨g1, g2, g3⟩ := hf 0 h0
  obtain ⟨u0, hu0⟩ : ∃ u, (f 0).2[0]? = some u := ⟨_, List.getElem?_eq_getElem (by omega)⟩
  have hc0 := g2 0 u0 hu0
  rw [Nat.zero_mul] at hc0
  have hadd : (a.add 0).add 0 = a := by simp [Addr.add]
  rw [hadd] at hc0
  obtain ⟨hs, hlt⟩ := spot_none hc0
  refine ⟨a.block, a.off, by rw [← hs], hlt, fun k x hk => ?_⟩
  have hkl : k < len := by have := (List.getElem?_eq_some_iff.1 hk).1; simpa using this
  obtain ⟨g1, g2, g3⟩ := hf k hkl
  refine ⟨(f k).2, g1, fun j u hj => ?_, ?_⟩
  ·have := g2 j u hj
   rw [hs, add_add, Addr.add_lit] at this
   exact this
  ·have : x = (f k).1 := by
    rw [List.getElem?_map, List.getElem?_range hkl] at hk
    simpa using hk.symm
   rw [this]; exact g3
end
end Go.Proofs.YtjigihlhjhbkpaaGreatDoor
namespace Go.Proofs.YtjigihlhjhbkpaaGreatDoor
open Go Go.RowKit Go.ChangeShapes Go.WideShapes Go.Deep
theorem cBool : Tryz.prog.cellsOf 4 = 1 := by kernel_rfl
theorem cInt : Tryz.prog.cellsOf 3 = 1 := by kernel_rfl
theorem cStr : Tryz.prog.cellsOf 9 = 1 := by kernel_rfl
theorem cU32 : Tryz.prog.cellsOf 127 = 1 := by kernel_rfl
theorem cWords : Tryz.prog.cellsOf 45 = 1 := by kernel_rfl
theorem cInts : Tryz.prog.cellsOf 81 = 1 := by kernel_rfl
theorem cZ : Tryz.prog.cellsOf 47 = 2 := by kernel_rfl
theorem cQ : Tryz.prog.cellsOf 49 = 4 := by kernel_rfl
theorem cPt : Tryz.prog.cellsOf 51 = 8 := by kernel_rfl
theorem cRd : Tryz.prog.cellsOf 54 = 5 := by kernel_rfl
theorem cSg : Tryz.prog.cellsOf 71 = 2 := by kernel_rfl
theorem cAr : Tryz.prog.cellsOf 61 = 4 := by kernel_rfl
theorem cPc : Tryz.prog.cellsOf 105 = 3 := by kernel_rfl
theorem cCh : Tryz.prog.cellsOf 77 = 1 := by kernel_rfl
theorem cCn : Tryz.prog.cellsOf 84 = 5 := by kernel_rfl
theorem cEx : Tryz.prog.cellsOf 91 = 7 := by kernel_rfl
theorem cExs : Tryz.prog.cellsOf 82 = 1 := by kernel_rfl
theorem cSk : Tryz.prog.cellsOf 29 = 6 := by kernel_rfl
theorem cSks : Tryz.prog.cellsOf 22 = 1 ∧ Tryz.prog.cellsOf 23 = 1 ∧ Tryz.prog.cellsOf 24 = 1 ∧ Tryz.prog.cellsOf 25 = 1 ∧ Tryz.prog.cellsOf 26 = 1 ∧ Tryz.prog.cellsOf 27 = 1 := ⟨by kernel_rfl, by kernel_rfl, by kernel_rfl, by kernel_rfl, by kernel_rfl, by kernel_rfl⟩
section
variable {H : Type} {enc : TypeId × Value → H} {w : World}
theorem words_read {n : Nat} {cs : List Value} {x : DataW H × List MemPlace} (h : TR enc w n 45 cs = some x) (hw : Fits (x.1.weights Tryz.prog 45)) : ∃ v xs, cs = [v] ∧ Words w v xs := by
 obtain ⟨v, xs, rfl, ⟨A, c, hv, hl, hm, hel⟩, -⟩ := arr_read (α := Nat) (R := fun _ ds a => ds = [.int .u32 (a : Int)] ∧ a < 4294967296) (sz := 1) (bytes := 4) Tryz.underlying45 cU32 (by omega) (by kernel_rfl) (by omega) h hw (fun m ds y _ _ hy _ => by
  obtain ⟨k, rfl, -, hwf⟩ := DataW.trod_int Tryz.underlying127 hy
  have h1 : 0 ≤ k ∧ k ≤ 4294967295 := by
   simp only [Lit.wf, Bool.and_eq_true, decide_eq_true_eq] at hwf
   exact ⟨hwf.1, hwf.2⟩
  exact ⟨k.toNat, by rw [show ((k.toNat : Nat) : Int) = k by omega], by omega⟩)
 have hL : ∀ (k y : Nat), xs[k]? = some y → y < 4294967296 := fun k y hk => by
  obtain ⟨b, off, -, -, h3⟩ := hel (by intro e; rw [e] at hk; simp at hk)
  obtain ⟨ds, -, -, -, h5⟩ := h3 k y hk
  exact h5
 refine ⟨v, xs, rfl, A, c, hv, hl, hm, fun y hy => ?_, fun h0 => ?_⟩
 ·obtain ⟨k, hk⟩ := List.getElem?_of_mem hy
  exact hL k y hk
 ·obtain ⟨b, off, h1, h2, h3⟩ := hel (by intro e; rw [e] at h0; simp at h0)
  refine ⟨b, off, h1, h2, fun k hk => ?_⟩
  obtain ⟨ds, h4, h5, h6, -⟩ := h3 k _ (List.getElem?_eq_getElem hk)
  have := h5 0 _ (by rw [h6]; rfl)
  rw [Nat.mul_one, Nat.add_zero] at this
  rw [this, List.getD_eq_getElem?_getD, List.getElem?_eq_getElem hk]; rfl
theorem two_of {α : Type} {l : List α} (h : l.length = 2) : ∃ a b, l = [a, b] := by
 match l, h with
 | [a, b], _ => exact ⟨a, b, rfl⟩
theorem four_of {α : Type} {l : List α} (h : l.length = 4) : ∃ a b c d, l = [a, b, c, d] := by
 match l, h with
 | [a, b, c, d], _ => exact ⟨a, b, c, d, rfl⟩
theorem z_read {n : Nat} {cs : List Value} {x : DataW H × List MemPlace} (h : TR enc w n 47 cs = some x) (hw : Fits (x.1.weights Tryz.prog 47)) : ∃ (z : ZI) (u : Value), cs = [.bool z.neg, u] ∧ Words w u z.mag := by
 obtain ⟨xs, m, rfl, rfl, hl, hxl, hf⟩ := DataW.trod_struct Tryz.underlying47 h
 rw [cZ] at hl
 obtain ⟨a, b, rfl⟩ := two_of hl
 obtain ⟨x0, x1, rfl⟩ := two_of hxl
 have h0 : TR enc w m 4 ((([a, b] : List Value).drop 0).take (Tryz.prog.cellsOf 4)) = some x0 := by have h := hf 0 _ rfl; exact h
 rw [cBool] at h0
 change TR enc w m 4 [a] = some x0 at h0
 have h1 : TR enc w m 45 ((([a, b] : List Value).drop 1).take (Tryz.prog.cellsOf 45)) = some x1 := by have h := hf 1 _ rfl; exact h
 rw [cWords] at h1
 change TR enc w m 45 [b] = some x1 at h1
 simp only [DataW.weights, Tryz.underlying47, List.map_cons, List.map_nil, DataW.weightsEach] at hw
 obtain ⟨b0, e0, -⟩ := DataW.trod_bool Tryz.underlying4 h0
 obtain ⟨v, ys, e1, hv⟩ := words_read h1 hw.right.left
 simp only [List.cons.injEq, and_true] at e0 e1
 exact ⟨⟨b0, ys⟩, v, by rw [e0, e1], hv⟩
theorem q_read {n : Nat} {cs : List Value} {x : DataW H × List MemPlace} (h : TR enc w n 49 cs = some x) (hw : Fits (x.1.weights Tryz.prog 49)) : ∃ (q : QI) (u v : Value), cs = [.bool q.num.neg, u, .bool q.den.neg, v] ∧ Words w u q.num.mag ∧ Words w v q.den.mag := by
 obtain ⟨xs, m, rfl, rfl, hl, hxl, hf⟩ := DataW.trod_struct Tryz.underlying49 h
 rw [cQ] at hl
 obtain ⟨a, b, c, d, rfl⟩ := four_of hl
 obtain ⟨x0, x1, rfl⟩ := two_of hxl
 have h0 : TR enc w m 47 ((([a, b, c, d] : List Value).drop 0).take (Tryz.prog.cellsOf 47)) = some x0 := by have h := hf 0 _ rfl; exact h
 rw [cZ] at h0
 change TR enc w m 47 [a, b] = some x0 at h0
 have h1 : TR enc w m 47 ((([a, b, c, d] : List Value).drop 2).take (Tryz.prog.cellsOf 47)) = some x1 := by have h := hf 1 _ rfl; exact h
 rw [cZ] at h1
 change TR enc w m 47 [c, d] = some x1 at h1
 simp only [DataW.weights, Tryz.underlying49, List.map_cons, List.map_nil, DataW.weightsEach] at hw
 obtain ⟨z0, u0, e0, hu⟩ := z_read h0 hw.left
 obtain ⟨z1, u1, e1, hv⟩ := z_read h1 hw.right.left
 simp only [List.cons.injEq, and_true] at e0 e1
 exact ⟨⟨z0, z1⟩, u0, u1, by rw [e0.1, e0.2, e1.1, e1.2], hu, hv⟩
end
end Go.Proofs.YtjigihlhjhbkpaaGreatDoor
namespace Go.Proofs.YtjigihlhjhbkpaaGreatDoor
open Go Go.RowKit Go.ChangeShapes Go.WideShapes Go.Deep
theorem three_of {α : Type} {l : List α} (h : l.length = 3) : ∃ a b c, l = [a, b, c] := by
 match l, h with
 | [a, b, c], _ => exact ⟨a, b, c, rfl⟩
theorem five_of {α : Type} {l : List α} (h : l.length = 5) : ∃ a b c d e, l = [a, b, c, d, e] := by
 match l, h with
 | [a, b, c, d, e], _ => exact ⟨a, b, c, d, e, rfl⟩
theorem six_of {α : Type} {l : List α} (h : l.length = 6) : ∃ a b c d e f, l = [a, b, c, d, e, f] := by
 match l, h with
 | [a, b, c, d, e, f], _ => exact ⟨a, b, c, d, e, f, rfl⟩
theorem seven_ofX {α : Type} {l : List α} (h : l.length = 7) : ∃ a b c d e f g, l = [a, b, c, d, e, f, g] := by
 match l, h with
 | [a, b, c, d, e, f, g], _ => exact ⟨a, b, c, d, e, f, g, rfl⟩
theorem eight_of {α : Type} {l : List α} (h : l.length = 8) : ∃ a b c d e f g i, l = [a, b, c, d, e, f, g, i] := by
 match l, h with
 | [a, b, c, d, e, f, g, i], _ => exact ⟨a, b, c, d, e, f, g, i, rfl⟩
section
variable {H : Type} {enc : TypeId × Value → H} {w : World}
theorem int_read {n : Nat} {cs : List Value} {x : DataW H × List MemPlace} (h : TR enc w n 3 cs = some x) : ∃ k : Int, cs = [.int .i64 k] := by
 obtain ⟨k, h1, _⟩ := DataW.trod_int Tryz.underlying3 h
 exact ⟨k, h1⟩
theorem bool_read {n : Nat} {cs : List Value} {x : DataW H × List MemPlace} (h : TR enc w n 4 cs = some x) : ∃ k : Bool, cs = [.bool k] := by
 obtain ⟨k, h1, _⟩ := DataW.trod_bool Tryz.underlying4 h
 exact ⟨k, h1⟩
theorem str_read {n : Nat} {cs : List Value} {x : DataW H × List MemPlace} (h : TR enc w n 9 cs = some x) : ∃ k : ByteArray, cs = [.string k] := by
 obtain ⟨k, h1, _⟩ := DataW.trod_string Tryz.underlying9 h
 exact ⟨k, h1⟩
theorem pt_read {n : Nat} {cs : List Value} {x : DataW H × List MemPlace} (h : TR enc w n 51 cs = some x) (hw : Fits (x.1.weights Tryz.prog 51)) : ∃ p, PtR w cs p := by
 obtain ⟨xs, m, rfl, rfl, hl, hxl, hf⟩ := DataW.trod_struct Tryz.underlying51 h
 rw [cPt] at hl
 obtain ⟨a0, a1, a2, a3, a4, a5, a6, a7, rfl⟩ := eight_of hl
 obtain ⟨x0, x1, rfl⟩ := two_of hxl
 have h0 : TR enc w m 49 ((([a0, a1, a2, a3, a4, a5, a6, a7] : List Value).drop 0).take (Tryz.prog.cellsOf 49)) = some x0 := by have h := hf 0 _ rfl; exact h
 rw [cQ] at h0
 change TR enc w m 49 [a0, a1, a2, a3] = some x0 at h0
 have h1 : TR enc w m 49 ((([a0, a1, a2, a3, a4, a5, a6, a7] : List Value).drop 4).take (Tryz.prog.cellsOf 49)) = some x1 := by have h := hf 1 _ rfl; exact h
 rw [cQ] at h1
 change TR enc w m 49 [a4, a5, a6, a7] = some x1 at h1
 simp only [DataW.weights, Tryz.underlying51, List.map_cons, List.map_nil, DataW.weightsEach] at hw
 obtain ⟨q0, u0, v0, e0, hu0, hv0⟩ := q_read h0 hw.left
 obtain ⟨q1, u1, v1, e1, hu1, hv1⟩ := q_read h1 hw.right.left
 simp only [List.cons.injEq, and_true] at e0 e1
 obtain ⟨rfl, rfl, rfl, rfl⟩ := e0
 obtain ⟨rfl, rfl, rfl, rfl⟩ := e1
 exact ⟨⟨q0, q1⟩, _, _, _, _, rfl, hu0, hv0, hu1, hv1⟩
theorem rd_read {n : Nat} {cs : List Value} {x : DataW H × List MemPlace} (h : TR enc w n 54 cs = some x) (hw : Fits (x.1.weights Tryz.prog 54)) : ∃ p, RdR w cs p := by
 obtain ⟨xs, m, rfl, rfl, hl, hxl, hf⟩ := DataW.trod_struct Tryz.underlying54 h
 rw [cRd] at hl
 obtain ⟨a0, a1, a2, a3, a4, rfl⟩ := five_of hl
 obtain ⟨x0, x1, rfl⟩ := two_of hxl
 have h0 : TR enc w m 3 ((([a0, a1, a2, a3, a4] : List Value).drop 0).take (Tryz.prog.cellsOf 3)) = some x0 := by have h := hf 0 _ rfl; exact h
 rw [cInt] at h0
 change TR enc w m 3 [a0] = some x0 at h0
 have h1 : TR enc w m 49 ((([a0, a1, a2, a3, a4] : List Value).drop 1).take (Tryz.prog.cellsOf 49)) = some x1 := by have h := hf 1 _ rfl; exact h
 rw [cQ] at h1
 change TR enc w m 49 [a1, a2, a3, a4] = some x1 at h1
 simp only [DataW.weights, Tryz.underlying54, List.map_cons, List.map_nil, DataW.weightsEach] at hw
 obtain ⟨k, e0⟩ := int_read h0
 obtain ⟨q1, u1, v1, e1, hu1, hv1⟩ := q_read h1 hw.right.left
 simp only [List.cons.injEq, and_true] at e0 e1
 subst e0
 obtain ⟨rfl, rfl, rfl, rfl⟩ := e1
 exact ⟨⟨k, q1⟩, _, _, rfl, hu1, hv1⟩
theorem sg_read {n : Nat} {cs : List Value} {x : DataW H × List MemPlace} (h : TR enc w n 71 cs = some x) : ∃ p, SgR w cs p := by
 obtain ⟨xs, m, rfl, rfl, hl, hxl, hf⟩ := DataW.trod_struct Tryz.underlying71 h
 rw [cSg] at hl
 obtain ⟨a0, a1, rfl⟩ := two_of hl
 obtain ⟨x0, x1, rfl⟩ := two_of hxl
 have h0 : TR enc w m 3 ((([a0, a1] : List Value).drop 0).take (Tryz.prog.cellsOf 3)) = some x0 := by have h := hf 0 _ rfl; exact h
 rw [cInt] at h0
 change TR enc w m 3 [a0] = some x0 at h0
 have h1 : TR enc w m 3 ((([a0, a1] : List Value).drop 1).take (Tryz.prog.cellsOf 3)) = some x1 := by have h := hf 1 _ rfl; exact h
 rw [cInt] at h1
 change TR enc w m 3 [a1] = some x1 at h1
 obtain ⟨k0, e0⟩ := int_read h0
 obtain ⟨k1, e1⟩ := int_read h1
 simp only [List.cons.injEq, and_true] at e0 e1
 subst e0 e1
 exact ⟨⟨k0, k1⟩, rfl⟩
theorem ar_read {n : Nat} {cs : List Value} {x : DataW H × List MemPlace} (h : TR enc w n 61 cs = some x) : ∃ p, ArR w cs p := by
 obtain ⟨xs, m, rfl, rfl, hl, hxl, hf⟩ := DataW.trod_struct Tryz.underlying61 h
 rw [cAr] at hl
 obtain ⟨a0, a1, a2, a3, rfl⟩ := four_of hl
 obtain ⟨x0, x1, x2, x3, rfl⟩ := four_of hxl
 have h0 : TR enc w m 3 ((([a0, a1, a2, a3] : List Value).drop 0).take (Tryz.prog.cellsOf 3)) = some x0 := by have h := hf 0 _ rfl; exact h
 rw [cInt] at h0
 change TR enc w m 3 [a0] = some x0 at h0
 have h1 : TR enc w m 3 ((([a0, a1, a2, a3] : List Value).drop 1).take (Tryz.prog.cellsOf 3)) = some x1 := by have h := hf 1 _ rfl; exact h
 rw [cInt] at h1
 change TR enc w m 3 [a1] = some x1 at h1
 have h2 : TR enc w m 3 ((([a0, a1, a2, a3] : List Value).drop 2).take (Tryz.prog.cellsOf 3)) = some x2 := by have h := hf 2 _ rfl; exact h
 rw [cInt] at h2
 change TR enc w m 3 [a2] = some x2 at h2
 have h3 : TR enc w m 4 ((([a0, a1, a2, a3] : List Value).drop 3).take (Tryz.prog.cellsOf 4)) = some x3 := by have h := hf 3 _ rfl; exact h
 rw [cBool] at h3
 change TR enc w m 4 [a3] = some x3 at h3
 obtain ⟨k0, e0⟩ := int_read h0
 obtain ⟨k1, e1⟩ := int_read h1
 obtain ⟨k2, e2⟩ := int_read h2
 obtain ⟨k3, e3⟩ := bool_read h3
 simp only [List.cons.injEq, and_true] at e0 e1 e2 e3
 subst e0 e1 e2 e3
 exact ⟨⟨k0, k1, k2, k3⟩, rfl⟩
theorem pc_read {n : Nat} {cs : List Value} {x : DataW H × List MemPlace} (h : TR enc w n 105 cs = some x) : ∃ p, PcR w cs p := by
 obtain ⟨xs, m, rfl, rfl, hl, hxl, hf⟩ := DataW.trod_struct Tryz.underlying105 h
 rw [cPc] at hl
 obtain ⟨a0, a1, a2, rfl⟩ := three_of hl
 obtain ⟨x0, x1, x2, rfl⟩ := three_of hxl
 have h0 : TR enc w m 4 ((([a0, a1, a2] : List Value).drop 0).take (Tryz.prog.cellsOf 4)) = some x0 := by have h := hf 0 _ rfl; exact h
 rw [cBool] at h0
 change TR enc w m 4 [a0] = some x0 at h0
 have h1 : TR enc w m 3 ((([a0, a1, a2] : List Value).drop 1).take (Tryz.prog.cellsOf 3)) = some x1 := by have h := hf 1 _ rfl; exact h
 rw [cInt] at h1
 change TR enc w m 3 [a1] = some x1 at h1
 have h2 : TR enc w m 4 ((([a0, a1, a2] : List Value).drop 2).take (Tryz.prog.cellsOf 4)) = some x2 := by have h := hf 2 _ rfl; exact h
 rw [cBool] at h2
 change TR enc w m 4 [a2] = some x2 at h2
 obtain ⟨k0, e0⟩ := bool_read h0
 obtain ⟨k1, e1⟩ := int_read h1
 obtain ⟨k2, e2⟩ := bool_read h2
 simp only [List.cons.injEq, and_true] at e0 e1 e2
 subst e0 e1 e2
 exact ⟨⟨k0, k1, k2⟩, rfl⟩
instance : Inhabited ZI := ⟨⟨false, []⟩⟩
instance : Inhabited QI := ⟨⟨default, default⟩⟩
instance : Inhabited PtI := ⟨⟨default, default⟩⟩
instance : Inhabited RdI := ⟨⟨0, default⟩⟩
instance : Inhabited SgI := ⟨⟨0, 0⟩⟩
instance : Inhabited ArI := ⟨⟨0, 0, 0, false⟩⟩
instance : Inhabited PcI := ⟨⟨false, 0, false⟩⟩
instance : Inhabited EI := ⟨.mk 0 default ⟨#[]⟩ []⟩
instance : Inhabited CI := ⟨⟨0, [], [], [], 0⟩⟩
theorem ch_read {n : Nat} {cs : List Value} {x : DataW H × List MemPlace} (h : TR enc w n 77 cs = some x) (hw : Fits (x.1.weights Tryz.prog 77)) : ∃ p, ChR w cs p := by
 obtain ⟨v, xs, rfl, ha, -⟩ := arr_read (R := PcR) (sz := 3) (bytes := 24) Tryz.underlying77 cPc (by omega) (by kernel_rfl) (by omega) h hw (fun m ds y _ _ hy _ => pc_read hy)
 exact ⟨xs, v, rfl, ha⟩
theorem ints_read {n : Nat} {cs : List Value} {x : DataW H × List MemPlace} (h : TR enc w n 81 cs = some x) (hw : Fits (x.1.weights Tryz.prog 81)) : ∃ v xs, cs = [v] ∧ Ints w v xs := by
 obtain ⟨v, xs, rfl, ha, -⟩ := arr_read (R := IntR) (sz := 1) (bytes := 8) Tryz.underlying81 cInt (by omega) (by kernel_rfl) (by omega) h hw (fun m ds y _ _ hy _ => by
  obtain ⟨k, rfl⟩ := int_read hy
  exact ⟨k, rfl⟩)
 exact ⟨v, xs, rfl, ha⟩
theorem ex_read (K : Nat) : ∀ {n : Nat} {cs : List Value} {x : DataW H × List MemPlace}, n ≤ K → TR enc w n 91 cs = some x → Fits (x.1.weights Tryz.prog 91) → ∃ e, ExprR K w cs e := by
 induction K with
 | zero =>
  intro n cs x hn h hw
  obtain ⟨xs, m, rfl, -⟩ := DataW.trod_struct Tryz.underlying91 h
  omega
 | succ K ih =>
  intro n cs x hn h hw
  obtain ⟨xs, m, rfl, rfl, hl, hxl, hf⟩ := DataW.trod_struct Tryz.underlying91 h
  rw [cEx] at hl
  obtain ⟨a0, a1, a2, a3, a4, a5, a6, rfl⟩ := seven_ofX hl
  obtain ⟨x0, x1, x2, x3, rfl⟩ := four_of hxl
  have h0 : TR enc w m 3 ((([a0, a1, a2, a3, a4, a5, a6] : List Value).drop 0).take (Tryz.prog.cellsOf 3)) = some x0 := by have h := hf 0 _ rfl; exact h
  rw [cInt] at h0
  change TR enc w m 3 [a0] = some x0 at h0
  have h1 : TR enc w m 49 ((([a0, a1, a2, a3, a4, a5, a6] : List Value).drop 1).take (Tryz.prog.cellsOf 49)) = some x1 := by have h := hf 1 _ rfl; exact h
  rw [cQ] at h1
  change TR enc w m 49 [a1, a2, a3, a4] = some x1 at h1
  have h2 : TR enc w m 9 ((([a0, a1, a2, a3, a4, a5, a6] : List Value).drop 5).take (Tryz.prog.cellsOf 9)) = some x2 := by have h := hf 2 _ rfl; exact h
  rw [cStr] at h2
  change TR enc w m 9 [a5] = some x2 at h2
  have h3 : TR enc w m 82 ((([a0, a1, a2, a3, a4, a5, a6] : List Value).drop 6).take (Tryz.prog.cellsOf 82)) = some x3 := by have h := hf 3 _ rfl; exact h
  rw [cExs] at h3
  change TR enc w m 82 [a6] = some x3 at h3
  simp only [DataW.weights, Tryz.underlying91, List.map_cons, List.map_nil, DataW.weightsEach] at hw
  obtain ⟨k0, e0⟩ := int_read h0
  obtain ⟨q1, u1, v1, e1, hu1, hv1⟩ := q_read h1 hw.right.left
  obtain ⟨k2, e2⟩ := str_read h2
  obtain ⟨v, ys, e3, ha, hcap⟩ := arr_read (R := ExprR K) (sz := 7) (bytes := 112) Tryz.underlying82 cEx (by omega) (by kernel_rfl) (by omega) h3 hw.right.right.right.left (fun m' ds y hm' _ hy hwy => ih (by omega) hy hwy)
  simp only [List.cons.injEq, and_true] at e0 e1 e2 e3
  subst e0 e2 e3
  obtain ⟨rfl, rfl, rfl, rfl⟩ := e1
  obtain ⟨A, c, rfl, hl, hm, hel⟩ := ha
  refine ⟨.mk k0 q1 k2 ys, _, _, _, rfl, hu1, hv1, A, c, rfl, hl, ?_, hel⟩
  have := hcap A _ c rfl
  unfold maxLen
  omega
theorem cn_read (K : Nat) {n : Nat} {cs : List Value} {x : DataW H × List MemPlace} (hn : n ≤ K) (h : TR enc w n 84 cs = some x) (hw : Fits (x.1.weights Tryz.prog 84)) : ∃ c, ConR K w cs c := by
 obtain ⟨xs, m, rfl, rfl, hl, hxl, hf⟩ := DataW.trod_struct Tryz.underlying84 h
 rw [cCn] at hl
 obtain ⟨a0, a1, a2, a3, a4, rfl⟩ := five_of hl
 obtain ⟨x0, x1, x2, x3, x4, rfl⟩ := five_of hxl
 have h0 : TR enc w m 3 ((([a0, a1, a2, a3, a4] : List Value).drop 0).take (Tryz.prog.cellsOf 3)) = some x0 := by have h := hf 0 _ rfl; exact h
 rw [cInt] at h0
 change TR enc w m 3 [a0] = some x0 at h0
 have h1 : TR enc w m 81 ((([a0, a1, a2, a3, a4] : List Value).drop 1).take (Tryz.prog.cellsOf 81)) = some x1 := by have h := hf 1 _ rfl; exact h
 rw [cInts] at h1
 change TR enc w m 81 [a1] = some x1 at h1
 have h2 : TR enc w m 81 ((([a0, a1, a2, a3, a4] : List Value).drop 2).take (Tryz.prog.cellsOf 81)) = some x2 := by have h := hf 2 _ rfl; exact h
 rw [cInts] at h2
 change TR enc w m 81 [a2] = some x2 at h2
 have h3 : TR enc w m 82 ((([a0, a1, a2, a3, a4] : List Value).drop 3).take (Tryz.prog.cellsOf 82)) = some x3 := by have h := hf 3 _ rfl; exact h
 rw [cExs] at h3
 change TR enc w m 82 [a3] = some x3 at h3
 have h4 : TR enc w m 3 ((([a0, a1, a2, a3, a4] : List Value).drop 4).take (Tryz.prog.cellsOf 3)) = some x4 := by have h := hf 4 _ rfl; exact h
 rw [cInt] at h4
 change TR enc w m 3 [a4] = some x4 at h4
 simp only [DataW.weights, Tryz.underlying84, List.map_cons, List.map_nil, DataW.weightsEach] at hw
 obtain ⟨k0, e0⟩ := int_read h0
 obtain ⟨v1, l1, e1, i1⟩ := ints_read h1 hw.right.left
 obtain ⟨v2, l2, e2, i2⟩ := ints_read h2 hw.right.right.left
 obtain ⟨v3, l3, e3, i3, -⟩ := arr_read (R := ExprR K) (sz := 7) (bytes := 112) Tryz.underlying82 cEx (by omega) (by kernel_rfl) (by omega) h3 hw.right.right.right.left (fun m' ds y hm' _ hy hwy => ex_read K (by omega) hy hwy)
 obtain ⟨k4, e4⟩ := int_read h4
 simp only [List.cons.injEq, and_true] at e0 e1 e2 e3 e4
 subst e0 e1 e2 e3 e4
 exact ⟨⟨k0, l1, l2, l3, k4⟩, _, _, _, rfl, i1, i2, i3⟩
/-- The sketch. -/
theorem sk_read {n : Nat} {cs : List Value} {x : DataW H × List MemPlace} (h : TR enc w n 29 cs = some x) (hw : Fits (x.1.weights Tryz.prog 29)) : ∃ v0 v1 v2 v3 v4 v5 s, cs = [v0, v1, v2, v3, v4, v5] ∧ SkAt n w v0 v1 v2 v3 v4 v5 s := by
 obtain ⟨xs, m, rfl, rfl, hl, hxl, hf⟩ := DataW.trod_struct Tryz.underlying29 h
 rw [cSk] at hl
 obtain ⟨a0, a1, a2, a3, a4, a5, rfl⟩ := six_of hl
 obtain ⟨x0, x1, x2, x3, x4, x5, rfl⟩ := six_of hxl
 have h0 : TR enc w m 22 ((([a0, a1, a2, a3, a4, a5] : List Value).drop 0).take (Tryz.prog.cellsOf 22)) = some x0 := by have h := hf 0 _ rfl; exact h
 rw [cSks.1] at h0
 change TR enc w m 22 [a0] = some x0 at h0
 have h1 : TR enc w m 23 ((([a0, a1, a2, a3, a4, a5] : List Value).drop 1).take (Tryz.prog.cellsOf 23)) = some x1 := by have h := hf 1 _ rfl; exact h
 rw [cSks.2.1] at h1
 change TR enc w m 23 [a1] = some x1 at h1
 have h2 : TR enc w m 24 ((([a0, a1, a2, a3, a4, a5] : List Value).drop 2).take (Tryz.prog.cellsOf 24)) = some x2 := by have h := hf 2 _ rfl; exact h
 rw [cSks.2.2.1] at h2
 change TR enc w m 24 [a2] = some x2 at h2
 have h3 : TR enc w m 25 ((([a0, a1, a2, a3, a4, a5] : List Value).drop 3).take (Tryz.prog.cellsOf 25)) = some x3 := by have h := hf 3 _ rfl; exact h
 rw [cSks.2.2.2.1] at h3
 change TR enc w m 25 [a3] = some x3 at h3
 have h4 : TR enc w m 26 ((([a0, a1, a2, a3, a4, a5] : List Value).drop 4).take (Tryz.prog.cellsOf 26)) = some x4 := by have h := hf 4 _ rfl; exact h
 rw [cSks.2.2.2.2.1] at h4
 change TR enc w m 26 [a4] = some x4 at h4
 have h5 : TR enc w m 27 ((([a0, a1, a2, a3, a4, a5] : List Value).drop 5).take (Tryz.prog.cellsOf 27)) = some x5 := by have h := hf 5 _ rfl; exact h
 rw [cSks.2.2.2.2.2] at h5
 change TR enc w m 27 [a5] = some x5 at h5
 simp only [DataW.weights, Tryz.underlying29, List.map_cons, List.map_nil, DataW.weightsEach] at hw
 obtain ⟨v0, l0, e0, i0, -⟩ := arr_read (R := PtR) (sz := 8) (bytes := 128) Tryz.underlying22 cPt (by omega) (by kernel_rfl) (by omega) h0 hw.left (fun m' ds y hm' _ hy hwy => pt_read hy hwy)
 obtain ⟨v1, l1, e1, i1, -⟩ := arr_read (R := RdR) (sz := 5) (bytes := 72) Tryz.underlying23 cRd (by omega) (by kernel_rfl) (by omega) h1 hw.right.left (fun m' ds y hm' _ hy hwy => rd_read hy hwy)
 obtain ⟨v2, l2, e2, i2, -⟩ := arr_read (R := SgR) (sz := 2) (bytes := 16) Tryz.underlying24 cSg (by omega) (by kernel_rfl) (by omega) h2 hw.right.right.left (fun m' ds y hm' _ hy hwy => sg_read hy)
 obtain ⟨v3, l3, e3, i3, -⟩ := arr_read (R := ArR) (sz := 4) (bytes := 32) Tryz.underlying25 cAr (by omega) (by kernel_rfl) (by omega) h3 hw.right.right.right.left (fun m' ds y hm' _ hy hwy => ar_read hy)
 obtain ⟨v4, l4, e4, i4, -⟩ := arr_read (R := ChR) (sz := 1) (bytes := 24) Tryz.underlying26 cCh (by omega) (by kernel_rfl) (by omega) h4 hw.right.right.right.right.left (fun m' ds y hm' _ hy hwy => ch_read hy hwy)
 obtain ⟨v5, l5, e5, i5, -⟩ := arr_read (R := ConR (m + 1)) (sz := 5) (bytes := 88) Tryz.underlying27 cCn (by omega) (by kernel_rfl) (by omega) h5 hw.right.right.right.right.right.left (fun m' ds y hm' _ hy hwy => cn_read (m + 1) (by omega) hy hwy)
 simp only [List.cons.injEq, and_true] at e0 e1 e2 e3 e4 e5
 subst e0 e1 e2 e3 e4 e5
 exact ⟨_, _, _, _, _, _, ⟨l0, l1, l2, l3, l4, l5⟩, rfl, i0, i1, i2, i3, i4, i5⟩
end
end Go.Proofs.YtjigihlhjhbkpaaGreatDoor
