/- How what the arguments read as lies in memory: slices, integers, rational numbers. -/
import Derived.Test.YtonleohlplkglaaGreatDoorSg
import Derived.Deep.Slices
import Derived.SizedLaws
import GoSem.ClaimJoined
import Derived.Deep.RegionHeld3
import Derived.Test.YtonleohlplkglaaGreatDoorVA
import Derived.Test.YtonleohlplkglaaGreatDoorSi
import Derived.Test.YtonleohlplkglaaGreatDoorRegB
namespace Go.Proofs.YtonleohlplkglaaGreatDoor
open Go Go.RowKit Go.ChangeShapes Go.WideShapes Go.Deep

section
variable {H : Type} {enc : TypeId × Value → H} {w : World}

/-- The reading of the arguments. -/
noncomputable abbrev TR (enc : TypeId × Value → H) (w : World) (n : Nat) (t : TypeId) (cs : List Value) : Option (DataW H × List MemPlace) := DataW.trod enc Tryz.prog w 0 (fun _ => true) true n t cs
/-- All weights within the reach. -/
def Fits (l : List Nat) : Prop := l.all (· ≤ reachBytes) = true
theorem Fits.left {l m : List Nat} (h : Fits (l ++ m)) : Fits l := by unfold Fits at *; rw [List.all_append, Bool.and_eq_true] at h; exact h.1
theorem Fits.right {l m : List Nat} (h : Fits (l ++ m)) : Fits m := by unfold Fits at *; rw [List.all_append, Bool.and_eq_true] at h; exact h.2
theorem Fits.head {a : Nat} {l : List Nat} (h : Fits (a :: l)) : a ≤ reachBytes := by unfold Fits at h; simp at h; exact h.1
theorem Fits.tail {a : Nat} {l : List Nat} (h : Fits (a :: l)) : Fits l := by unfold Fits at *; simp at h ⊢; exact h.2
theorem fits_all {e : TypeId} {l : List (DataW H)} (h : Fits (DataW.weightsAll Tryz.prog e l)) : ∀ d ∈ l, Fits (d.weights Tryz.prog e) := by
  induction l with
  | nil => simp
  | cons a l ih =>
    intro d hd
    rw [DataW.weightsAll] at h
    rcases List.mem_cons.1 hd with rfl | hd
    · exact h.left
    · exact ih h.right d hd

theorem spot_none {a : Addr} {v : Value} (h : w.cell? a = some v) : a = ⟨a.block, a.off, none⟩ ∧ a.block < w.heap.size := by
  unfold World.cell? at h
  obtain ⟨b, o, s⟩ := a
  simp only at h ⊢
  have hlt : b < w.heap.size := by
    rcases Nat.lt_or_ge b w.heap.size with h1 | h1
    · exact h1
    · rw [Array.getElem?_eq_none h1] at h; cases h
  cases s with
  | none => exact ⟨rfl, hlt⟩
  | some s => (split at h <;> simp at h)

/-- A slice of structs. -/
theorem arr_read {α : Type} [Inhabited α] {t e : TypeId} {sz bytes : Nat} {R : World → List Value → α → Prop} {n : Nat} {cs : List Value} {x : DataW H × List MemPlace} (ht : Tryz.prog.underlying t = some (.slice e)) (hc : Tryz.prog.cellsOf e = sz) (hsz : 0 < sz) (hb : Tryz.prog.bytesOf e = bytes) (h4 : 4 ≤ bytes)
    (h : TR enc w n t cs = some x) (hw : Fits (x.1.weights Tryz.prog t)) (elem : ∀ m ds y, m < n → ds.length = sz → TR enc w m e ds = some y → Fits (y.1.weights Tryz.prog e) → ∃ a, R w ds a) :
    ∃ v xs, cs = [v] ∧ ArrAt sz R w v xs ∧ ∀ A l c, v = .slice A l c → c ≤ 35184372088832 := by
  rcases DataW.trod_slice ht h with ⟨rfl, -⟩ | ⟨a, len, cap, elems, rest, m, hn, rfl, rfl, -, hl, hm, hlen, hel, hsp, -⟩
  · exact ⟨_, [], rfl, ⟨none, 0, rfl, Nat.le_refl _, by simp, fun h => absurd rfl h⟩, fun A l c e => by cases e; omega⟩
  · have hrl := (hsp rfl).1
    simp only [DataW.weights, ht] at hw
    have hw0 := hw.head
    rw [List.length_map, List.length_map, hlen, hrl, hb] at hw0
    have hcap : len + (cap - len) = cap := by omega
    rw [hcap] at hw0
    have hreach : reachBytes ≤ 140737488355328 := by decide
    have hcl : cap * 4 ≤ cap * bytes := Nat.mul_le_mul_left _ h4
    have hcap2 : cap ≤ 35184372088832 := by omega
    have hall := fits_all (hw.tail.left)
    have key : ∀ i, i < len → ∃ p : α × List Value, p.2.length = sz ∧ (∀ j u, p.2[j]? = some u → w.cell? ((a.add (i * sz)).add j) = some u) ∧ R w p.2 p.1 := by
      intro i hi
      have h1 := hel i hi
      rw [hc, List.getElem?_eq_getElem (by omega)] at h1
      obtain ⟨ds, h2, h3⟩ := Option.bind_eq_some_iff.1 h1
      obtain ⟨-, h5, h6⟩ := World.cells?_some h2
      obtain ⟨y, hy⟩ := elem m ds _ (by omega) h5 h3 (hall _ (List.mem_map.2 ⟨_, List.getElem_mem (show i < elems.length by omega), rfl⟩))
      refine ⟨(y, ds), h5, fun j u hj => ?_, hy⟩
      have hj' : j < sz := by rw [← h5]; exact (List.getElem?_eq_some_iff.1 hj).1
      rw [h6 j hj']; exact hj
    obtain ⟨f, hf⟩ := choose_lt (α := α × List Value) key
    refine ⟨_, (List.range len).map fun i => (f i).1, rfl, ⟨some a, cap, by simp, by simpa using hl, by simp; omega, fun hne => ?_⟩, fun A l c e => by cases e; exact hcap2⟩
    have h0 : 0 < len := by
      rcases Nat.eq_zero_or_pos len with h0 | h0
      · subst h0; simp at hne
      · exact h0
    obtain ⟨g1, g2, g3⟩ := hf 0 h0
    obtain ⟨u0, hu0⟩ : ∃ u, (f 0).2[0]? = some u := ⟨_, List.getElem?_eq_getElem (by omega)⟩
    have hc0 := g2 0 u0 hu0
    rw [Nat.zero_mul] at hc0
    have hadd : (a.add 0).add 0 = a := by simp [Addr.add]
    rw [hadd] at hc0
    obtain ⟨hs, hlt⟩ := spot_none hc0
    refine ⟨a.block, a.off, by rw [← hs], hlt, fun k x hk => ?_⟩
    have hkl : k < len := by have := (List.getElem?_eq_some_iff.1 hk).1; simpa using this
    obtain ⟨g1, g2, g3⟩ := hf k hkl
    refine ⟨(f k).2, g1, fun j u hj => ?_, ?_⟩
    · have := g2 j u hj
      rw [hs, add_add, Addr.add_lit] at this
      exact this
    · have : x = (f k).1 := by
        rw [List.getElem?_map, List.getElem?_range hkl] at hk
        simpa using hk.symm
      rw [this]; exact g3
end
end Go.Proofs.YtonleohlplkglaaGreatDoor

/- How an argument that is a sketch lies in memory. -/
namespace Go.Proofs.YtonleohlplkglaaGreatDoor
open Go Go.RowKit Go.ChangeShapes Go.WideShapes Go.Deep

theorem cBool : Tryz.prog.cellsOf 4 = 1 := by kernel_rfl
theorem cInt : Tryz.prog.cellsOf 3 = 1 := by kernel_rfl
theorem cStr : Tryz.prog.cellsOf 9 = 1 := by kernel_rfl
theorem cU32 : Tryz.prog.cellsOf 142 = 1 := by kernel_rfl
theorem cWords : Tryz.prog.cellsOf 34 = 1 := by kernel_rfl
theorem cInts : Tryz.prog.cellsOf 49 = 1 := by kernel_rfl
theorem cZ : Tryz.prog.cellsOf 36 = 2 := by kernel_rfl
theorem cQ : Tryz.prog.cellsOf 38 = 4 := by kernel_rfl
theorem cPt : Tryz.prog.cellsOf 40 = 8 := by kernel_rfl
theorem cRd : Tryz.prog.cellsOf 66 = 5 := by kernel_rfl
theorem cSg : Tryz.prog.cellsOf 42 = 2 := by kernel_rfl
theorem cAr : Tryz.prog.cellsOf 81 = 4 := by kernel_rfl
theorem cPc : Tryz.prog.cellsOf 45 = 3 := by kernel_rfl
theorem cCh : Tryz.prog.cellsOf 43 = 1 := by kernel_rfl
theorem cCn : Tryz.prog.cellsOf 52 = 5 := by kernel_rfl
theorem cEx : Tryz.prog.cellsOf 69 = 7 := by kernel_rfl
theorem cExs : Tryz.prog.cellsOf 50 = 1 := by kernel_rfl
theorem cSk : Tryz.prog.cellsOf 29 = 6 := by kernel_rfl
theorem cSks : Tryz.prog.cellsOf 22 = 1 ∧ Tryz.prog.cellsOf 23 = 1 ∧ Tryz.prog.cellsOf 24 = 1 ∧ Tryz.prog.cellsOf 25 = 1 ∧ Tryz.prog.cellsOf 26 = 1 ∧ Tryz.prog.cellsOf 27 = 1 := ⟨by kernel_rfl, by kernel_rfl, by kernel_rfl, by kernel_rfl, by kernel_rfl, by kernel_rfl⟩

section
variable {H : Type} {enc : TypeId × Value → H} {w : World}

theorem words_read {n : Nat} {cs : List Value} {x : DataW H × List MemPlace} (h : TR enc w n 34 cs = some x) (hw : Fits (x.1.weights Tryz.prog 34)) : ∃ v xs, cs = [v] ∧ Words w v xs := by
  obtain ⟨v, xs, rfl, ⟨A, c, hv, hl, hm, hel⟩, -⟩ := arr_read (α := Nat) (R := fun _ ds a => ds = [.int .u32 (a : Int)] ∧ a < 4294967296) (sz := 1) (bytes := 4) Tryz.underlying34 cU32 (by omega) (by kernel_rfl) (by omega) h hw (fun m ds y _ _ hy _ => by
    obtain ⟨k, rfl, -, hwf⟩ := DataW.trod_int Tryz.underlying142 hy
    have h1 : 0 ≤ k ∧ k ≤ 4294967295 := by
      simp only [Lit.wf, Bool.and_eq_true, decide_eq_true_eq] at hwf
      exact ⟨hwf.1, hwf.2⟩
    exact ⟨k.toNat, by rw [show ((k.toNat : Nat) : Int) = k by omega], by omega⟩)
  have hL : ∀ (k y : Nat), xs[k]? = some y → y < 4294967296 := fun k y hk => by
    obtain ⟨b, off, -, -, h3⟩ := hel (by intro e; rw [e] at hk; simp at hk)
    obtain ⟨ds, -, -, -, h5⟩ := h3 k y hk
    exact h5
  refine ⟨v, xs, rfl, A, c, hv, hl, hm, fun y hy => ?_, fun h0 => ?_⟩
  · obtain ⟨k, hk⟩ := List.getElem?_of_mem hy
    exact hL k y hk
  · obtain ⟨b, off, h1, h2, h3⟩ := hel (by intro e; rw [e] at h0; simp at h0)
    refine ⟨b, off, h1, h2, fun k hk => ?_⟩
    obtain ⟨ds, h4, h5, h6, -⟩ := h3 k _ (List.getElem?_eq_getElem hk)
    have := h5 0 _ (by rw [h6]; rfl)
    rw [Nat.mul_one, Nat.add_zero] at this
    rw [this, List.getD_eq_getElem?_getD, List.getElem?_eq_getElem hk]; rfl

theorem two_of {α : Type} {l : List α} (h : l.length = 2) : ∃ a b, l = [a, b] := by
  match l, h with
  | [a, b], _ => exact ⟨a, b, rfl⟩
theorem four_of {α : Type} {l : List α} (h : l.length = 4) : ∃ a b c d, l = [a, b, c, d] := by
  match l, h with
  | [a, b, c, d], _ => exact ⟨a, b, c, d, rfl⟩

theorem z_read {n : Nat} {cs : List Value} {x : DataW H × List MemPlace} (h : TR enc w n 36 cs = some x) (hw : Fits (x.1.weights Tryz.prog 36)) : ∃ (z : ZI) (u : Value), cs = [.bool z.neg, u] ∧ Words w u z.mag := by
  obtain ⟨xs, m, rfl, rfl, hl, hxl, hf⟩ := DataW.trod_struct Tryz.underlying36 h
  rw [cZ] at hl
  obtain ⟨a, b, rfl⟩ := two_of hl
  obtain ⟨x0, x1, rfl⟩ := two_of hxl
  have h0 : TR enc w m 4 ((([a, b] : List Value).drop 0).take (Tryz.prog.cellsOf 4)) = some x0 := by have h := hf 0 _ rfl; exact h
  rw [cBool] at h0
  change TR enc w m 4 [a] = some x0 at h0
  have h1 : TR enc w m 34 ((([a, b] : List Value).drop 1).take (Tryz.prog.cellsOf 34)) = some x1 := by have h := hf 1 _ rfl; exact h
  rw [cWords] at h1
  change TR enc w m 34 [b] = some x1 at h1
  simp only [DataW.weights, Tryz.underlying36, List.map_cons, List.map_nil, DataW.weightsEach] at hw
  obtain ⟨b0, e0, -⟩ := DataW.trod_bool Tryz.underlying4 h0
  obtain ⟨v, ys, e1, hv⟩ := words_read h1 hw.right.left
  simp only [List.cons.injEq, and_true] at e0 e1
  exact ⟨⟨b0, ys⟩, v, by rw [e0, e1], hv⟩

theorem q_read {n : Nat} {cs : List Value} {x : DataW H × List MemPlace} (h : TR enc w n 38 cs = some x) (hw : Fits (x.1.weights Tryz.prog 38)) : ∃ (q : QI) (u v : Value), cs = [.bool q.num.neg, u, .bool q.den.neg, v] ∧ Words w u q.num.mag ∧ Words w v q.den.mag := by
  obtain ⟨xs, m, rfl, rfl, hl, hxl, hf⟩ := DataW.trod_struct Tryz.underlying38 h
  rw [cQ] at hl
  obtain ⟨a, b, c, d, rfl⟩ := four_of hl
  obtain ⟨x0, x1, rfl⟩ := two_of hxl
  have h0 : TR enc w m 36 ((([a, b, c, d] : List Value).drop 0).take (Tryz.prog.cellsOf 36)) = some x0 := by have h := hf 0 _ rfl; exact h
  rw [cZ] at h0
  change TR enc w m 36 [a, b] = some x0 at h0
  have h1 : TR enc w m 36 ((([a, b, c, d] : List Value).drop 2).take (Tryz.prog.cellsOf 36)) = some x1 := by have h := hf 1 _ rfl; exact h
  rw [cZ] at h1
  change TR enc w m 36 [c, d] = some x1 at h1
  simp only [DataW.weights, Tryz.underlying38, List.map_cons, List.map_nil, DataW.weightsEach] at hw
  obtain ⟨z0, u0, e0, hu⟩ := z_read h0 hw.left
  obtain ⟨z1, u1, e1, hv⟩ := z_read h1 hw.right.left
  simp only [List.cons.injEq, and_true] at e0 e1
  exact ⟨⟨z0, z1⟩, u0, u1, by rw [e0.1, e0.2, e1.1, e1.2], hu, hv⟩
end
end Go.Proofs.YtonleohlplkglaaGreatDoor

/- How an argument that is a sketch lies in memory: points, circles, segments, arcs, chains, expressions, constraints, the sketch. -/
namespace Go.Proofs.YtonleohlplkglaaGreatDoor
open Go Go.RowKit Go.ChangeShapes Go.WideShapes Go.Deep

theorem one_of {α : Type} {l : List α} (h : l.length = 1) : ∃ a, l = [a] := by
  match l, h with
  | [a], _ => exact ⟨a, rfl⟩
theorem three_of {α : Type} {l : List α} (h : l.length = 3) : ∃ a b c, l = [a, b, c] := by
  match l, h with
  | [a, b, c], _ => exact ⟨a, b, c, rfl⟩
theorem five_of {α : Type} {l : List α} (h : l.length = 5) : ∃ a b c d e, l = [a, b, c, d, e] := by
  match l, h with
  | [a, b, c, d, e], _ => exact ⟨a, b, c, d, e, rfl⟩
theorem six_of {α : Type} {l : List α} (h : l.length = 6) : ∃ a b c d e f, l = [a, b, c, d, e, f] := by
  match l, h with
  | [a, b, c, d, e, f], _ => exact ⟨a, b, c, d, e, f, rfl⟩
theorem seven_ofX {α : Type} {l : List α} (h : l.length = 7) : ∃ a b c d e f g, l = [a, b, c, d, e, f, g] := by
  match l, h with
  | [a, b, c, d, e, f, g], _ => exact ⟨a, b, c, d, e, f, g, rfl⟩
theorem eight_of {α : Type} {l : List α} (h : l.length = 8) : ∃ a b c d e f g i, l = [a, b, c, d, e, f, g, i] := by
  match l, h with
  | [a, b, c, d, e, f, g, i], _ => exact ⟨a, b, c, d, e, f, g, i, rfl⟩

section
variable {H : Type} {enc : TypeId × Value → H} {w : World}

theorem int_read {n : Nat} {cs : List Value} {x : DataW H × List MemPlace} (h : TR enc w n 3 cs = some x) : ∃ k : Int, cs = [.int .i64 k] := by
  obtain ⟨k, h1, _⟩ := DataW.trod_int Tryz.underlying3 h
  exact ⟨k, h1⟩
theorem bool_read {n : Nat} {cs : List Value} {x : DataW H × List MemPlace} (h : TR enc w n 4 cs = some x) : ∃ k : Bool, cs = [.bool k] := by
  obtain ⟨k, h1, _⟩ := DataW.trod_bool Tryz.underlying4 h
  exact ⟨k, h1⟩
theorem str_read {n : Nat} {cs : List Value} {x : DataW H × List MemPlace} (h : TR enc w n 9 cs = some x) : ∃ k : ByteArray, cs = [.string k] := by
  obtain ⟨k, h1, _⟩ := DataW.trod_string Tryz.underlying9 h
  exact ⟨k, h1⟩

theorem pt_read {n : Nat} {cs : List Value} {x : DataW H × List MemPlace} (h : TR enc w n 40 cs = some x) (hw : Fits (x.1.weights Tryz.prog 40)) : ∃ p, PtR w cs p := by
  obtain ⟨xs, m, rfl, rfl, hl, hxl, hf⟩ := DataW.trod_struct Tryz.underlying40 h
  rw [cPt] at hl
  obtain ⟨a0, a1, a2, a3, a4, a5, a6, a7, rfl⟩ := eight_of hl
  obtain ⟨x0, x1, rfl⟩ := two_of hxl
  have h0 : TR enc w m 38 ((([a0, a1, a2, a3, a4, a5, a6, a7] : List Value).drop 0).take (Tryz.prog.cellsOf 38)) = some x0 := by have h := hf 0 _ rfl; exact h
  rw [cQ] at h0
  change TR enc w m 38 [a0, a1, a2, a3] = some x0 at h0
  have h1 : TR enc w m 38 ((([a0, a1, a2, a3, a4, a5, a6, a7] : List Value).drop 4).take (Tryz.prog.cellsOf 38)) = some x1 := by have h := hf 1 _ rfl; exact h
  rw [cQ] at h1
  change TR enc w m 38 [a4, a5, a6, a7] = some x1 at h1
  simp only [DataW.weights, Tryz.underlying40, List.map_cons, List.map_nil, DataW.weightsEach] at hw
  obtain ⟨q0, u0, v0, e0, hu0, hv0⟩ := q_read h0 hw.left
  obtain ⟨q1, u1, v1, e1, hu1, hv1⟩ := q_read h1 hw.right.left
  simp only [List.cons.injEq, and_true] at e0 e1
  obtain ⟨rfl, rfl, rfl, rfl⟩ := e0
  obtain ⟨rfl, rfl, rfl, rfl⟩ := e1
  exact ⟨⟨q0, q1⟩, _, _, _, _, rfl, hu0, hv0, hu1, hv1⟩

theorem rd_read {n : Nat} {cs : List Value} {x : DataW H × List MemPlace} (h : TR enc w n 66 cs = some x) (hw : Fits (x.1.weights Tryz.prog 66)) : ∃ p, RdR w cs p := by
  obtain ⟨xs, m, rfl, rfl, hl, hxl, hf⟩ := DataW.trod_struct Tryz.underlying66 h
  rw [cRd] at hl
  obtain ⟨a0, a1, a2, a3, a4, rfl⟩ := five_of hl
  obtain ⟨x0, x1, rfl⟩ := two_of hxl
  have h0 : TR enc w m 3 ((([a0, a1, a2, a3, a4] : List Value).drop 0).take (Tryz.prog.cellsOf 3)) = some x0 := by have h := hf 0 _ rfl; exact h
  rw [cInt] at h0
  change TR enc w m 3 [a0] = some x0 at h0
  have h1 : TR enc w m 38 ((([a0, a1, a2, a3, a4] : List Value).drop 1).take (Tryz.prog.cellsOf 38)) = some x1 := by have h := hf 1 _ rfl; exact h
  rw [cQ] at h1
  change TR enc w m 38 [a1, a2, a3, a4] = some x1 at h1
  simp only [DataW.weights, Tryz.underlying66, List.map_cons, List.map_nil, DataW.weightsEach] at hw
  obtain ⟨k, e0⟩ := int_read h0
  obtain ⟨q1, u1, v1, e1, hu1, hv1⟩ := q_read h1 hw.right.left
  simp only [List.cons.injEq, and_true] at e0 e1
  subst e0
  obtain ⟨rfl, rfl, rfl, rfl⟩ := e1
  exact ⟨⟨k, q1⟩, _, _, rfl, hu1, hv1⟩

theorem sg_read {n : Nat} {cs : List Value} {x : DataW H × List MemPlace} (h : TR enc w n 42 cs = some x) : ∃ p, SgR w cs p := by
  obtain ⟨xs, m, rfl, rfl, hl, hxl, hf⟩ := DataW.trod_struct Tryz.underlying42 h
  rw [cSg] at hl
  obtain ⟨a0, a1, rfl⟩ := two_of hl
  obtain ⟨x0, x1, rfl⟩ := two_of hxl
  have h0 : TR enc w m 3 ((([a0, a1] : List Value).drop 0).take (Tryz.prog.cellsOf 3)) = some x0 := by have h := hf 0 _ rfl; exact h
  rw [cInt] at h0
  change TR enc w m 3 [a0] = some x0 at h0
  have h1 : TR enc w m 3 ((([a0, a1] : List Value).drop 1).take (Tryz.prog.cellsOf 3)) = some x1 := by have h := hf 1 _ rfl; exact h
  rw [cInt] at h1
  change TR enc w m 3 [a1] = some x1 at h1
  obtain ⟨k0, e0⟩ := int_read h0
  obtain ⟨k1, e1⟩ := int_read h1
  simp only [List.cons.injEq, and_true] at e0 e1
  subst e0 e1
  exact ⟨⟨k0, k1⟩, rfl⟩

theorem ar_read {n : Nat} {cs : List Value} {x : DataW H × List MemPlace} (h : TR enc w n 81 cs = some x) : ∃ p, ArR w cs p := by
  obtain ⟨xs, m, rfl, rfl, hl, hxl, hf⟩ := DataW.trod_struct Tryz.underlying81 h
  rw [cAr] at hl
  obtain ⟨a0, a1, a2, a3, rfl⟩ := four_of hl
  obtain ⟨x0, x1, x2, x3, rfl⟩ := four_of hxl
  have h0 : TR enc w m 3 ((([a0, a1, a2, a3] : List Value).drop 0).take (Tryz.prog.cellsOf 3)) = some x0 := by have h := hf 0 _ rfl; exact h
  rw [cInt] at h0
  change TR enc w m 3 [a0] = some x0 at h0
  have h1 : TR enc w m 3 ((([a0, a1, a2, a3] : List Value).drop 1).take (Tryz.prog.cellsOf 3)) = some x1 := by have h := hf 1 _ rfl; exact h
  rw [cInt] at h1
  change TR enc w m 3 [a1] = some x1 at h1
  have h2 : TR enc w m 3 ((([a0, a1, a2, a3] : List Value).drop 2).take (Tryz.prog.cellsOf 3)) = some x2 := by have h := hf 2 _ rfl; exact h
  rw [cInt] at h2
  change TR enc w m 3 [a2] = some x2 at h2
  have h3 : TR enc w m 4 ((([a0, a1, a2, a3] : List Value).drop 3).take (Tryz.prog.cellsOf 4)) = some x3 := by have h := hf 3 _ rfl; exact h
  rw [cBool] at h3
  change TR enc w m 4 [a3] = some x3 at h3
  obtain ⟨k0, e0⟩ := int_read h0
  obtain ⟨k1, e1⟩ := int_read h1
  obtain ⟨k2, e2⟩ := int_read h2
  obtain ⟨k3, e3⟩ := bool_read h3
  simp only [List.cons.injEq, and_true] at e0 e1 e2 e3
  subst e0 e1 e2 e3
  exact ⟨⟨k0, k1, k2, k3⟩, rfl⟩

theorem pc_read {n : Nat} {cs : List Value} {x : DataW H × List MemPlace} (h : TR enc w n 45 cs = some x) : ∃ p, PcR w cs p := by
  obtain ⟨xs, m, rfl, rfl, hl, hxl, hf⟩ := DataW.trod_struct Tryz.underlying45 h
  rw [cPc] at hl
  obtain ⟨a0, a1, a2, rfl⟩ := three_of hl
  obtain ⟨x0, x1, x2, rfl⟩ := three_of hxl
  have h0 : TR enc w m 4 ((([a0, a1, a2] : List Value).drop 0).take (Tryz.prog.cellsOf 4)) = some x0 := by have h := hf 0 _ rfl; exact h
  rw [cBool] at h0
  change TR enc w m 4 [a0] = some x0 at h0
  have h1 : TR enc w m 3 ((([a0, a1, a2] : List Value).drop 1).take (Tryz.prog.cellsOf 3)) = some x1 := by have h := hf 1 _ rfl; exact h
  rw [cInt] at h1
  change TR enc w m 3 [a1] = some x1 at h1
  have h2 : TR enc w m 4 ((([a0, a1, a2] : List Value).drop 2).take (Tryz.prog.cellsOf 4)) = some x2 := by have h := hf 2 _ rfl; exact h
  rw [cBool] at h2
  change TR enc w m 4 [a2] = some x2 at h2
  obtain ⟨k0, e0⟩ := bool_read h0
  obtain ⟨k1, e1⟩ := int_read h1
  obtain ⟨k2, e2⟩ := bool_read h2
  simp only [List.cons.injEq, and_true] at e0 e1 e2
  subst e0 e1 e2
  exact ⟨⟨k0, k1, k2⟩, rfl⟩

instance : Inhabited ZI := ⟨⟨false, []⟩⟩
instance : Inhabited QI := ⟨⟨default, default⟩⟩
instance : Inhabited PtI := ⟨⟨default, default⟩⟩
instance : Inhabited RdI := ⟨⟨0, default⟩⟩
instance : Inhabited SgI := ⟨⟨0, 0⟩⟩
instance : Inhabited ArI := ⟨⟨0, 0, 0, false⟩⟩
instance : Inhabited PcI := ⟨⟨false, 0, false⟩⟩
instance : Inhabited EI := ⟨.mk 0 default ⟨#[]⟩ []⟩
instance : Inhabited CI := ⟨⟨0, [], [], [], 0⟩⟩

theorem ch_read {n : Nat} {cs : List Value} {x : DataW H × List MemPlace} (h : TR enc w n 43 cs = some x) (hw : Fits (x.1.weights Tryz.prog 43)) : ∃ p, ChR w cs p := by
  obtain ⟨v, xs, rfl, ha, -⟩ := arr_read (R := PcR) (sz := 3) (bytes := 24) Tryz.underlying43 cPc (by omega) (by kernel_rfl) (by omega) h hw (fun m ds y _ _ hy _ => pc_read hy)
  exact ⟨xs, v, rfl, ha⟩

theorem ints_read {n : Nat} {cs : List Value} {x : DataW H × List MemPlace} (h : TR enc w n 49 cs = some x) (hw : Fits (x.1.weights Tryz.prog 49)) : ∃ v xs, cs = [v] ∧ Ints w v xs := by
  obtain ⟨v, xs, rfl, ha, -⟩ := arr_read (R := IntR) (sz := 1) (bytes := 8) Tryz.underlying49 cInt (by omega) (by kernel_rfl) (by omega) h hw (fun m ds y _ _ hy _ => by
    obtain ⟨k, rfl⟩ := int_read hy
    exact ⟨k, rfl⟩)
  exact ⟨v, xs, rfl, ha⟩

theorem ex_read (K : Nat) : ∀ {n : Nat} {cs : List Value} {x : DataW H × List MemPlace}, n ≤ K → TR enc w n 69 cs = some x → Fits (x.1.weights Tryz.prog 69) → ∃ e, ExprR K w cs e := by
  induction K with
  | zero =>
    intro n cs x hn h hw
    obtain ⟨xs, m, rfl, -⟩ := DataW.trod_struct Tryz.underlying69 h
    omega
  | succ K ih =>
    intro n cs x hn h hw
    obtain ⟨xs, m, rfl, rfl, hl, hxl, hf⟩ := DataW.trod_struct Tryz.underlying69 h
    rw [cEx] at hl
    obtain ⟨a0, a1, a2, a3, a4, a5, a6, rfl⟩ := seven_ofX hl
    obtain ⟨x0, x1, x2, x3, rfl⟩ := four_of hxl
    have h0 : TR enc w m 3 ((([a0, a1, a2, a3, a4, a5, a6] : List Value).drop 0).take (Tryz.prog.cellsOf 3)) = some x0 := by have h := hf 0 _ rfl; exact h
    rw [cInt] at h0
    change TR enc w m 3 [a0] = some x0 at h0
    have h1 : TR enc w m 38 ((([a0, a1, a2, a3, a4, a5, a6] : List Value).drop 1).take (Tryz.prog.cellsOf 38)) = some x1 := by have h := hf 1 _ rfl; exact h
    rw [cQ] at h1
    change TR enc w m 38 [a1, a2, a3, a4] = some x1 at h1
    have h2 : TR enc w m 9 ((([a0, a1, a2, a3, a4, a5, a6] : List Value).drop 5).take (Tryz.prog.cellsOf 9)) = some x2 := by have h := hf 2 _ rfl; exact h
    rw [cStr] at h2
    change TR enc w m 9 [a5] = some x2 at h2
    have h3 : TR enc w m 50 ((([a0, a1, a2, a3, a4, a5, a6] : List Value).drop 6).take (Tryz.prog.cellsOf 50)) = some x3 := by have h := hf 3 _ rfl; exact h
    rw [cExs] at h3
    change TR enc w m 50 [a6] = some x3 at h3
    simp only [DataW.weights, Tryz.underlying69, List.map_cons, List.map_nil, DataW.weightsEach] at hw
    obtain ⟨k0, e0⟩ := int_read h0
    obtain ⟨q1, u1, v1, e1, hu1, hv1⟩ := q_read h1 hw.right.left
    obtain ⟨k2, e2⟩ := str_read h2
    obtain ⟨v, ys, e3, ha, hcap⟩ := arr_read (R := ExprR K) (sz := 7) (bytes := 112) Tryz.underlying50 cEx (by omega) (by kernel_rfl) (by omega) h3 hw.right.right.right.left (fun m' ds y hm' _ hy hwy => ih (by omega) hy hwy)
    simp only [List.cons.injEq, and_true] at e0 e1 e2 e3
    subst e0 e2 e3
    obtain ⟨rfl, rfl, rfl, rfl⟩ := e1
    obtain ⟨A, c, rfl, hl, hm, hel⟩ := ha
    refine ⟨.mk k0 q1 k2 ys, _, _, _, rfl, hu1, hv1, A, c, rfl, hl, ?_, hel⟩
    have := hcap A _ c rfl
    unfold maxLen
    omega

theorem cn_read (K : Nat) {n : Nat} {cs : List Value} {x : DataW H × List MemPlace} (hn : n ≤ K) (h : TR enc w n 52 cs = some x) (hw : Fits (x.1.weights Tryz.prog 52)) : ∃ c, ConR K w cs c := by
  obtain ⟨xs, m, rfl, rfl, hl, hxl, hf⟩ := DataW.trod_struct Tryz.underlying52 h
  rw [cCn] at hl
  obtain ⟨a0, a1, a2, a3, a4, rfl⟩ := five_of hl
  obtain ⟨x0, x1, x2, x3, x4, rfl⟩ := five_of hxl
  have h0 : TR enc w m 3 ((([a0, a1, a2, a3, a4] : List Value).drop 0).take (Tryz.prog.cellsOf 3)) = some x0 := by have h := hf 0 _ rfl; exact h
  rw [cInt] at h0
  change TR enc w m 3 [a0] = some x0 at h0
  have h1 : TR enc w m 49 ((([a0, a1, a2, a3, a4] : List Value).drop 1).take (Tryz.prog.cellsOf 49)) = some x1 := by have h := hf 1 _ rfl; exact h
  rw [cInts] at h1
  change TR enc w m 49 [a1] = some x1 at h1
  have h2 : TR enc w m 49 ((([a0, a1, a2, a3, a4] : List Value).drop 2).take (Tryz.prog.cellsOf 49)) = some x2 := by have h := hf 2 _ rfl; exact h
  rw [cInts] at h2
  change TR enc w m 49 [a2] = some x2 at h2
  have h3 : TR enc w m 50 ((([a0, a1, a2, a3, a4] : List Value).drop 3).take (Tryz.prog.cellsOf 50)) = some x3 := by have h := hf 3 _ rfl; exact h
  rw [cExs] at h3
  change TR enc w m 50 [a3] = some x3 at h3
  have h4 : TR enc w m 3 ((([a0, a1, a2, a3, a4] : List Value).drop 4).take (Tryz.prog.cellsOf 3)) = some x4 := by have h := hf 4 _ rfl; exact h
  rw [cInt] at h4
  change TR enc w m 3 [a4] = some x4 at h4
  simp only [DataW.weights, Tryz.underlying52, List.map_cons, List.map_nil, DataW.weightsEach] at hw
  obtain ⟨k0, e0⟩ := int_read h0
  obtain ⟨v1, l1, e1, i1⟩ := ints_read h1 hw.right.left
  obtain ⟨v2, l2, e2, i2⟩ := ints_read h2 hw.right.right.left
  obtain ⟨v3, l3, e3, i3, -⟩ := arr_read (R := ExprR K) (sz := 7) (bytes := 112) Tryz.underlying50 cEx (by omega) (by kernel_rfl) (by omega) h3 hw.right.right.right.left (fun m' ds y hm' _ hy hwy => ex_read K (by omega) hy hwy)
  obtain ⟨k4, e4⟩ := int_read h4
  simp only [List.cons.injEq, and_true] at e0 e1 e2 e3 e4
  subst e0 e1 e2 e3 e4
  exact ⟨⟨k0, l1, l2, l3, k4⟩, _, _, _, rfl, i1, i2, i3⟩

/-- The sketch. -/
theorem sk_read {n : Nat} {cs : List Value} {x : DataW H × List MemPlace} (h : TR enc w n 29 cs = some x) (hw : Fits (x.1.weights Tryz.prog 29)) : ∃ v0 v1 v2 v3 v4 v5 s, cs = [v0, v1, v2, v3, v4, v5] ∧ SkAt n w v0 v1 v2 v3 v4 v5 s := by
  obtain ⟨xs, m, rfl, rfl, hl, hxl, hf⟩ := DataW.trod_struct Tryz.underlying29 h
  rw [cSk] at hl
  obtain ⟨a0, a1, a2, a3, a4, a5, rfl⟩ := six_of hl
  obtain ⟨x0, x1, x2, x3, x4, x5, rfl⟩ := six_of hxl
  have h0 : TR enc w m 22 ((([a0, a1, a2, a3, a4, a5] : List Value).drop 0).take (Tryz.prog.cellsOf 22)) = some x0 := by have h := hf 0 _ rfl; exact h
  rw [cSks.1] at h0
  change TR enc w m 22 [a0] = some x0 at h0
  have h1 : TR enc w m 23 ((([a0, a1, a2, a3, a4, a5] : List Value).drop 1).take (Tryz.prog.cellsOf 23)) = some x1 := by have h := hf 1 _ rfl; exact h
  rw [cSks.2.1] at h1
  change TR enc w m 23 [a1] = some x1 at h1
  have h2 : TR enc w m 24 ((([a0, a1, a2, a3, a4, a5] : List Value).drop 2).take (Tryz.prog.cellsOf 24)) = some x2 := by have h := hf 2 _ rfl; exact h
  rw [cSks.2.2.1] at h2
  change TR enc w m 24 [a2] = some x2 at h2
  have h3 : TR enc w m 25 ((([a0, a1, a2, a3, a4, a5] : List Value).drop 3).take (Tryz.prog.cellsOf 25)) = some x3 := by have h := hf 3 _ rfl; exact h
  rw [cSks.2.2.2.1] at h3
  change TR enc w m 25 [a3] = some x3 at h3
  have h4 : TR enc w m 26 ((([a0, a1, a2, a3, a4, a5] : List Value).drop 4).take (Tryz.prog.cellsOf 26)) = some x4 := by have h := hf 4 _ rfl; exact h
  rw [cSks.2.2.2.2.1] at h4
  change TR enc w m 26 [a4] = some x4 at h4
  have h5 : TR enc w m 27 ((([a0, a1, a2, a3, a4, a5] : List Value).drop 5).take (Tryz.prog.cellsOf 27)) = some x5 := by have h := hf 5 _ rfl; exact h
  rw [cSks.2.2.2.2.2] at h5
  change TR enc w m 27 [a5] = some x5 at h5
  simp only [DataW.weights, Tryz.underlying29, List.map_cons, List.map_nil, DataW.weightsEach] at hw
  obtain ⟨v0, l0, e0, i0, -⟩ := arr_read (R := PtR) (sz := 8) (bytes := 128) Tryz.underlying22 cPt (by omega) (by kernel_rfl) (by omega) h0 hw.left (fun m' ds y hm' _ hy hwy => pt_read hy hwy)
  obtain ⟨v1, l1, e1, i1, -⟩ := arr_read (R := RdR) (sz := 5) (bytes := 72) Tryz.underlying23 cRd (by omega) (by kernel_rfl) (by omega) h1 hw.right.left (fun m' ds y hm' _ hy hwy => rd_read hy hwy)
  obtain ⟨v2, l2, e2, i2, -⟩ := arr_read (R := SgR) (sz := 2) (bytes := 16) Tryz.underlying24 cSg (by omega) (by kernel_rfl) (by omega) h2 hw.right.right.left (fun m' ds y hm' _ hy hwy => sg_read hy)
  obtain ⟨v3, l3, e3, i3, -⟩ := arr_read (R := ArR) (sz := 4) (bytes := 32) Tryz.underlying25 cAr (by omega) (by kernel_rfl) (by omega) h3 hw.right.right.right.left (fun m' ds y hm' _ hy hwy => ar_read hy)
  obtain ⟨v4, l4, e4, i4, -⟩ := arr_read (R := ChR) (sz := 1) (bytes := 24) Tryz.underlying26 cCh (by omega) (by kernel_rfl) (by omega) h4 hw.right.right.right.right.left (fun m' ds y hm' _ hy hwy => ch_read hy hwy)
  obtain ⟨v5, l5, e5, i5, -⟩ := arr_read (R := ConR (m + 1)) (sz := 5) (bytes := 88) Tryz.underlying27 cCn (by omega) (by kernel_rfl) (by omega) h5 hw.right.right.right.right.right.left (fun m' ds y hm' _ hy hwy => cn_read (m + 1) (by omega) hy hwy)
  simp only [List.cons.injEq, and_true] at e0 e1 e2 e3 e4 e5
  subst e0 e1 e2 e3 e4 e5
  exact ⟨_, _, _, _, _, _, ⟨l0, l1, l2, l3, l4, l5⟩, rfl, i0, i1, i2, i3, i4, i5⟩
end
end Go.Proofs.YtonleohlplkglaaGreatDoor

/- SameInt, Same of the reference's layer 2, of equal numbers. -/
namespace Go.Proofs.YtonleohlplkglaaGreatDoor
open Go Go.RowKit

theorem CellsAt.two {w : World} {g : Nat} {a b : Value} (k : CellsAt w g [a, b]) : w.cell? ⟨g, 0, none⟩ = some a ∧ w.cell? ⟨g, 1, none⟩ = some b := ⟨k.2 0 _ rfl, k.2 1 _ rfl⟩
theorem CellsAt.fourX {w : World} {g : Nat} {a b c d : Value} (k : CellsAt w g [a, b, c, d]) :
    w.cell? ⟨g, 0, none⟩ = some a ∧ w.cell? ⟨g, 1, none⟩ = some b ∧ w.cell? ⟨g, 2, none⟩ = some c ∧ w.cell? ⟨g, 3, none⟩ = some d :=
  ⟨k.2 0 _ rfl, k.2 1 _ rfl, k.2 2 _ rfl, k.2 3 _ rfl⟩
/-- Two boxes, one behind the other. -/
theorem boxes {w : World} {cs ds : List Value} {T : TypeId} : ∃ W, (w.alloc (.cells cs.toArray T)).alloc (.cells ds.toArray T) = W ∧ CellsAt W w.heap.size cs ∧ CellsAt W (w.heap.size + 1) ds ∧ Ext w W := by
  refine ⟨_, rfl, (CellsAt.new _ _ _).ext (Ext.alloc _ _), ?_, (Ext.alloc _ _).palloc _⟩
  have := CellsAt.new (w.alloc (.cells cs.toArray T)) ds T
  rwa [World.size_alloc] at this

set_option maxRecDepth 100000 in
set_option maxHeartbeats 1600000 in
theorem ref02_SameInt {s : Bool} {xs : List Nat} {v v' : Value} {w : World} (h : Words w v xs) (h' : Words w v' xs) :
    Calls Tryz.prog 123 #[.agg #[.bool s, v], .agg #[.bool s, v']] w fun e w' => e = .returned (.bool true) ∧ Ext w w' := by
  obtain ⟨A, c, rfl, hl, hm⟩ := h.form
  obtain ⟨A', c', rfl, hl', hm'⟩ := h'.form
  have HW1 := Lib.hid h
  have HW2 := Lib.hid h'
  obtain ⟨W, hW, hb1, hb2, hx⟩ := boxes (w := w) (cs := [.bool s, .slice A xs.length c]) (ds := [.bool s, .slice A' xs.length c']) (T := 36)
  have HW := Lib.hid hW
  have HB1 := Lib.hid hb1
  have HB2 := Lib.hid hb2
  have HX := Lib.hid hx
  clear h h' hW hb1 hb2 hx
  have hne : ((xs.length : Int) != (xs.length : Int)) = false := by simp
  have hnb : (s != s) = false := by simp
  go_enter Tryz.func123, Tryz.ntmps123
  go_upto_region 1 with fail
  rw [show (w.alloc (.cells #[.bool s, .slice A xs.length c] 36)).alloc (.cells #[.bool s, .slice A' xs.length c'] 36) = W from HW.out]
  obtain ⟨y0, y1⟩ := HB1.out.two
  obtain ⟨z0, z1⟩ := HB2.out.two
  go_wp2_with fail
  clear y0 y1 z0 z1
  go_loopg [5] xs.length (fun gk x wr => ∃ i : Nat, x = .int .i64 (i : Int) ∧ i + gk = xs.length ∧ Hid (Ext W wr))
  case atStart => exact ⟨0, rfl, by omega, Ext.refl _⟩
  case round =>
    obtain ⟨i, rfl, hi, HE⟩ := hrel
    have hE := HE.out
    obtain ⟨y0, y1⟩ := (HB1.out.ext hE).two
    obtain ⟨z0, z1⟩ := (HB2.out.ext hE).two
    have hEw : Ext w wr := Ext.trans HX.out hE
    by_cases hlt : i < xs.length
    · obtain ⟨b, off, rfl, hb, -, hcell⟩ := HW1.out.at_ hlt
      obtain ⟨b', off', rfl, hb', -, hcell'⟩ := HW2.out.at_ hlt
      have q1 := (hEw.cell (p := ⟨b, off + i, none⟩) hb).trans (hcell i hlt)
      have q2 := (hEw.cell (p := ⟨b', off' + i, none⟩) hb').trans (hcell' i hlt)
      have i1 : (i : Int) < (xs.length : Int) := by omega
      have i0 : (0 : Int) ≤ (i : Int) := by omega
      have hb1 := (HB1.out.ext hE).1
      have hb2 := (HB2.out.ext hE).1
      clear hcell hcell'
      generalize xs.getD i 0 = x at *
      have hnx : ((x : Int) != (x : Int)) = false := by simp
      go_wp2_with fail
      go_quiet (fail)
      go_wp2_with fail
      go_roundg (xs.length - (i + 1))
      case measure => omega
      case rel => exact ⟨i + 1, by simp, by omega, hE.pdrewN _⟩
    · go_wp2_with fail
      go_ret
      exact ⟨rfl, hEw⟩

set_option maxHeartbeats 1600000 in
theorem ref02_Same {q : QI} {u v u' v' : Value} {w : World} (hu : Words w u q.num.mag) (hv : Words w v q.den.mag) (hu' : Words w u' q.num.mag) (hv' : Words w v' q.den.mag) :
    Calls Tryz.prog 69 #[.agg #[.bool q.num.neg, u, .bool q.den.neg, v], .agg #[.bool q.num.neg, u', .bool q.den.neg, v']] w fun e w' => e = .returned (.bool true) ∧ Ext w w' := by
  have H1 := Lib.hid (fun w1 (hx : Ext w w1) => ref02_SameInt (s := q.num.neg) (hu.ext hx) (hu'.ext hx))
  have H2 := Lib.hid (fun w1 (hx : Ext w w1) => ref02_SameInt (s := q.den.neg) (hv.ext hx) (hv'.ext hx))
  obtain ⟨A1, c1, rfl, -, -⟩ := hu.form
  obtain ⟨A2, c2, rfl, -, -⟩ := hv.form
  obtain ⟨A3, c3, rfl, -, -⟩ := hu'.form
  obtain ⟨A4, c4, rfl, -, -⟩ := hv'.form
  clear hu hv hu' hv'
  generalize q.num.mag.length = n1 at *
  generalize q.den.mag.length = n2 at *
  generalize q.num.neg = s1 at *
  generalize q.den.neg = s2 at *
  obtain ⟨W, hW, hb1, hb2, hx⟩ := boxes (w := w) (cs := [.bool s1, .slice A1 n1 c1, .bool s2, .slice A2 n2 c2]) (ds := [.bool s1, .slice A3 n1 c3, .bool s2, .slice A4 n2 c4]) (T := 38)
  have HW := Lib.hid hW
  have HB1 := Lib.hid hb1
  have HB2 := Lib.hid hb2
  have HX := Lib.hid hx
  clear hW hb1 hb2 hx
  go_enter Tryz.func69, Tryz.ntmps69
  go_upto_region 1 with fail
  rw [show (w.alloc (.cells #[.bool s1, .slice A1 n1 c1, .bool s2, .slice A2 n2 c2] 38)).alloc (.cells #[.bool s1, .slice A3 n1 c3, .bool s2, .slice A4 n2 c4] 38) = W from HW.out]
  obtain ⟨y0, y1, y2, y3⟩ := HB1.out.fourX
  obtain ⟨z0, z1, z2, z3⟩ := HB2.out.fourX
  go_wp2_with fail
  refine (H1.out _ HX.out).mono ?_
  rintro e w1 ⟨rfl, hx1⟩
  clear y0 y1 y2 y3 z0 z1 z2 z3
  obtain ⟨y0, y1, y2, y3⟩ := (HB1.out.ext hx1).fourX
  obtain ⟨z0, z1, z2, z3⟩ := (HB2.out.ext hx1).fourX
  have hl1 := (HB1.out.ext hx1).1
  have hl2 := (HB2.out.ext hx1).1
  go_wp2_with fail
  refine (H2.out _ (Ext.trans HX.out hx1)).mono ?_
  rintro e w2 ⟨rfl, hx2⟩
  go_wp2_with fail
  go_ret
  exact ⟨rfl, Ext.trans HX.out (Ext.trans hx1 hx2)⟩
end Go.Proofs.YtonleohlplkglaaGreatDoor

/- SameExpr, SameConstraint of the reference's layer 26, of equal data. -/
namespace Go.Proofs.YtonleohlplkglaaGreatDoor
open Go Go.RowKit

theorem seven_list {es : List Value} (h : es.length = 7) : ∃ e0 e1 e2 e3 e4 e5 e6, es = [e0, e1, e2, e3, e4, e5, e6] := by
  match es, h with
  | [a, b, c, d, e, f, g], _ => exact ⟨a, b, c, d, e, f, g, rfl⟩

set_option maxRecDepth 100000 in
set_option maxHeartbeats 3200000 in
theorem ref26_SameExpr (K : Nat) : ∀ {e : EI} {cs cs' : List Value} {w : World}, ExprR K w cs e → ExprR K w cs' e →
    Calls Tryz.prog 63 #[.agg cs.toArray, .agg cs'.toArray] w fun x w' => x = .returned (.bool true) ∧ Ext w w' := by
  induction K with
  | zero => intro e cs cs' w h _; exact h.elim
  | succ K ih =>
    intro e cs cs' w h h'
    obtain ⟨u, v, sl, rfl, hu, hv, hsl⟩ := h
    obtain ⟨u', v', sl', rfl, hu', hv', hsl'⟩ := h'
    obtain ⟨A, c, rfl, hl, hm, hel⟩ := hsl
    obtain ⟨A', c', rfl, hl', hm', hel'⟩ := hsl'
    have HV := Lib.hid (fun w1 (hx : Ext w w1) => ref02_Same (q := e.value) (hu.ext hx) (hv.ext hx) (hu'.ext hx) (hv'.ext hx))
    obtain ⟨A1, c1, rfl, -, -⟩ := hu.form
    obtain ⟨A2, c2, rfl, -, -⟩ := hv.form
    obtain ⟨A3, c3, rfl, -, -⟩ := hu'.form
    obtain ⟨A4, c4, rfl, -, -⟩ := hv'.form
    have HEL := Lib.hid hel
    have HEL' := Lib.hid hel'
    have HIH := Lib.hid (fun w1 (x : EI) (ds ds' : List Value) (h1 : ExprR K w1 ds x) (h2 : ExprR K w1 ds' x) => ih h1 h2)
    clear hu hv hu' hv' hel hel' ih
    generalize e.value.num.mag.length = n1 at *
    generalize e.value.den.mag.length = n2 at *
    generalize e.value.num.neg = b1 at *
    generalize e.value.den.neg = b2 at *
    generalize e.op = op at *
    generalize e.name = nm at *
    generalize e.args = args at *
    obtain ⟨W, hW, hb1, hb2, hx⟩ := boxes (w := w) (cs := [.int .i64 op, .bool b1, .slice A1 n1 c1, .bool b2, .slice A2 n2 c2, .string nm, .slice A args.length c]) (ds := [.int .i64 op, .bool b1, .slice A3 n1 c3, .bool b2, .slice A4 n2 c4, .string nm, .slice A' args.length c']) (T := 69)
    have HW := Lib.hid hW
    have HB1 := Lib.hid hb1
    have HB2 := Lib.hid hb2
    have HX := Lib.hid hx
    clear hW hb1 hb2 hx
    have hne : ((args.length : Int) != (args.length : Int)) = false := by simp
    have hno : (op != op) = false := by simp
    unfold maxLen at hm hm'
    go_enter Tryz.func63, Tryz.ntmps63
    go_upto_region 1 with fail
    rw [show (w.alloc (.cells #[.int .i64 op, .bool b1, .slice A1 n1 c1, .bool b2, .slice A2 n2 c2, .string nm, .slice A args.length c] 69)).alloc (.cells #[.int .i64 op, .bool b1, .slice A3 n1 c3, .bool b2, .slice A4 n2 c4, .string nm, .slice A' args.length c'] 69) = W from HW.out]
    obtain ⟨y0, y1, y2, y3, y4, y5, y6⟩ := HB1.out.seven
    obtain ⟨z0, z1, z2, z3, z4, z5, z6⟩ := HB2.out.seven
    go_wp2_with fail
    refine (HV.out _ HX.out).mono ?_
    rintro x w1 ⟨rfl, hx1⟩
    clear y0 y1 y2 y3 y4 y5 y6 z0 z1 z2 z3 z4 z5 z6
    obtain ⟨y0, y1, y2, y3, y4, y5, y6⟩ := (HB1.out.ext hx1).seven
    obtain ⟨z0, z1, z2, z3, z4, z5, z6⟩ := (HB2.out.ext hx1).seven
    have hl1 := (HB1.out.ext hx1).1
    have hl2 := (HB2.out.ext hx1).1
    go_wp2_with fail
    clear y0 y1 y2 y3 y4 y5 y6 z0 z1 z2 z3 z4 z5 z6 hl1 hl2
    go_loopg [5] args.length (fun gk x wr => ∃ i : Nat, x = .int .i64 (i : Int) ∧ i + gk = args.length ∧ Hid (Ext W wr))
    case atStart => exact ⟨0, rfl, by omega, hx1⟩
    case round =>
      obtain ⟨i, rfl, hi, HE⟩ := hrel
      have hE := HE.out
      obtain ⟨y0, y1, y2, y3, y4, y5, y6⟩ := (HB1.out.ext hE).seven
      obtain ⟨z0, z1, z2, z3, z4, z5, z6⟩ := (HB2.out.ext hE).seven
      have hl1 := (HB1.out.ext hE).1
      have hl2 := (HB2.out.ext hE).1
      have hEw : Ext w wr := Ext.trans HX.out hE
      by_cases hlt : i < args.length
      · have hnn : args ≠ [] := by intro e0; rw [e0] at hlt; simp at hlt
        obtain ⟨b, off, rfl, hb, hc⟩ := HEL.out hnn
        obtain ⟨b', off', rfl, hb', hc'⟩ := HEL'.out hnn
        obtain ⟨ds, hds, hcell, hR⟩ := hc i _ (List.getElem?_eq_getElem hlt)
        obtain ⟨ds', hds', hcell', hR'⟩ := hc' i _ (List.getElem?_eq_getElem hlt)
        have HRR := Lib.hid (fun w3 (hx : Ext w w3) => HIH.out w3 args[i] ds ds' (ExprR.stable K _ _ _ _ hx hR) (ExprR.stable K _ _ _ _ hx hR'))
        obtain ⟨d0, d1, d2, d3, d4, d5, d6, rfl⟩ := seven_list hds
        obtain ⟨f0, f1, f2, f3, f4, f5, f6, rfl⟩ := seven_list hds'
        have u0 : wr.cell? ⟨b, off + i * 7, none⟩ = some d0 := (hEw.cell (p := ⟨b, off + (i * 7 + 0), none⟩) hb).trans (hcell 0 _ rfl)
        have u1 : wr.cell? ⟨b, off + i * 7 + 1, none⟩ = some d1 := (hEw.cell (p := ⟨b, off + (i * 7 + 1), none⟩) hb).trans (hcell 1 _ rfl)
        have u2 : wr.cell? ⟨b, off + i * 7 + 2, none⟩ = some d2 := (hEw.cell (p := ⟨b, off + (i * 7 + 2), none⟩) hb).trans (hcell 2 _ rfl)
        have u3 : wr.cell? ⟨b, off + i * 7 + 3, none⟩ = some d3 := (hEw.cell (p := ⟨b, off + (i * 7 + 3), none⟩) hb).trans (hcell 3 _ rfl)
        have u4 : wr.cell? ⟨b, off + i * 7 + 4, none⟩ = some d4 := (hEw.cell (p := ⟨b, off + (i * 7 + 4), none⟩) hb).trans (hcell 4 _ rfl)
        have u5 : wr.cell? ⟨b, off + i * 7 + 5, none⟩ = some d5 := (hEw.cell (p := ⟨b, off + (i * 7 + 5), none⟩) hb).trans (hcell 5 _ rfl)
        have u6 : wr.cell? ⟨b, off + i * 7 + 6, none⟩ = some d6 := (hEw.cell (p := ⟨b, off + (i * 7 + 6), none⟩) hb).trans (hcell 6 _ rfl)
        have v0 : wr.cell? ⟨b', off' + i * 7, none⟩ = some f0 := (hEw.cell (p := ⟨b', off' + (i * 7 + 0), none⟩) hb').trans (hcell' 0 _ rfl)
        have v1 : wr.cell? ⟨b', off' + i * 7 + 1, none⟩ = some f1 := (hEw.cell (p := ⟨b', off' + (i * 7 + 1), none⟩) hb').trans (hcell' 1 _ rfl)
        have v2 : wr.cell? ⟨b', off' + i * 7 + 2, none⟩ = some f2 := (hEw.cell (p := ⟨b', off' + (i * 7 + 2), none⟩) hb').trans (hcell' 2 _ rfl)
        have v3 : wr.cell? ⟨b', off' + i * 7 + 3, none⟩ = some f3 := (hEw.cell (p := ⟨b', off' + (i * 7 + 3), none⟩) hb').trans (hcell' 3 _ rfl)
        have v4 : wr.cell? ⟨b', off' + i * 7 + 4, none⟩ = some f4 := (hEw.cell (p := ⟨b', off' + (i * 7 + 4), none⟩) hb').trans (hcell' 4 _ rfl)
        have v5 : wr.cell? ⟨b', off' + i * 7 + 5, none⟩ = some f5 := (hEw.cell (p := ⟨b', off' + (i * 7 + 5), none⟩) hb').trans (hcell' 5 _ rfl)
        have v6 : wr.cell? ⟨b', off' + i * 7 + 6, none⟩ = some f6 := (hEw.cell (p := ⟨b', off' + (i * 7 + 6), none⟩) hb').trans (hcell' 6 _ rfl)
        have i1 : (i : Int) < (args.length : Int) := by omega
        have i0 : (0 : Int) ≤ (i : Int) := by omega
        have hr1 : b < wr.heap.size := Nat.lt_of_lt_of_le hb hEw.size
        have hr2 : b' < wr.heap.size := Nat.lt_of_lt_of_le hb' hEw.size
        clear hcell hcell' hc hc' hds hds' hR hR'
        go_wp2_with fail
        go_region_held3 (fun w' => w'.cell? ⟨b, off + i * 7, none⟩ = some (d0) ∧ w'.cell? ⟨b, off + i * 7 + 1, none⟩ = some (d1) ∧ w'.cell? ⟨b, off + i * 7 + 2, none⟩ = some (d2) ∧ w'.cell? ⟨b, off + i * 7 + 3, none⟩ = some (d3) ∧ w'.cell? ⟨b, off + i * 7 + 4, none⟩ = some (d4) ∧ w'.cell? ⟨b, off + i * 7 + 5, none⟩ = some (d5) ∧ w'.cell? ⟨b, off + i * 7 + 6, none⟩ = some (d6) ∧ w'.cell? ⟨b', off' + i * 7, none⟩ = some (f0) ∧ w'.cell? ⟨b', off' + i * 7 + 1, none⟩ = some (f1) ∧ w'.cell? ⟨b', off' + i * 7 + 2, none⟩ = some (f2) ∧ w'.cell? ⟨b', off' + i * 7 + 3, none⟩ = some (f3) ∧ w'.cell? ⟨b', off' + i * 7 + 4, none⟩ = some (f4) ∧ w'.cell? ⟨b', off' + i * 7 + 5, none⟩ = some (f5) ∧ w'.cell? ⟨b', off' + i * 7 + 6, none⟩ = some (f6) ∧ w'.cell? ⟨w.heap.size, 6, none⟩ = some (.slice (some ⟨b, off, none⟩) args.length c) ∧ w'.cell? ⟨w.heap.size + 1, 6, none⟩ = some (.slice (some ⟨b', off', none⟩) args.length c')) (first | (exact ⟨gu0, gu1, gu2, gu3, gu4, gu5, gu6, gv0, gv1, gv2, gv3, gv4, gv5, gv6, gy6, gz6⟩) | (exact ⟨u0, u1, u2, u3, u4, u5, u6, v0, v1, v2, v3, v4, v5, v6, y6, z6⟩) | (go_keep))
          (first
            | (go_at_call 63; refine (HRR.out _ ?_).mono ?_; (exact (by repeat (first | exact Ext.refl _ | assumption | refine Ext.pdrewN ?_ _ | refine Ext.pdrew ?_ | refine Ext.palloc ?_ _ | refine Ext.pset ?_ (by simp <;> omega) _ | refine Ext.trans ?_ (by assumption)))); rintro x w3 ⟨rfl, hx3⟩; have hxx : Ext wr w3 := (by repeat (first | exact Ext.refl _ | assumption | refine Ext.pdrewN ?_ _ | refine Ext.pdrew ?_ | refine Ext.palloc ?_ _ | refine Ext.pset ?_ (by simp <;> omega) _ | refine Ext.trans ?_ (by assumption))); have gu0 := (hxx.cell (p := ⟨b, off + i * 7, none⟩) hr1).trans u0; have gu1 := (hxx.cell (p := ⟨b, off + i * 7 + 1, none⟩) hr1).trans u1; have gu2 := (hxx.cell (p := ⟨b, off + i * 7 + 2, none⟩) hr1).trans u2; have gu3 := (hxx.cell (p := ⟨b, off + i * 7 + 3, none⟩) hr1).trans u3; have gu4 := (hxx.cell (p := ⟨b, off + i * 7 + 4, none⟩) hr1).trans u4; have gu5 := (hxx.cell (p := ⟨b, off + i * 7 + 5, none⟩) hr1).trans u5; have gu6 := (hxx.cell (p := ⟨b, off + i * 7 + 6, none⟩) hr1).trans u6; have gv0 := (hxx.cell (p := ⟨b', off' + i * 7, none⟩) hr2).trans v0; have gv1 := (hxx.cell (p := ⟨b', off' + i * 7 + 1, none⟩) hr2).trans v1; have gv2 := (hxx.cell (p := ⟨b', off' + i * 7 + 2, none⟩) hr2).trans v2; have gv3 := (hxx.cell (p := ⟨b', off' + i * 7 + 3, none⟩) hr2).trans v3; have gv4 := (hxx.cell (p := ⟨b', off' + i * 7 + 4, none⟩) hr2).trans v4; have gv5 := (hxx.cell (p := ⟨b', off' + i * 7 + 5, none⟩) hr2).trans v5; have gv6 := (hxx.cell (p := ⟨b', off' + i * 7 + 6, none⟩) hr2).trans v6; have gy6 := (hxx.cell (p := ⟨w.heap.size, 6, none⟩) hl1).trans y6; have gz6 := (hxx.cell (p := ⟨w.heap.size + 1, 6, none⟩) hl2).trans z6))
        go_wp2_with fail
        go_roundg (args.length - (i + 1))
        case measure => omega
        case rel => exact ⟨i + 1, by simp, by omega, (by repeat (first | exact Ext.refl _ | assumption | refine Ext.pdrewN ?_ _ | refine Ext.pdrew ?_ | refine Ext.palloc ?_ _ | refine Ext.pset ?_ (by simp <;> omega) _ | refine Ext.trans ?_ (by assumption)))⟩
      · go_wp2_with fail
        go_ret
        exact ⟨rfl, hEw⟩
end Go.Proofs.YtonleohlplkglaaGreatDoor

/- slices.Clone of slices of structs, numbers and words: a row of the call's own with the same elements. -/
namespace Go.Proofs.YtonleohlplkglaaGreatDoor
open Go Go.RowKit

theorem slice_one {A : Option Addr} {n c : Nat} : (Value.slice A n c).oneCell' = true := rfl
theorem one_pt : ∀ (w : World) (ds : List Value) (x : PtI), PtR w ds x → ∀ u ∈ ds, u.oneCell' = true := by
  rintro w ds x ⟨a, b, c, d, rfl, h1, h2, h3, h4⟩ u hu
  obtain ⟨_, _, rfl, _⟩ := h1.form
  obtain ⟨_, _, rfl, _⟩ := h2.form
  obtain ⟨_, _, rfl, _⟩ := h3.form
  obtain ⟨_, _, rfl, _⟩ := h4.form
  simp only [List.mem_cons, List.not_mem_nil, or_false] at hu
  rcases hu with rfl | rfl | rfl | rfl | rfl | rfl | rfl | rfl <;> rfl
theorem one_rd : ∀ (w : World) (ds : List Value) (x : RdI), RdR w ds x → ∀ u ∈ ds, u.oneCell' = true := by
  rintro w ds x ⟨a, b, rfl, h1, h2⟩ u hu
  obtain ⟨_, _, rfl, _⟩ := h1.form
  obtain ⟨_, _, rfl, _⟩ := h2.form
  simp only [List.mem_cons, List.not_mem_nil, or_false] at hu
  rcases hu with rfl | rfl | rfl | rfl | rfl <;> rfl
theorem one_sg : ∀ (w : World) (ds : List Value) (x : SgI), SgR w ds x → ∀ u ∈ ds, u.oneCell' = true := by
  intro w ds x h u hu
  rw [show ds = _ from h] at hu
  simp only [List.mem_cons, List.not_mem_nil, or_false] at hu
  rcases hu with rfl | rfl <;> rfl
theorem one_ar : ∀ (w : World) (ds : List Value) (x : ArI), ArR w ds x → ∀ u ∈ ds, u.oneCell' = true := by
  intro w ds x h u hu
  rw [show ds = _ from h] at hu
  simp only [List.mem_cons, List.not_mem_nil, or_false] at hu
  rcases hu with rfl | rfl | rfl | rfl <;> rfl
theorem one_pc : ∀ (w : World) (ds : List Value) (x : PcI), PcR w ds x → ∀ u ∈ ds, u.oneCell' = true := by
  intro w ds x h u hu
  rw [show ds = _ from h] at hu
  simp only [List.mem_cons, List.not_mem_nil, or_false] at hu
  rcases hu with rfl | rfl | rfl <;> rfl
theorem one_ch : ∀ (w : World) (ds : List Value) (x : List PcI), ChR w ds x → ∀ u ∈ ds, u.oneCell' = true := by
  rintro w ds x ⟨v, rfl, h⟩ u hu
  obtain ⟨_, _, rfl, _⟩ := h.form
  simp only [List.mem_cons, List.not_mem_nil, or_false] at hu
  subst hu; rfl
theorem one_cn {K : Nat} : ∀ (w : World) (ds : List Value) (x : CI), ConR K w ds x → ∀ u ∈ ds, u.oneCell' = true := ConR.one
theorem one_it : ∀ (w : World) (ds : List Value) (x : Int), IntR w ds x → ∀ u ∈ ds, u.oneCell' = true := by
  intro w ds x h u hu
  rw [show ds = _ from h] at hu
  simp only [List.mem_cons, List.not_mem_nil, or_false] at hu
  subst hu; rfl
theorem one_wd : ∀ (w : World) (ds : List Value) (x : Nat), WordR w ds x → ∀ u ∈ ds, u.oneCell' = true := by
  intro w ds x h u hu
  rw [h.1] at hu
  simp only [List.mem_cons, List.not_mem_nil, or_false] at hu
  subst hu; rfl
theorem one_ex {K : Nat} : ∀ (w : World) (ds : List Value) (x : EI), ExprR K w ds x → ∀ u ∈ ds, u.oneCell' = true := by
  intro w ds x h u hu
  cases K with
  | zero => exact h.elim
  | succ K =>
    obtain ⟨a, b, c, rfl, h1, h2, A, cp, rfl, -⟩ := h
    obtain ⟨_, _, rfl, _⟩ := h1.form
    obtain ⟨_, _, rfl, _⟩ := h2.form
    simp only [List.mem_cons, List.not_mem_nil, or_false] at hu
    rcases hu with rfl | rfl | rfl | rfl | rfl | rfl | rfl <;> rfl

theorem inf_Point : (Tryz.prog.info? 40).map (fun i => (i.zero, i.size, i.bytes)) = some (some (.agg #[.bool false, .slice none 0 0, .bool false, .slice none 0 0, .bool false, .slice none 0 0, .bool false, .slice none 0 0]), 8, 128) := by kernel_rfl
set_option maxHeartbeats 800000 in
theorem clone_Point {α : Type} {R0 : List Value → α → Prop} {v : Value} {xs : List α} {w : World} (h : ArrAt 8 (fun _ => R0) w v xs) (hone : ∀ ds x, R0 ds x → ∀ u ∈ ds, u.oneCell' = true) (hl : xs.length ≤ 1000000) :
    Calls Tryz.prog 112 #[v] w (Ret w fun r w' => RowOf 40 8 (fun _ => R0) w.heap.size w' r xs) := by
  obtain ⟨A, c, rfl, hl1, hm⟩ := h.form
  have qn : ∀ (w : World) (a : Option Addr) (n c n' c' : Nat), (binOp .eql 22 (.slice a n c) (.slice none n' c')).run Tryz.prog w = .ok (.bool a.isNone) w := fun w a n c n' c' => Lib.run_eql_slice_nil w _ _ a n c n' c' Tryz.underlying22
  have HL := Lib.hid hl
  clear hl hl1 hm
  cases A with
  | none =>
    have HX : Hid (xs = []) := by
      show xs = []
      obtain ⟨A', c', hv, -, -, hc⟩ := h
      injection hv with h1 h2 h3
      by_cases hne : xs = []
      · exact hne
      · obtain ⟨b, off, hA, -⟩ := hc hne
        rw [hA] at h1; cases h1
    clear h hone HL
    go_enter Tryz.func112, Tryz.ntmps112
    go_wp2_with fail
    go_ret
    exact ⟨_, rfl, by rw [HX.out]; exact RowOf.nil, (by repeat (first | exact Ext.refl _ | assumption | refine Ext.pdrewN ?_ _ | refine Ext.pdrew ?_ | refine Ext.palloc ?_ _ | refine Ext.pset ?_ (by simp <;> omega) _ | refine Ext.trans ?_ (by assumption)))⟩
  | some a =>
    have HR0 : Hid (RowOf 40 8 (fun _ => R0) w.heap.size (w.alloc (.cells #[] 40)) (.slice (some ⟨w.heap.size, 0, none⟩) 0 0) ([] : List α)) := ⟨[], World.ownsRow_made w #[] 0 (Nat.le_refl _) (by unfold maxLen; omega) (by simp), fun k x hk => by simp at hk⟩
    have HS0 := Lib.hid (h.const (Ext.alloc w (.cells #[] 40)) (some w.heap.size))
    have HONE : Hid (∀ (w' : World) (ds : List Value) (x : α), R0 ds x → ∀ u ∈ ds, u.oneCell' = true) := fun _ ds x h => hone ds x h
    clear h hone
    obtain ⟨i0, hi, hz0, hz1, hz2⟩ := info_parts inf_Point
    go_enter Tryz.func112, Tryz.ntmps112
    go_wp2_with (at_builtin; refine wpList_append_row _ rfl _ _ 22 rfl 40 i0 (.agg #[.bool false, .slice none 0 0, .bool false, .slice none 0 0, .bool false, .slice none 0 0, .bool false, .slice none 0 0]) 8 128 Tryz.underlying22 hi hz0 hz1 hz2 rfl (by decide) _ rfl HR0.out _ rfl HS0.out HONE.out (by have := HL.out; unfold maxLen; simp; omega) (by have := HL.out; simp; omega) (by simp) ?_; intro A c w2 hrow2 hg2 hat2)
    go_ret
    rw [List.nil_append] at hrow2
    exact ⟨_, rfl, by simpa using hrow2, ext_grown hg2 (Ext.alloc _ _) (fun r hr => by have h1 : some w.heap.size = some r := hr; injection h1 with h1; omega)⟩

theorem inf_Round : (Tryz.prog.info? 66).map (fun i => (i.zero, i.size, i.bytes)) = some (some (.agg #[.int .i64 0, .bool false, .slice none 0 0, .bool false, .slice none 0 0]), 5, 72) := by kernel_rfl
set_option maxHeartbeats 800000 in
theorem clone_Round {α : Type} {R0 : List Value → α → Prop} {v : Value} {xs : List α} {w : World} (h : ArrAt 5 (fun _ => R0) w v xs) (hone : ∀ ds x, R0 ds x → ∀ u ∈ ds, u.oneCell' = true) (hl : xs.length ≤ 1000000) :
    Calls Tryz.prog 113 #[v] w (Ret w fun r w' => RowOf 66 5 (fun _ => R0) w.heap.size w' r xs) := by
  obtain ⟨A, c, rfl, hl1, hm⟩ := h.form
  have qn : ∀ (w : World) (a : Option Addr) (n c n' c' : Nat), (binOp .eql 23 (.slice a n c) (.slice none n' c')).run Tryz.prog w = .ok (.bool a.isNone) w := fun w a n c n' c' => Lib.run_eql_slice_nil w _ _ a n c n' c' Tryz.underlying23
  have HL := Lib.hid hl
  clear hl hl1 hm
  cases A with
  | none =>
    have HX : Hid (xs = []) := by
      show xs = []
      obtain ⟨A', c', hv, -, -, hc⟩ := h
      injection hv with h1 h2 h3
      by_cases hne : xs = []
      · exact hne
      · obtain ⟨b, off, hA, -⟩ := hc hne
        rw [hA] at h1; cases h1
    clear h hone HL
    go_enter Tryz.func113, Tryz.ntmps113
    go_wp2_with fail
    go_ret
    exact ⟨_, rfl, by rw [HX.out]; exact RowOf.nil, (by repeat (first | exact Ext.refl _ | assumption | refine Ext.pdrewN ?_ _ | refine Ext.pdrew ?_ | refine Ext.palloc ?_ _ | refine Ext.pset ?_ (by simp <;> omega) _ | refine Ext.trans ?_ (by assumption)))⟩
  | some a =>
    have HR0 : Hid (RowOf 66 5 (fun _ => R0) w.heap.size (w.alloc (.cells #[] 66)) (.slice (some ⟨w.heap.size, 0, none⟩) 0 0) ([] : List α)) := ⟨[], World.ownsRow_made w #[] 0 (Nat.le_refl _) (by unfold maxLen; omega) (by simp), fun k x hk => by simp at hk⟩
    have HS0 := Lib.hid (h.const (Ext.alloc w (.cells #[] 66)) (some w.heap.size))
    have HONE : Hid (∀ (w' : World) (ds : List Value) (x : α), R0 ds x → ∀ u ∈ ds, u.oneCell' = true) := fun _ ds x h => hone ds x h
    clear h hone
    obtain ⟨i0, hi, hz0, hz1, hz2⟩ := info_parts inf_Round
    go_enter Tryz.func113, Tryz.ntmps113
    go_wp2_with (at_builtin; refine wpList_append_row _ rfl _ _ 23 rfl 66 i0 (.agg #[.int .i64 0, .bool false, .slice none 0 0, .bool false, .slice none 0 0]) 5 72 Tryz.underlying23 hi hz0 hz1 hz2 rfl (by decide) _ rfl HR0.out _ rfl HS0.out HONE.out (by have := HL.out; unfold maxLen; simp; omega) (by have := HL.out; simp; omega) (by simp) ?_; intro A c w2 hrow2 hg2 hat2)
    go_ret
    rw [List.nil_append] at hrow2
    exact ⟨_, rfl, by simpa using hrow2, ext_grown hg2 (Ext.alloc _ _) (fun r hr => by have h1 : some w.heap.size = some r := hr; injection h1 with h1; omega)⟩

theorem inf_Segment : (Tryz.prog.info? 42).map (fun i => (i.zero, i.size, i.bytes)) = some (some (.agg #[.int .i64 0, .int .i64 0]), 2, 16) := by kernel_rfl
set_option maxHeartbeats 800000 in
theorem clone_Segment {α : Type} {R0 : List Value → α → Prop} {v : Value} {xs : List α} {w : World} (h : ArrAt 2 (fun _ => R0) w v xs) (hone : ∀ ds x, R0 ds x → ∀ u ∈ ds, u.oneCell' = true) (hl : xs.length ≤ 1000000) :
    Calls Tryz.prog 114 #[v] w (Ret w fun r w' => RowOf 42 2 (fun _ => R0) w.heap.size w' r xs) := by
  obtain ⟨A, c, rfl, hl1, hm⟩ := h.form
  have qn : ∀ (w : World) (a : Option Addr) (n c n' c' : Nat), (binOp .eql 24 (.slice a n c) (.slice none n' c')).run Tryz.prog w = .ok (.bool a.isNone) w := fun w a n c n' c' => Lib.run_eql_slice_nil w _ _ a n c n' c' Tryz.underlying24
  have HL := Lib.hid hl
  clear hl hl1 hm
  cases A with
  | none =>
    have HX : Hid (xs = []) := by
      show xs = []
      obtain ⟨A', c', hv, -, -, hc⟩ := h
      injection hv with h1 h2 h3
      by_cases hne : xs = []
      · exact hne
      · obtain ⟨b, off, hA, -⟩ := hc hne
        rw [hA] at h1; cases h1
    clear h hone HL
    go_enter Tryz.func114, Tryz.ntmps114
    go_wp2_with fail
    go_ret
    exact ⟨_, rfl, by rw [HX.out]; exact RowOf.nil, (by repeat (first | exact Ext.refl _ | assumption | refine Ext.pdrewN ?_ _ | refine Ext.pdrew ?_ | refine Ext.palloc ?_ _ | refine Ext.pset ?_ (by simp <;> omega) _ | refine Ext.trans ?_ (by assumption)))⟩
  | some a =>
    have HR0 : Hid (RowOf 42 2 (fun _ => R0) w.heap.size (w.alloc (.cells #[] 42)) (.slice (some ⟨w.heap.size, 0, none⟩) 0 0) ([] : List α)) := ⟨[], World.ownsRow_made w #[] 0 (Nat.le_refl _) (by unfold maxLen; omega) (by simp), fun k x hk => by simp at hk⟩
    have HS0 := Lib.hid (h.const (Ext.alloc w (.cells #[] 42)) (some w.heap.size))
    have HONE : Hid (∀ (w' : World) (ds : List Value) (x : α), R0 ds x → ∀ u ∈ ds, u.oneCell' = true) := fun _ ds x h => hone ds x h
    clear h hone
    obtain ⟨i0, hi, hz0, hz1, hz2⟩ := info_parts inf_Segment
    go_enter Tryz.func114, Tryz.ntmps114
    go_wp2_with (at_builtin; refine wpList_append_row _ rfl _ _ 24 rfl 42 i0 (.agg #[.int .i64 0, .int .i64 0]) 2 16 Tryz.underlying24 hi hz0 hz1 hz2 rfl (by decide) _ rfl HR0.out _ rfl HS0.out HONE.out (by have := HL.out; unfold maxLen; simp; omega) (by have := HL.out; simp; omega) (by simp) ?_; intro A c w2 hrow2 hg2 hat2)
    go_ret
    rw [List.nil_append] at hrow2
    exact ⟨_, rfl, by simpa using hrow2, ext_grown hg2 (Ext.alloc _ _) (fun r hr => by have h1 : some w.heap.size = some r := hr; injection h1 with h1; omega)⟩

theorem inf_Arc : (Tryz.prog.info? 81).map (fun i => (i.zero, i.size, i.bytes)) = some (some (.agg #[.int .i64 0, .int .i64 0, .int .i64 0, .bool false]), 4, 32) := by kernel_rfl
set_option maxHeartbeats 800000 in
theorem clone_Arc {α : Type} {R0 : List Value → α → Prop} {v : Value} {xs : List α} {w : World} (h : ArrAt 4 (fun _ => R0) w v xs) (hone : ∀ ds x, R0 ds x → ∀ u ∈ ds, u.oneCell' = true) (hl : xs.length ≤ 1000000) :
    Calls Tryz.prog 115 #[v] w (Ret w fun r w' => RowOf 81 4 (fun _ => R0) w.heap.size w' r xs) := by
  obtain ⟨A, c, rfl, hl1, hm⟩ := h.form
  have qn : ∀ (w : World) (a : Option Addr) (n c n' c' : Nat), (binOp .eql 25 (.slice a n c) (.slice none n' c')).run Tryz.prog w = .ok (.bool a.isNone) w := fun w a n c n' c' => Lib.run_eql_slice_nil w _ _ a n c n' c' Tryz.underlying25
  have HL := Lib.hid hl
  clear hl hl1 hm
  cases A with
  | none =>
    have HX : Hid (xs = []) := by
      show xs = []
      obtain ⟨A', c', hv, -, -, hc⟩ := h
      injection hv with h1 h2 h3
      by_cases hne : xs = []
      · exact hne
      · obtain ⟨b, off, hA, -⟩ := hc hne
        rw [hA] at h1; cases h1
    clear h hone HL
    go_enter Tryz.func115, Tryz.ntmps115
    go_wp2_with fail
    go_ret
    exact ⟨_, rfl, by rw [HX.out]; exact RowOf.nil, (by repeat (first | exact Ext.refl _ | assumption | refine Ext.pdrewN ?_ _ | refine Ext.pdrew ?_ | refine Ext.palloc ?_ _ | refine Ext.pset ?_ (by simp <;> omega) _ | refine Ext.trans ?_ (by assumption)))⟩
  | some a =>
    have HR0 : Hid (RowOf 81 4 (fun _ => R0) w.heap.size (w.alloc (.cells #[] 81)) (.slice (some ⟨w.heap.size, 0, none⟩) 0 0) ([] : List α)) := ⟨[], World.ownsRow_made w #[] 0 (Nat.le_refl _) (by unfold maxLen; omega) (by simp), fun k x hk => by simp at hk⟩
    have HS0 := Lib.hid (h.const (Ext.alloc w (.cells #[] 81)) (some w.heap.size))
    have HONE : Hid (∀ (w' : World) (ds : List Value) (x : α), R0 ds x → ∀ u ∈ ds, u.oneCell' = true) := fun _ ds x h => hone ds x h
    clear h hone
    obtain ⟨i0, hi, hz0, hz1, hz2⟩ := info_parts inf_Arc
    go_enter Tryz.func115, Tryz.ntmps115
    go_wp2_with (at_builtin; refine wpList_append_row _ rfl _ _ 25 rfl 81 i0 (.agg #[.int .i64 0, .int .i64 0, .int .i64 0, .bool false]) 4 32 Tryz.underlying25 hi hz0 hz1 hz2 rfl (by decide) _ rfl HR0.out _ rfl HS0.out HONE.out (by have := HL.out; unfold maxLen; simp; omega) (by have := HL.out; simp; omega) (by simp) ?_; intro A c w2 hrow2 hg2 hat2)
    go_ret
    rw [List.nil_append] at hrow2
    exact ⟨_, rfl, by simpa using hrow2, ext_grown hg2 (Ext.alloc _ _) (fun r hr => by have h1 : some w.heap.size = some r := hr; injection h1 with h1; omega)⟩

theorem inf_Chain : (Tryz.prog.info? 43).map (fun i => (i.zero, i.size, i.bytes)) = some (some (.slice none 0 0), 1, 24) := by kernel_rfl
set_option maxHeartbeats 800000 in
theorem clone_Chain {α : Type} {R0 : List Value → α → Prop} {v : Value} {xs : List α} {w : World} (h : ArrAt 1 (fun _ => R0) w v xs) (hone : ∀ ds x, R0 ds x → ∀ u ∈ ds, u.oneCell' = true) (hl : xs.length ≤ 1000000) :
    Calls Tryz.prog 116 #[v] w (Ret w fun r w' => RowOf 43 1 (fun _ => R0) w.heap.size w' r xs) := by
  obtain ⟨A, c, rfl, hl1, hm⟩ := h.form
  have qn : ∀ (w : World) (a : Option Addr) (n c n' c' : Nat), (binOp .eql 26 (.slice a n c) (.slice none n' c')).run Tryz.prog w = .ok (.bool a.isNone) w := fun w a n c n' c' => Lib.run_eql_slice_nil w _ _ a n c n' c' Tryz.underlying26
  have HL := Lib.hid hl
  clear hl hl1 hm
  cases A with
  | none =>
    have HX : Hid (xs = []) := by
      show xs = []
      obtain ⟨A', c', hv, -, -, hc⟩ := h
      injection hv with h1 h2 h3
      by_cases hne : xs = []
      · exact hne
      · obtain ⟨b, off, hA, -⟩ := hc hne
        rw [hA] at h1; cases h1
    clear h hone HL
    go_enter Tryz.func116, Tryz.ntmps116
    go_wp2_with fail
    go_ret
    exact ⟨_, rfl, by rw [HX.out]; exact RowOf.nil, (by repeat (first | exact Ext.refl _ | assumption | refine Ext.pdrewN ?_ _ | refine Ext.pdrew ?_ | refine Ext.palloc ?_ _ | refine Ext.pset ?_ (by simp <;> omega) _ | refine Ext.trans ?_ (by assumption)))⟩
  | some a =>
    have HR0 : Hid (RowOf 43 1 (fun _ => R0) w.heap.size (w.alloc (.cells #[] 43)) (.slice (some ⟨w.heap.size, 0, none⟩) 0 0) ([] : List α)) := ⟨[], World.ownsRow_made w #[] 0 (Nat.le_refl _) (by unfold maxLen; omega) (by simp), fun k x hk => by simp at hk⟩
    have HS0 := Lib.hid (h.const (Ext.alloc w (.cells #[] 43)) (some w.heap.size))
    have HONE : Hid (∀ (w' : World) (ds : List Value) (x : α), R0 ds x → ∀ u ∈ ds, u.oneCell' = true) := fun _ ds x h => hone ds x h
    clear h hone
    obtain ⟨i0, hi, hz0, hz1, hz2⟩ := info_parts inf_Chain
    go_enter Tryz.func116, Tryz.ntmps116
    go_wp2_with (at_builtin; refine wpList_append_row _ rfl _ _ 26 rfl 43 i0 (.slice none 0 0) 1 24 Tryz.underlying26 hi hz0 hz1 hz2 rfl (by decide) _ rfl HR0.out _ rfl HS0.out HONE.out (by have := HL.out; unfold maxLen; simp; omega) (by have := HL.out; simp; omega) (by simp) ?_; intro A c w2 hrow2 hg2 hat2)
    go_ret
    rw [List.nil_append] at hrow2
    exact ⟨_, rfl, by simpa using hrow2, ext_grown hg2 (Ext.alloc _ _) (fun r hr => by have h1 : some w.heap.size = some r := hr; injection h1 with h1; omega)⟩

theorem inf_Con : (Tryz.prog.info? 52).map (fun i => (i.zero, i.size, i.bytes)) = some (some (.agg #[.int .i64 0, .slice none 0 0, .slice none 0 0, .slice none 0 0, .int .i64 0]), 5, 88) := by kernel_rfl
set_option maxHeartbeats 800000 in
theorem clone_Con {α : Type} {R0 : List Value → α → Prop} {v : Value} {xs : List α} {w : World} (h : ArrAt 5 (fun _ => R0) w v xs) (hone : ∀ ds x, R0 ds x → ∀ u ∈ ds, u.oneCell' = true) (hl : xs.length ≤ 1000000) :
    Calls Tryz.prog 117 #[v] w (Ret w fun r w' => RowOf 52 5 (fun _ => R0) w.heap.size w' r xs) := by
  obtain ⟨A, c, rfl, hl1, hm⟩ := h.form
  have qn : ∀ (w : World) (a : Option Addr) (n c n' c' : Nat), (binOp .eql 27 (.slice a n c) (.slice none n' c')).run Tryz.prog w = .ok (.bool a.isNone) w := fun w a n c n' c' => Lib.run_eql_slice_nil w _ _ a n c n' c' Tryz.underlying27
  have HL := Lib.hid hl
  clear hl hl1 hm
  cases A with
  | none =>
    have HX : Hid (xs = []) := by
      show xs = []
      obtain ⟨A', c', hv, -, -, hc⟩ := h
      injection hv with h1 h2 h3
      by_cases hne : xs = []
      · exact hne
      · obtain ⟨b, off, hA, -⟩ := hc hne
        rw [hA] at h1; cases h1
    clear h hone HL
    go_enter Tryz.func117, Tryz.ntmps117
    go_wp2_with fail
    go_ret
    exact ⟨_, rfl, by rw [HX.out]; exact RowOf.nil, (by repeat (first | exact Ext.refl _ | assumption | refine Ext.pdrewN ?_ _ | refine Ext.pdrew ?_ | refine Ext.palloc ?_ _ | refine Ext.pset ?_ (by simp <;> omega) _ | refine Ext.trans ?_ (by assumption)))⟩
  | some a =>
    have HR0 : Hid (RowOf 52 5 (fun _ => R0) w.heap.size (w.alloc (.cells #[] 52)) (.slice (some ⟨w.heap.size, 0, none⟩) 0 0) ([] : List α)) := ⟨[], World.ownsRow_made w #[] 0 (Nat.le_refl _) (by unfold maxLen; omega) (by simp), fun k x hk => by simp at hk⟩
    have HS0 := Lib.hid (h.const (Ext.alloc w (.cells #[] 52)) (some w.heap.size))
    have HONE : Hid (∀ (w' : World) (ds : List Value) (x : α), R0 ds x → ∀ u ∈ ds, u.oneCell' = true) := fun _ ds x h => hone ds x h
    clear h hone
    obtain ⟨i0, hi, hz0, hz1, hz2⟩ := info_parts inf_Con
    go_enter Tryz.func117, Tryz.ntmps117
    go_wp2_with (at_builtin; refine wpList_append_row _ rfl _ _ 27 rfl 52 i0 (.agg #[.int .i64 0, .slice none 0 0, .slice none 0 0, .slice none 0 0, .int .i64 0]) 5 88 Tryz.underlying27 hi hz0 hz1 hz2 rfl (by decide) _ rfl HR0.out _ rfl HS0.out HONE.out (by have := HL.out; unfold maxLen; simp; omega) (by have := HL.out; simp; omega) (by simp) ?_; intro A c w2 hrow2 hg2 hat2)
    go_ret
    rw [List.nil_append] at hrow2
    exact ⟨_, rfl, by simpa using hrow2, ext_grown hg2 (Ext.alloc _ _) (fun r hr => by have h1 : some w.heap.size = some r := hr; injection h1 with h1; omega)⟩

theorem inf_Piece : (Tryz.prog.info? 45).map (fun i => (i.zero, i.size, i.bytes)) = some (some (.agg #[.bool false, .int .i64 0, .bool false]), 3, 24) := by kernel_rfl
set_option maxHeartbeats 800000 in
theorem clone_Piece {α : Type} {R0 : List Value → α → Prop} {v : Value} {xs : List α} {w : World} (h : ArrAt 3 (fun _ => R0) w v xs) (hone : ∀ ds x, R0 ds x → ∀ u ∈ ds, u.oneCell' = true) (hl : xs.length ≤ 1000000) :
    Calls Tryz.prog 119 #[v] w (Ret w fun r w' => RowOf 45 3 (fun _ => R0) w.heap.size w' r xs) := by
  obtain ⟨A, c, rfl, hl1, hm⟩ := h.form
  have qn : ∀ (w : World) (a : Option Addr) (n c n' c' : Nat), (binOp .eql 43 (.slice a n c) (.slice none n' c')).run Tryz.prog w = .ok (.bool a.isNone) w := fun w a n c n' c' => Lib.run_eql_slice_nil w _ _ a n c n' c' Tryz.underlying43
  have HL := Lib.hid hl
  clear hl hl1 hm
  cases A with
  | none =>
    have HX : Hid (xs = []) := by
      show xs = []
      obtain ⟨A', c', hv, -, -, hc⟩ := h
      injection hv with h1 h2 h3
      by_cases hne : xs = []
      · exact hne
      · obtain ⟨b, off, hA, -⟩ := hc hne
        rw [hA] at h1; cases h1
    clear h hone HL
    go_enter Tryz.func119, Tryz.ntmps119
    go_wp2_with fail
    go_ret
    exact ⟨_, rfl, by rw [HX.out]; exact RowOf.nil, (by repeat (first | exact Ext.refl _ | assumption | refine Ext.pdrewN ?_ _ | refine Ext.pdrew ?_ | refine Ext.palloc ?_ _ | refine Ext.pset ?_ (by simp <;> omega) _ | refine Ext.trans ?_ (by assumption)))⟩
  | some a =>
    have HR0 : Hid (RowOf 45 3 (fun _ => R0) w.heap.size (w.alloc (.cells #[] 45)) (.slice (some ⟨w.heap.size, 0, none⟩) 0 0) ([] : List α)) := ⟨[], World.ownsRow_made w #[] 0 (Nat.le_refl _) (by unfold maxLen; omega) (by simp), fun k x hk => by simp at hk⟩
    have HS0 := Lib.hid (h.const (Ext.alloc w (.cells #[] 45)) (some w.heap.size))
    have HONE : Hid (∀ (w' : World) (ds : List Value) (x : α), R0 ds x → ∀ u ∈ ds, u.oneCell' = true) := fun _ ds x h => hone ds x h
    clear h hone
    obtain ⟨i0, hi, hz0, hz1, hz2⟩ := info_parts inf_Piece
    go_enter Tryz.func119, Tryz.ntmps119
    go_wp2_with (at_builtin; refine wpList_append_row _ rfl _ _ 43 rfl 45 i0 (.agg #[.bool false, .int .i64 0, .bool false]) 3 24 Tryz.underlying43 hi hz0 hz1 hz2 rfl (by decide) _ rfl HR0.out _ rfl HS0.out HONE.out (by have := HL.out; unfold maxLen; simp; omega) (by have := HL.out; simp; omega) (by simp) ?_; intro A c w2 hrow2 hg2 hat2)
    go_ret
    rw [List.nil_append] at hrow2
    exact ⟨_, rfl, by simpa using hrow2, ext_grown hg2 (Ext.alloc _ _) (fun r hr => by have h1 : some w.heap.size = some r := hr; injection h1 with h1; omega)⟩

theorem inf_Int : (Tryz.prog.info? 3).map (fun i => (i.zero, i.size, i.bytes)) = some (some (.int .i64 0), 1, 8) := by kernel_rfl
set_option maxHeartbeats 800000 in
theorem clone_Int {α : Type} {R0 : List Value → α → Prop} {v : Value} {xs : List α} {w : World} (h : ArrAt 1 (fun _ => R0) w v xs) (hone : ∀ ds x, R0 ds x → ∀ u ∈ ds, u.oneCell' = true) (hl : xs.length ≤ 1000000) :
    Calls Tryz.prog 120 #[v] w (Ret w fun r w' => RowOf 3 1 (fun _ => R0) w.heap.size w' r xs) := by
  obtain ⟨A, c, rfl, hl1, hm⟩ := h.form
  have qn : ∀ (w : World) (a : Option Addr) (n c n' c' : Nat), (binOp .eql 49 (.slice a n c) (.slice none n' c')).run Tryz.prog w = .ok (.bool a.isNone) w := fun w a n c n' c' => Lib.run_eql_slice_nil w _ _ a n c n' c' Tryz.underlying49
  have HL := Lib.hid hl
  clear hl hl1 hm
  cases A with
  | none =>
    have HX : Hid (xs = []) := by
      show xs = []
      obtain ⟨A', c', hv, -, -, hc⟩ := h
      injection hv with h1 h2 h3
      by_cases hne : xs = []
      · exact hne
      · obtain ⟨b, off, hA, -⟩ := hc hne
        rw [hA] at h1; cases h1
    clear h hone HL
    go_enter Tryz.func120, Tryz.ntmps120
    go_wp2_with fail
    go_ret
    exact ⟨_, rfl, by rw [HX.out]; exact RowOf.nil, (by repeat (first | exact Ext.refl _ | assumption | refine Ext.pdrewN ?_ _ | refine Ext.pdrew ?_ | refine Ext.palloc ?_ _ | refine Ext.pset ?_ (by simp <;> omega) _ | refine Ext.trans ?_ (by assumption)))⟩
  | some a =>
    have HR0 : Hid (RowOf 3 1 (fun _ => R0) w.heap.size (w.alloc (.cells #[] 3)) (.slice (some ⟨w.heap.size, 0, none⟩) 0 0) ([] : List α)) := ⟨[], World.ownsRow_made w #[] 0 (Nat.le_refl _) (by unfold maxLen; omega) (by simp), fun k x hk => by simp at hk⟩
    have HS0 := Lib.hid (h.const (Ext.alloc w (.cells #[] 3)) (some w.heap.size))
    have HONE : Hid (∀ (w' : World) (ds : List Value) (x : α), R0 ds x → ∀ u ∈ ds, u.oneCell' = true) := fun _ ds x h => hone ds x h
    clear h hone
    obtain ⟨i0, hi, hz0, hz1, hz2⟩ := info_parts inf_Int
    go_enter Tryz.func120, Tryz.ntmps120
    go_wp2_with (at_builtin; refine wpList_append_row _ rfl _ _ 49 rfl 3 i0 (.int .i64 0) 1 8 Tryz.underlying49 hi hz0 hz1 hz2 rfl (by decide) _ rfl HR0.out _ rfl HS0.out HONE.out (by have := HL.out; unfold maxLen; simp; omega) (by have := HL.out; simp; omega) (by simp) ?_; intro A c w2 hrow2 hg2 hat2)
    go_ret
    rw [List.nil_append] at hrow2
    exact ⟨_, rfl, by simpa using hrow2, ext_grown hg2 (Ext.alloc _ _) (fun r hr => by have h1 : some w.heap.size = some r := hr; injection h1 with h1; omega)⟩

theorem inf_Expr : (Tryz.prog.info? 69).map (fun i => (i.zero, i.size, i.bytes)) = some (some (.agg #[.int .i64 0, .bool false, .slice none 0 0, .bool false, .slice none 0 0, .string ⟨#[]⟩, .slice none 0 0]), 7, 112) := by kernel_rfl
set_option maxHeartbeats 800000 in
theorem clone_Expr {α : Type} {R0 : List Value → α → Prop} {v : Value} {xs : List α} {w : World} (h : ArrAt 7 (fun _ => R0) w v xs) (hone : ∀ ds x, R0 ds x → ∀ u ∈ ds, u.oneCell' = true) (hl : xs.length ≤ 1000000) :
    Calls Tryz.prog 121 #[v] w (Ret w fun r w' => RowOf 69 7 (fun _ => R0) w.heap.size w' r xs) := by
  obtain ⟨A, c, rfl, hl1, hm⟩ := h.form
  have qn : ∀ (w : World) (a : Option Addr) (n c n' c' : Nat), (binOp .eql 50 (.slice a n c) (.slice none n' c')).run Tryz.prog w = .ok (.bool a.isNone) w := fun w a n c n' c' => Lib.run_eql_slice_nil w _ _ a n c n' c' Tryz.underlying50
  have HL := Lib.hid hl
  clear hl hl1 hm
  cases A with
  | none =>
    have HX : Hid (xs = []) := by
      show xs = []
      obtain ⟨A', c', hv, -, -, hc⟩ := h
      injection hv with h1 h2 h3
      by_cases hne : xs = []
      · exact hne
      · obtain ⟨b, off, hA, -⟩ := hc hne
        rw [hA] at h1; cases h1
    clear h hone HL
    go_enter Tryz.func121, Tryz.ntmps121
    go_wp2_with fail
    go_ret
    exact ⟨_, rfl, by rw [HX.out]; exact RowOf.nil, (by repeat (first | exact Ext.refl _ | assumption | refine Ext.pdrewN ?_ _ | refine Ext.pdrew ?_ | refine Ext.palloc ?_ _ | refine Ext.pset ?_ (by simp <;> omega) _ | refine Ext.trans ?_ (by assumption)))⟩
  | some a =>
    have HR0 : Hid (RowOf 69 7 (fun _ => R0) w.heap.size (w.alloc (.cells #[] 69)) (.slice (some ⟨w.heap.size, 0, none⟩) 0 0) ([] : List α)) := ⟨[], World.ownsRow_made w #[] 0 (Nat.le_refl _) (by unfold maxLen; omega) (by simp), fun k x hk => by simp at hk⟩
    have HS0 := Lib.hid (h.const (Ext.alloc w (.cells #[] 69)) (some w.heap.size))
    have HONE : Hid (∀ (w' : World) (ds : List Value) (x : α), R0 ds x → ∀ u ∈ ds, u.oneCell' = true) := fun _ ds x h => hone ds x h
    clear h hone
    obtain ⟨i0, hi, hz0, hz1, hz2⟩ := info_parts inf_Expr
    go_enter Tryz.func121, Tryz.ntmps121
    go_wp2_with (at_builtin; refine wpList_append_row _ rfl _ _ 50 rfl 69 i0 (.agg #[.int .i64 0, .bool false, .slice none 0 0, .bool false, .slice none 0 0, .string ⟨#[]⟩, .slice none 0 0]) 7 112 Tryz.underlying50 hi hz0 hz1 hz2 rfl (by decide) _ rfl HR0.out _ rfl HS0.out HONE.out (by have := HL.out; unfold maxLen; simp; omega) (by have := HL.out; simp; omega) (by simp) ?_; intro A c w2 hrow2 hg2 hat2)
    go_ret
    rw [List.nil_append] at hrow2
    exact ⟨_, rfl, by simpa using hrow2, ext_grown hg2 (Ext.alloc _ _) (fun r hr => by have h1 : some w.heap.size = some r := hr; injection h1 with h1; omega)⟩

theorem inf_Word : (Tryz.prog.info? 142).map (fun i => (i.zero, i.size, i.bytes)) = some (some (.int .u32 0), 1, 4) := by kernel_rfl
set_option maxHeartbeats 800000 in
theorem clone_Word {α : Type} {R0 : List Value → α → Prop} {v : Value} {xs : List α} {w : World} (h : ArrAt 1 (fun _ => R0) w v xs) (hone : ∀ ds x, R0 ds x → ∀ u ∈ ds, u.oneCell' = true) (hl : xs.length ≤ 1000000) :
    Calls Tryz.prog 134 #[v] w (Ret w fun r w' => RowOf 142 1 (fun _ => R0) w.heap.size w' r xs) := by
  obtain ⟨A, c, rfl, hl1, hm⟩ := h.form
  have qn : ∀ (w : World) (a : Option Addr) (n c n' c' : Nat), (binOp .eql 34 (.slice a n c) (.slice none n' c')).run Tryz.prog w = .ok (.bool a.isNone) w := fun w a n c n' c' => Lib.run_eql_slice_nil w _ _ a n c n' c' Tryz.underlying34
  have HL := Lib.hid hl
  clear hl hl1 hm
  cases A with
  | none =>
    have HX : Hid (xs = []) := by
      show xs = []
      obtain ⟨A', c', hv, -, -, hc⟩ := h
      injection hv with h1 h2 h3
      by_cases hne : xs = []
      · exact hne
      · obtain ⟨b, off, hA, -⟩ := hc hne
        rw [hA] at h1; cases h1
    clear h hone HL
    go_enter Tryz.func134, Tryz.ntmps134
    go_wp2_with fail
    go_ret
    exact ⟨_, rfl, by rw [HX.out]; exact RowOf.nil, (by repeat (first | exact Ext.refl _ | assumption | refine Ext.pdrewN ?_ _ | refine Ext.pdrew ?_ | refine Ext.palloc ?_ _ | refine Ext.pset ?_ (by simp <;> omega) _ | refine Ext.trans ?_ (by assumption)))⟩
  | some a =>
    have HR0 : Hid (RowOf 142 1 (fun _ => R0) w.heap.size (w.alloc (.cells #[] 142)) (.slice (some ⟨w.heap.size, 0, none⟩) 0 0) ([] : List α)) := ⟨[], World.ownsRow_made w #[] 0 (Nat.le_refl _) (by unfold maxLen; omega) (by simp), fun k x hk => by simp at hk⟩
    have HS0 := Lib.hid (h.const (Ext.alloc w (.cells #[] 142)) (some w.heap.size))
    have HONE : Hid (∀ (w' : World) (ds : List Value) (x : α), R0 ds x → ∀ u ∈ ds, u.oneCell' = true) := fun _ ds x h => hone ds x h
    clear h hone
    obtain ⟨i0, hi, hz0, hz1, hz2⟩ := info_parts inf_Word
    go_enter Tryz.func134, Tryz.ntmps134
    go_wp2_with (at_builtin; refine wpList_append_row _ rfl _ _ 34 rfl 142 i0 (.int .u32 0) 1 4 Tryz.underlying34 hi hz0 hz1 hz2 rfl (by decide) _ rfl HR0.out _ rfl HS0.out HONE.out (by have := HL.out; unfold maxLen; simp; omega) (by have := HL.out; simp; omega) (by simp) ?_; intro A c w2 hrow2 hg2 hat2)
    go_ret
    rw [List.nil_append] at hrow2
    exact ⟨_, rfl, by simpa using hrow2, ext_grown hg2 (Ext.alloc _ _) (fun r hr => by have h1 : some w.heap.size = some r := hr; injection h1 with h1; omega)⟩
end Go.Proofs.YtonleohlplkglaaGreatDoor

/- SameConstraint of the reference's layer 26, of equal data. -/
namespace Go.Proofs.YtonleohlplkglaaGreatDoor
open Go Go.RowKit

set_option maxRecDepth 100000 in
set_option maxHeartbeats 3200000 in
theorem ref26_SameConstraint {K : Nat} {cn : CI} {pv cv vv pv' cv' vv' : Value} {w : World} (hp : Ints w pv cn.points) (hc : Ints w cv cn.circles) (hv : ArrAt 7 (ExprR K) w vv cn.values) (hp' : Ints w pv' cn.points) (hc' : Ints w cv' cn.circles) (hv' : ArrAt 7 (ExprR K) w vv' cn.values) :
    Calls Tryz.prog 17 #[.agg #[.int .i64 cn.kind, pv, cv, vv, .int .i64 cn.side], .agg #[.int .i64 cn.kind, pv', cv', vv', .int .i64 cn.side]] w fun e w' => e = .returned (.bool true) ∧ Ext w w' := by
  obtain ⟨A1, c1, rfl, hl1, hm1⟩ := hp.form
  obtain ⟨A2, c2, rfl, hl2, hm2⟩ := hc.form
  obtain ⟨A3, c3, rfl, hl3, hm3⟩ := hp'.form
  obtain ⟨A4, c4, rfl, hl4, hm4⟩ := hc'.form
  obtain ⟨A, c, rfl, hl, hm⟩ := hv.form
  obtain ⟨A', c', rfl, hl', hm'⟩ := hv'.form
  have HP := Lib.hid (fun w1 (hx : Ext w w1) => ref26_ints (hp.ext IntR.stable hx) (hp'.ext IntR.stable hx))
  have HC := Lib.hid (fun w1 (hx : Ext w w1) => ref26_ints (hc.ext IntR.stable hx) (hc'.ext IntR.stable hx))
  have HV := Lib.hid hv
  have HV' := Lib.hid hv'
  have hd1 : decide (cn.points = cn.points) = true := by simp
  have hd2 : decide (cn.circles = cn.circles) = true := by simp
  rw [hd1] at HP
  rw [hd2] at HC
  clear hp hc hp' hc' hv hv' hd1 hd2
  generalize cn.points.length = n1 at *
  generalize cn.circles.length = n2 at *
  generalize cn.values = args at *
  generalize cn.kind = kd at *
  generalize cn.side = sd at *
  obtain ⟨W, hW, hb1, hb2, hx⟩ := boxes (w := w) (cs := [.int .i64 kd, .slice A1 n1 c1, .slice A2 n2 c2, .slice A args.length c, .int .i64 sd]) (ds := [.int .i64 kd, .slice A3 n1 c3, .slice A4 n2 c4, .slice A' args.length c', .int .i64 sd]) (T := 52)
  have HW := Lib.hid hW
  have HB1 := Lib.hid hb1
  have HB2 := Lib.hid hb2
  have HX := Lib.hid hx
  clear hW hb1 hb2 hx
  have hne : ((args.length : Int) != (args.length : Int)) = false := by simp
  have hno : (kd != kd) = false := by simp
  have hns : (sd != sd) = false := by simp
  go_enter Tryz.func17, Tryz.ntmps17
  go_upto_region 1 with fail
  rw [show (w.alloc (.cells #[.int .i64 kd, .slice A1 n1 c1, .slice A2 n2 c2, .slice A args.length c, .int .i64 sd] 52)).alloc (.cells #[.int .i64 kd, .slice A3 n1 c3, .slice A4 n2 c4, .slice A' args.length c', .int .i64 sd] 52) = W from HW.out]
  obtain ⟨y0, y1, y2, y3, y4⟩ := HB1.out.five
  obtain ⟨z0, z1, z2, z3, z4⟩ := HB2.out.five
  go_wp2_with fail
  refine (HP.out _ HX.out).mono ?_
  rintro e w1 ⟨rfl, hx1⟩
  clear y0 y1 y2 y3 y4 z0 z1 z2 z3 z4
  obtain ⟨y0, y1, y2, y3, y4⟩ := (HB1.out.ext hx1).five
  obtain ⟨z0, z1, z2, z3, z4⟩ := (HB2.out.ext hx1).five
  go_wp2_with fail
  refine (HC.out _ (Ext.trans HX.out hx1)).mono ?_
  rintro e w2 ⟨rfl, hx2⟩
  have hx12 := Ext.trans hx1 hx2
  clear y0 y1 y2 y3 y4 z0 z1 z2 z3 z4
  obtain ⟨y0, y1, y2, y3, y4⟩ := (HB1.out.ext hx12).five
  obtain ⟨z0, z1, z2, z3, z4⟩ := (HB2.out.ext hx12).five
  go_wp2_with fail
  clear y0 y1 y2 y3 y4 z0 z1 z2 z3 z4
  go_loopg [5] args.length (fun gk x wr => ∃ i : Nat, x = .int .i64 (i : Int) ∧ i + gk = args.length ∧ Hid (Ext W wr))
  case atStart => exact ⟨0, rfl, by omega, hx12⟩
  case round =>
    obtain ⟨i, rfl, hi, HE⟩ := hrel
    have hE := HE.out
    obtain ⟨y0, y1, y2, y6, y4⟩ := (HB1.out.ext hE).five
    obtain ⟨z0, z1, z2, z6, z4⟩ := (HB2.out.ext hE).five
    have hl1 := (HB1.out.ext hE).1
    have hl2 := (HB2.out.ext hE).1
    have hEw : Ext w wr := Ext.trans HX.out hE
    by_cases hlt : i < args.length
    · obtain ⟨b, off, rfl, hb, ds, hds, hcell, hR⟩ := HV.out.at_ hlt
      obtain ⟨b', off', rfl, hb', ds', hds', hcell', hR'⟩ := HV'.out.at_ hlt
      have HRR := Lib.hid (fun w3 (hx : Ext w w3) => ref26_SameExpr K (ExprR.stable K _ _ _ _ hx hR) (ExprR.stable K _ _ _ _ hx hR'))
      obtain ⟨d0, d1, d2, d3, d4, d5, d6, rfl⟩ := seven_list hds
      obtain ⟨f0, f1, f2, f3, f4, f5, f6, rfl⟩ := seven_list hds'
      have u0 : wr.cell? ⟨b, off + i * 7, none⟩ = some d0 := (hEw.cell (p := ⟨b, off + (i * 7 + 0), none⟩) hb).trans (hcell 0 _ rfl)
      have u1 : wr.cell? ⟨b, off + i * 7 + 1, none⟩ = some d1 := (hEw.cell (p := ⟨b, off + (i * 7 + 1), none⟩) hb).trans (hcell 1 _ rfl)
      have u2 : wr.cell? ⟨b, off + i * 7 + 2, none⟩ = some d2 := (hEw.cell (p := ⟨b, off + (i * 7 + 2), none⟩) hb).trans (hcell 2 _ rfl)
      have u3 : wr.cell? ⟨b, off + i * 7 + 3, none⟩ = some d3 := (hEw.cell (p := ⟨b, off + (i * 7 + 3), none⟩) hb).trans (hcell 3 _ rfl)
      have u4 : wr.cell? ⟨b, off + i * 7 + 4, none⟩ = some d4 := (hEw.cell (p := ⟨b, off + (i * 7 + 4), none⟩) hb).trans (hcell 4 _ rfl)
      have u5 : wr.cell? ⟨b, off + i * 7 + 5, none⟩ = some d5 := (hEw.cell (p := ⟨b, off + (i * 7 + 5), none⟩) hb).trans (hcell 5 _ rfl)
      have u6 : wr.cell? ⟨b, off + i * 7 + 6, none⟩ = some d6 := (hEw.cell (p := ⟨b, off + (i * 7 + 6), none⟩) hb).trans (hcell 6 _ rfl)
      have v0 : wr.cell? ⟨b', off' + i * 7, none⟩ = some f0 := (hEw.cell (p := ⟨b', off' + (i * 7 + 0), none⟩) hb').trans (hcell' 0 _ rfl)
      have v1 : wr.cell? ⟨b', off' + i * 7 + 1, none⟩ = some f1 := (hEw.cell (p := ⟨b', off' + (i * 7 + 1), none⟩) hb').trans (hcell' 1 _ rfl)
      have v2 : wr.cell? ⟨b', off' + i * 7 + 2, none⟩ = some f2 := (hEw.cell (p := ⟨b', off' + (i * 7 + 2), none⟩) hb').trans (hcell' 2 _ rfl)
      have v3 : wr.cell? ⟨b', off' + i * 7 + 3, none⟩ = some f3 := (hEw.cell (p := ⟨b', off' + (i * 7 + 3), none⟩) hb').trans (hcell' 3 _ rfl)
      have v4 : wr.cell? ⟨b', off' + i * 7 + 4, none⟩ = some f4 := (hEw.cell (p := ⟨b', off' + (i * 7 + 4), none⟩) hb').trans (hcell' 4 _ rfl)
      have v5 : wr.cell? ⟨b', off' + i * 7 + 5, none⟩ = some f5 := (hEw.cell (p := ⟨b', off' + (i * 7 + 5), none⟩) hb').trans (hcell' 5 _ rfl)
      have v6 : wr.cell? ⟨b', off' + i * 7 + 6, none⟩ = some f6 := (hEw.cell (p := ⟨b', off' + (i * 7 + 6), none⟩) hb').trans (hcell' 6 _ rfl)
      have i1 : (i : Int) < (args.length : Int) := by omega
      have i0 : (0 : Int) ≤ (i : Int) := by omega
      have hr1 : b < wr.heap.size := Nat.lt_of_lt_of_le hb hEw.size
      have hr2 : b' < wr.heap.size := Nat.lt_of_lt_of_le hb' hEw.size
      clear hcell hcell' hds hds' hR hR'
      go_wp2_with fail
      go_region_held3 (fun w' => w'.cell? ⟨b, off + i * 7, none⟩ = some (d0) ∧ w'.cell? ⟨b, off + i * 7 + 1, none⟩ = some (d1) ∧ w'.cell? ⟨b, off + i * 7 + 2, none⟩ = some (d2) ∧ w'.cell? ⟨b, off + i * 7 + 3, none⟩ = some (d3) ∧ w'.cell? ⟨b, off + i * 7 + 4, none⟩ = some (d4) ∧ w'.cell? ⟨b, off + i * 7 + 5, none⟩ = some (d5) ∧ w'.cell? ⟨b, off + i * 7 + 6, none⟩ = some (d6) ∧ w'.cell? ⟨b', off' + i * 7, none⟩ = some (f0) ∧ w'.cell? ⟨b', off' + i * 7 + 1, none⟩ = some (f1) ∧ w'.cell? ⟨b', off' + i * 7 + 2, none⟩ = some (f2) ∧ w'.cell? ⟨b', off' + i * 7 + 3, none⟩ = some (f3) ∧ w'.cell? ⟨b', off' + i * 7 + 4, none⟩ = some (f4) ∧ w'.cell? ⟨b', off' + i * 7 + 5, none⟩ = some (f5) ∧ w'.cell? ⟨b', off' + i * 7 + 6, none⟩ = some (f6) ∧ w'.cell? ⟨w.heap.size, 3, none⟩ = some (.slice (some ⟨b, off, none⟩) args.length c) ∧ w'.cell? ⟨w.heap.size + 1, 3, none⟩ = some (.slice (some ⟨b', off', none⟩) args.length c')) (first | (exact ⟨gu0, gu1, gu2, gu3, gu4, gu5, gu6, gv0, gv1, gv2, gv3, gv4, gv5, gv6, gy6, gz6⟩) | (exact ⟨u0, u1, u2, u3, u4, u5, u6, v0, v1, v2, v3, v4, v5, v6, y6, z6⟩) | (go_keep))
        (first
          | (go_at_call 63; refine (HRR.out _ ?_).mono ?_; (exact (by repeat (first | exact Ext.refl _ | assumption | refine Ext.pdrewN ?_ _ | refine Ext.pdrew ?_ | refine Ext.palloc ?_ _ | refine Ext.pset ?_ (by simp <;> omega) _ | refine Ext.trans ?_ (by assumption)))); rintro x w3 ⟨rfl, hx3⟩; have hxx : Ext wr w3 := (by repeat (first | exact Ext.refl _ | assumption | refine Ext.pdrewN ?_ _ | refine Ext.pdrew ?_ | refine Ext.palloc ?_ _ | refine Ext.pset ?_ (by simp <;> omega) _ | refine Ext.trans ?_ (by assumption))); have gu0 := (hxx.cell (p := ⟨b, off + i * 7, none⟩) hr1).trans u0; have gu1 := (hxx.cell (p := ⟨b, off + i * 7 + 1, none⟩) hr1).trans u1; have gu2 := (hxx.cell (p := ⟨b, off + i * 7 + 2, none⟩) hr1).trans u2; have gu3 := (hxx.cell (p := ⟨b, off + i * 7 + 3, none⟩) hr1).trans u3; have gu4 := (hxx.cell (p := ⟨b, off + i * 7 + 4, none⟩) hr1).trans u4; have gu5 := (hxx.cell (p := ⟨b, off + i * 7 + 5, none⟩) hr1).trans u5; have gu6 := (hxx.cell (p := ⟨b, off + i * 7 + 6, none⟩) hr1).trans u6; have gv0 := (hxx.cell (p := ⟨b', off' + i * 7, none⟩) hr2).trans v0; have gv1 := (hxx.cell (p := ⟨b', off' + i * 7 + 1, none⟩) hr2).trans v1; have gv2 := (hxx.cell (p := ⟨b', off' + i * 7 + 2, none⟩) hr2).trans v2; have gv3 := (hxx.cell (p := ⟨b', off' + i * 7 + 3, none⟩) hr2).trans v3; have gv4 := (hxx.cell (p := ⟨b', off' + i * 7 + 4, none⟩) hr2).trans v4; have gv5 := (hxx.cell (p := ⟨b', off' + i * 7 + 5, none⟩) hr2).trans v5; have gv6 := (hxx.cell (p := ⟨b', off' + i * 7 + 6, none⟩) hr2).trans v6; have gy6 := (hxx.cell (p := ⟨w.heap.size, 3, none⟩) hl1).trans y6; have gz6 := (hxx.cell (p := ⟨w.heap.size + 1, 3, none⟩) hl2).trans z6))
      go_wp2_with fail
      go_roundg (args.length - (i + 1))
      case measure => omega
      case rel => exact ⟨i + 1, by simp, by omega, (by repeat (first | exact Ext.refl _ | assumption | refine Ext.pdrewN ?_ _ | refine Ext.pdrew ?_ | refine Ext.palloc ?_ _ | refine Ext.pset ?_ (by simp <;> omega) _ | refine Ext.trans ?_ (by assumption)))⟩
    · go_wp2_with fail
      go_ret
      exact ⟨rfl, hEw⟩
end Go.Proofs.YtonleohlplkglaaGreatDoor

/- What depends on some blocks alone; rows of a call's own into which it stores. -/
namespace Go.Proofs.YtonleohlplkglaaGreatDoor
open Go Go.RowKit

/-- The blocks of S are as they were. -/
structure Keep (S : Nat → Prop) (w w' : World) : Prop where
  os : w'.os = w.os
  tape : w'.tape = w.tape
  output : w'.output = w.output
  size : w.heap.size ≤ w'.heap.size
  block : ∀ k, k < w.heap.size → S k → w'.heap[k]? = w.heap[k]?
/-- P holds, and goes on to hold whatever becomes of the blocks outside S. -/
def On (S : Nat → Prop) (P : World → Prop) (w : World) : Prop := ∀ w', Keep S w w' → P w'

section
variable {S S' : Nat → Prop} {a w w' : World} {P Q : World → Prop}
theorem Keep.refl (S : Nat → Prop) (w : World) : Keep S w w := ⟨rfl, rfl, rfl, Nat.le_refl _, fun _ _ _ => rfl⟩
theorem Keep.trans (h : Keep S a w) (k : Keep S w w') : Keep S a w' :=
  ⟨k.os.trans h.os, k.tape.trans h.tape, k.output.trans h.output, Nat.le_trans h.size k.size, fun i hi hs => (k.block i (Nat.lt_of_lt_of_le hi h.size) hs).trans (h.block i hi hs)⟩
theorem Keep.mono (h : Keep S w w') (hs : ∀ k, k < w.heap.size → S' k → S k) : Keep S' w w' := ⟨h.os, h.tape, h.output, h.size, fun i hi hk => h.block i hi (hs i hi hk)⟩
theorem Ext.keep (h : Ext w w') (S : Nat → Prop) : Keep S w w' := ⟨h.os, h.tape, h.output, h.size, fun i hi _ => h.block i hi⟩
theorem Keep.ext (h : Keep S w w') (hs : ∀ k, k < w.heap.size → S k) : Ext w w' := ⟨h.os, h.tape, h.output, h.size, fun i hi => h.block i hi (hs i hi)⟩
theorem Keep.pext (h : Keep S a w) (k : Ext w w') : Keep S a w' := h.trans (k.keep S)
theorem Keep.set_ (w : World) (p : Addr) (u : Value) (hp : ¬ S p.block) : Keep S w (w.setCell p u) :=
  ⟨rfl, rfl, rfl, by simp [World.setCell], fun k _ hk => Below.heap_setCell _ _ _ _ (by intro e; exact hp (e ▸ hk))⟩
theorem Keep.pset (h : Keep S a w) (p : Addr) (u : Value) (hp : p.block < a.heap.size → ¬ S p.block) : Keep S a (w.setCell p u) :=
  ⟨h.os, h.tape, h.output, by simpa [World.setCell] using h.size, fun k hk hs => (Below.heap_setCell _ _ _ _ (by intro e; exact hp (e ▸ hk) (e ▸ hs))).trans (h.block k hk hs)⟩
theorem On.out (h : On S P w) : P w := h w (Keep.refl _ _)
theorem On.keep (h : On S P w) (k : Keep S w w') : On S P w' := fun w'' h' => h w'' (k.trans h')
theorem On.ext (h : On S P w) (k : Ext w w') : On S P w' := h.keep (k.keep S)
theorem On.mono (h : On S P w) (hs : ∀ k, k < w.heap.size → S k → S' k) : On S' P w := fun w'' h' => h w'' (h'.mono hs)
theorem On.imp (h : On S P w) (hq : ∀ w', Keep S w w' → P w' → Q w') : On S Q w := fun w'' h' => hq w'' h' (h w'' h')
theorem On.stable (hP : ∀ w w', Ext w w' → P w → P w') (h : P a) (hx : Ext a w) (hs : ∀ k, k < a.heap.size → S k) : On S P w := fun w' hk =>
  hP a w' ⟨hk.os.trans hx.os, hk.tape.trans hx.tape, hk.output.trans hx.output, Nat.le_trans hx.size hk.size, fun i hi => (hk.block i (Nat.lt_of_lt_of_le hi hx.size) (hs i hi)).trans (hx.block i hi)⟩ h
theorem On.const {p : Prop} (h : p) : On S (fun _ => p) w := fun _ _ => h
theorem On.and (h : On S P w) (k : On S Q w) : On S (fun w => P w ∧ Q w) w := fun w' hk => ⟨h w' hk, k w' hk⟩
end

/-- A slice that the call owns; its block lies in [lo, hi), its elements read by R, in S. -/
def RowS {α : Type} (S : Nat → Prop) (T sz : Nat) (R : World → List Value → α → Prop) (lo hi : Nat) (w : World) (v : Value) (l : List α) : Prop :=
  ∃ xs, w.ownsRow lo T sz v l.length xs ∧ (∀ r, v.ownBlock = some r → r < hi) ∧ ∀ k x, l[k]? = some x → ∃ ds, ds.length = sz ∧ (∀ j u, ds[j]? = some u → xs[k * sz + j]? = some u) ∧ On S (fun w => R w ds x) w

section
variable {α : Type} {S S' : Nat → Prop} {T sz lo hi : Nat} {R : World → List Value → α → Prop} {w w' : World} {v : Value} {l : List α}
theorem ownsRow_at {base n : Nat} {xs : List Value} {w w' : World} {v : Value} (h : w.ownsRow base T sz v n xs) (hb : ∀ r, v.ownBlock = some r → w'.heap[r]? = w.heap[r]?) : w'.ownsRow base T sz v n xs := by
  refine ⟨h.1, ?_⟩
  rcases h.2 with h1 | ⟨g, cap, cur, h1, h2, h3, h4⟩
  · exact .inl h1
  · exact .inr ⟨g, cap, cur, h1, h2, (hb g (by rw [h1]; rfl)).trans h3, h4⟩
theorem RowS.lt (h : RowS S T sz R lo hi w v l) : ∀ r, v.ownBlock = some r → lo ≤ r ∧ r < hi ∧ r < w.heap.size := by
  obtain ⟨xs, ho, hh, -⟩ := h
  intro r hr
  exact ⟨(ho.lt r hr).1, hh r hr, (ho.lt r hr).2⟩
theorem RowS.keep (h : RowS S T sz R lo hi w v l) (k : Keep S w w') (hb : ∀ r, v.ownBlock = some r → w'.heap[r]? = w.heap[r]?) : RowS S T sz R lo hi w' v l := by
  obtain ⟨xs, ho, hh, hel⟩ := h
  refine ⟨xs, ownsRow_at ho hb, hh, fun i x hx => ?_⟩
  obtain ⟨ds, h1, h2, h3⟩ := hel i x hx
  exact ⟨ds, h1, h2, h3.keep k⟩
theorem RowS.ext (h : RowS S T sz R lo hi w v l) (k : Ext w w') : RowS S T sz R lo hi w' v l := h.keep (k.keep S) (fun r hr => k.block r (h.lt r hr).2.2)
theorem RowS.mono (h : RowS S T sz R lo hi w v l) (hs : ∀ k, k < w.heap.size → S k → S' k) : RowS S' T sz R lo hi w v l := by
  obtain ⟨xs, ho, hh, hel⟩ := h
  refine ⟨xs, ho, hh, fun i x hx => ?_⟩
  obtain ⟨ds, h1, h2, h3⟩ := hel i x hx
  exact ⟨ds, h1, h2, h3.mono hs⟩
theorem RowS.bounds (h : RowS S T sz R lo hi w v l) {lo' hi' : Nat} (h1 : lo' ≤ lo) (h2 : hi ≤ hi') : RowS S T sz R lo' hi' w v l := by
  obtain ⟨xs, ho, hh, hel⟩ := h
  refine ⟨xs, ⟨ho.1, ?_⟩, fun r hr => Nat.lt_of_lt_of_le (hh r hr) h2, hel⟩
  rcases ho.2 with h3 | ⟨g, cap, cur, g1, g2, g3⟩
  · exact .inl h3
  · exact .inr ⟨g, cap, cur, g1, Nat.le_trans h1 g2, g3⟩
theorem RowS.imp {β : Type} {R' : World → List Value → β → Prop} {f : α → β} (h : RowS S T sz R lo hi w v l) (hR : ∀ w ds x, R w ds x → R' w ds (f x)) : RowS S T sz R' lo hi w v (l.map f) := by
  obtain ⟨xs, ho, hh, hel⟩ := h
  refine ⟨xs, by rw [List.length_map]; exact ho, hh, fun i x hx => ?_⟩
  rw [List.getElem?_map] at hx
  obtain ⟨y, hy, rfl⟩ := Option.map_eq_some_iff.1 hx
  obtain ⟨ds, h1, h2, h3⟩ := hel i y hy
  exact ⟨ds, h1, h2, h3.imp fun w _ h => hR w _ _ h⟩
theorem RowS.form (h : RowS S T sz R lo hi w v l) : ∃ A c, v = .slice A l.length c := by
  obtain ⟨xs, ho, -⟩ := h
  rcases ho.2 with ⟨rfl, hn⟩ | ⟨g, cap, cur, rfl, -⟩
  · exact ⟨none, 0, by rw [hn]⟩
  · exact ⟨_, _, rfl⟩
/-- From a copy of a slice. -/
theorem RowS.of_row (h : RowOf T sz (fun _ ds x => On S (fun w => R w ds x) w') lo w v l) (hk : Keep S w' w) (hh : w.heap.size ≤ hi) : RowS S T sz R lo hi w v l := by
  have hlt := h.lt
  obtain ⟨xs, ho, hel⟩ := h
  refine ⟨xs, ho, fun r hr => Nat.lt_of_lt_of_le (hlt r hr).2 hh, fun i x hx' => ?_⟩
  obtain ⟨ds, h1, h2, h3⟩ := hel i x hx'
  exact ⟨ds, h1, h2, h3.out.keep hk⟩
theorem RowS.of_const {R0 : List Value → α → Prop} (h : RowOf T sz (fun _ => R0) lo w v l) (hR : ∀ w ds x, R0 ds x → R w ds x) (hh : w.heap.size ≤ hi) : RowS S T sz R lo hi w v l := by
  have hlt := h.lt
  obtain ⟨xs, ho, hel⟩ := h
  refine ⟨xs, ho, fun r hr => Nat.lt_of_lt_of_le (hlt r hr).2 hh, fun i x hx' => ?_⟩
  obtain ⟨ds, h1, h2, h3⟩ := hel i x hx'
  exact ⟨ds, h1, h2, fun w'' _ => hR w'' ds x h3.out⟩
/-- Other data, read by another relation. -/
theorem RowS.re {β : Type} {R' : World → List Value → β → Prop} {l' : List β} (h : RowS S T sz R lo hi w v l) (hl : l'.length = l.length) (hr : ∀ (k : Nat) (x : α) (x' : β), l[k]? = some x → l'[k]? = some x' → ∀ ds, On S (fun w => R w ds x) w → On S' (fun w => R' w ds x') w) : RowS S' T sz R' lo hi w v l' := by
  obtain ⟨xs, ho, hh, hel⟩ := h
  refine ⟨xs, by rw [hl]; exact ho, hh, fun i x' hi => ?_⟩
  have hlt := (List.getElem?_eq_some_iff.1 hi).1
  obtain ⟨ds, h1, h2, h3⟩ := hel i _ (List.getElem?_eq_getElem (by omega))
  exact ⟨ds, h1, h2, hr i _ _ (List.getElem?_eq_getElem (by omega)) hi ds h3⟩
/-- One of the elements. -/
theorem RowS.at_ {A : Option Addr} {n c : Nat} (h : RowS S T sz R lo hi w (.slice A n c) l) {k : Nat} (hk : k < l.length) :
    ∃ r ds, A = some ⟨r, 0, none⟩ ∧ lo ≤ r ∧ r < hi ∧ r < w.heap.size ∧ n = l.length ∧ n ≤ c ∧ ds.length = sz ∧ (∀ j u, ds[j]? = some u → w.cell? ⟨r, k * sz + j, none⟩ = some u) ∧ (∀ j, w.frozen? ⟨r, j, none⟩ = false) ∧ On S (fun w => R w ds l[k]) w := by
  obtain ⟨xs, ho, hh, hel⟩ := h
  rcases ho.2 with ⟨h1, h2⟩ | ⟨g, cap, cur, h1, hb, hg, hcap, hcm, hcs, htk⟩
  · omega
  · injection h1 with e1 e2 e3
    subst e1 e2 e3
    obtain ⟨ds, d1, d2, d3⟩ := hel k _ (List.getElem?_eq_getElem hk)
    refine ⟨g, ds, rfl, hb, hh g rfl, (Array.getElem?_eq_some_iff.1 hg).1, rfl, hcap, d1, fun j u hj => ?_, fun j => ?_, d3⟩
    · have h6 := d2 j u hj
      rw [← htk, List.getElem?_take] at h6
      split at h6
      · rw [cell_of_row w g _ cur _ _ hg]
        simpa using h6
      · cases h6
    · simp [World.frozen?, hg]
theorem RowS.len {A : Option Addr} {n c : Nat} (h : RowS S T sz R lo hi w (.slice A n c) l) : n = l.length := by
  obtain ⟨A', c', h1⟩ := h.form
  injection h1
/-- One cell of a row. -/
theorem ownsRow_set {base n r o : Nat} {A : Option Addr} {m c : Nat} {xs : List Value} (h : w.ownsRow base T sz (.slice A m c) n xs) (hr : A = some ⟨r, 0, none⟩) (ho : o < n * sz) (u : Value) : (w.setCell ⟨r, o, none⟩ u).ownsRow base T sz (.slice A m c) n (xs.set o u) := by
  refine ⟨by rw [List.length_set]; exact h.1, ?_⟩
  rcases h.2 with h1 | ⟨g, cap, cur, h1, h2, h3, h4, h5, h6, h7⟩
  · exact .inl h1
  · injection h1 with e1 e2 e3
    rw [hr] at e1
    injection e1 with e1
    injection e1 with e1 _ _
    subst e1 e2 e3
    refine .inr ⟨r, c, cur.setIfInBounds o u, by rw [hr], h2, ?_, h4, h5, by rw [Array.size_setIfInBounds]; exact h6, ?_⟩
    · simp [World.setCell, Array.getElem?_modify, h3]
    · rw [Array.toList_setIfInBounds, List.take_set, h7]
theorem ownsRow_sets {base n r : Nat} {A : Option Addr} {m c : Nat} (hr : A = some ⟨r, 0, none⟩) : ∀ (us : List Value) (o : Nat) (w : World) (xs : List Value), w.ownsRow base T sz (.slice A m c) n xs → o + us.length ≤ n * sz →
    ∃ ys, (w.setCells r o us).ownsRow base T sz (.slice A m c) n ys ∧ (∀ j, j < o ∨ o + us.length ≤ j → ys[j]? = xs[j]?) ∧ (∀ j u, us[j]? = some u → ys[o + j]? = some u)
  | [], o, w, xs, h, _ => ⟨xs, h, fun _ _ => rfl, fun j u hj => by simp at hj⟩
  | a :: us, o, w, xs, h, hl => by
    obtain ⟨ys, h1, h2, h3⟩ := ownsRow_sets hr us (o + 1) _ _ (ownsRow_set h hr (o := o) (by simp at hl; omega) a) (by simp at hl; omega)
    refine ⟨ys, h1, fun j hj => ?_, fun j u hj => ?_⟩
    · rw [h2 j (by simp at hj; omega), List.getElem?_set_ne (by simp at hj; omega)]
    · rcases j with _ | j
      · simp at hj
        subst hj
        rw [Nat.add_zero, h2 o (by omega), List.getElem?_set_self]
        have := h.1
        rw [this]; simp at hl; omega
      · have := h3 j u (by simpa using hj)
        rwa [show o + 1 + j = o + (j + 1) by omega] at this
theorem Keep.sets {a : World} (r : Nat) (hr : r < a.heap.size → ¬ S r) : ∀ (us : List Value) (o : Nat) (w : World), Keep S a w → Keep S a (w.setCells r o us)
  | [], _, _, h => h
  | u :: us, o, w, h => Keep.sets r hr us (o + 1) _ (h.pset ⟨r, o, none⟩ u hr)
theorem heap_sets (r : Nat) : ∀ (us : List Value) (o : Nat) (w : World) (i : Nat), i ≠ r → (w.setCells r o us).heap[i]? = w.heap[i]?
  | [], _, _, _, _ => rfl
  | u :: us, o, w, i, h => (heap_sets r us (o + 1) _ i h).trans (Below.heap_setCell _ _ _ _ (by exact h))
theorem size_sets (r : Nat) : ∀ (us : List Value) (o : Nat) (w : World), (w.setCells r o us).heap.size = w.heap.size
  | [], _, _ => rfl
  | u :: us, o, w => (size_sets r us (o + 1) _).trans (by simp [World.setCell])
theorem Ext.sets {a : World} (r : Nat) (hr : a.heap.size ≤ r) : ∀ (us : List Value) (o : Nat) (w : World), Ext a w → Ext a (w.setCells r o us)
  | [], _, _, h => h
  | u :: us, o, w, h => Ext.sets r hr us (o + 1) _ (h.pset hr u)
/-- Some of an element's cells are stored anew. -/
theorem RowS.put {r m c k j0 : Nat} {us : List Value} (h : RowS S T sz R lo hi w (.slice (some ⟨r, 0, none⟩) m c) l) (hk : k < l.length) (hj : j0 + us.length ≤ sz) (hr : ¬ S r) {x' : α}
    (hx : ∀ ds, ds.length = sz → On S (fun w => R w ds l[k]) w → ∀ ds', ds'.length = sz → (∀ j, j < j0 ∨ j0 + us.length ≤ j → ds'[j]? = ds[j]?) → (∀ j u, us[j]? = some u → ds'[j0 + j]? = some u) → On S (fun w => R w ds' x') w) :
    RowS S T sz R lo hi (w.setCells r (k * sz + j0) us) (.slice (some ⟨r, 0, none⟩) m c) (l.set k x') := by
  obtain ⟨xs, ho, hh, hel⟩ := h
  have hks : (k + 1) * sz ≤ l.length * sz := Nat.mul_le_mul_right sz hk
  rw [Nat.add_mul, Nat.one_mul] at hks
  obtain ⟨ys, g1, g2, g3⟩ := ownsRow_sets rfl us (k * sz + j0) w xs ho (by omega)
  have hK : Keep S w (w.setCells r (k * sz + j0) us) := Keep.sets r (fun _ => hr) us _ w (Keep.refl _ _)
  have hyl : ys.length = l.length * sz := g1.1
  refine ⟨ys, by rw [List.length_set]; exact g1, hh, fun i x hi => ?_⟩
  by_cases hik : i = k
  · subst hik
    rw [List.getElem?_set_self hk] at hi
    injection hi with hi
    subst hi
    obtain ⟨ds, d1, d2, d3⟩ := hel i _ (List.getElem?_eq_getElem hk)
    have hd' : ∀ j, j < sz → ((ys.drop (i * sz)).take sz)[j]? = ys[i * sz + j]? := fun j hj => by rw [List.getElem?_take_of_lt hj, List.getElem?_drop]
    refine ⟨(ys.drop (i * sz)).take sz, by rw [List.length_take, List.length_drop]; omega, fun j u hju => ?_, (hx ds d1 d3 _ (by rw [List.length_take, List.length_drop]; omega) (fun j hjj => ?_) (fun j u hju => ?_)).keep hK⟩
    · have hjs : j < sz := by
        have := (List.getElem?_eq_some_iff.1 hju).1
        rw [List.length_take] at this; omega
      rwa [hd' j hjs] at hju
    · rcases Nat.lt_or_ge j sz with hjs | hjs
      · rw [hd' j hjs, g2 _ (by omega)]
        rw [List.getElem?_eq_getElem (by omega : j < ds.length)]
        exact d2 j _ (List.getElem?_eq_getElem (by omega))
      · rw [List.getElem?_eq_none (by rw [List.length_take]; omega), List.getElem?_eq_none (by omega)]
    · have hju' := (List.getElem?_eq_some_iff.1 hju).1
      rw [hd' _ (by omega)]
      have := g3 j u hju
      rwa [show i * sz + j0 + j = i * sz + (j0 + j) by omega] at this
  · rw [List.getElem?_set_ne (by omega)] at hi
    obtain ⟨ds, d1, d2, d3⟩ := hel i x hi
    refine ⟨ds, d1, fun j u hju => ?_, d3.keep hK⟩
    have hjs := (List.getElem?_eq_some_iff.1 hju).1
    rw [g2]
    · exact d2 j u hju
    · rcases Nat.lt_or_gt_of_ne hik with h1 | h1
      · have := Nat.mul_le_mul_right sz (show i + 1 ≤ k from h1)
        rw [Nat.add_mul] at this; omega
      · have := Nat.mul_le_mul_right sz (show k + 1 ≤ i from h1)
        rw [Nat.add_mul] at this; omega
/-- The whole element. -/
theorem RowS.put_all {r m c k : Nat} {us : List Value} (h : RowS S T sz R lo hi w (.slice (some ⟨r, 0, none⟩) m c) l) (hk : k < l.length) (hj : us.length = sz) (hr : ¬ S r) (hx : On S (fun w => R w us l[k]) w) :
    RowS S T sz R lo hi (w.setCells r (k * sz) us) (.slice (some ⟨r, 0, none⟩) m c) l := by
  have := h.put (j0 := 0) (us := us) (x' := l[k]) hk (by omega) hr (fun ds h1 h2 ds' h3 h4 h5 => by
    have : ds' = us := by
      apply List.ext_getElem? 
      intro j
      rcases Nat.lt_or_ge j us.length with h6 | h6
      · rw [List.getElem?_eq_getElem h6]
        have := h5 j _ (List.getElem?_eq_getElem h6)
        rwa [Nat.zero_add] at this
      · rw [List.getElem?_eq_none h6, List.getElem?_eq_none (by omega)]
    rw [this]; exact hx)
  rw [List.set_getElem_self] at this
  exact this
/-- The slice as data. -/
theorem RowS.arr (h : RowS S T sz R lo hi w v l) (hl : l.length ≤ 1000000) (hS : ∀ r, v.ownBlock = some r → S' r) (hSS : ∀ k, k < w.heap.size → S k → S' k) : On S' (fun w => ArrAt sz R w v l) w := by
  intro w' hk
  have hlt := h.lt
  have h' := h.keep (hk.mono hSS) (fun r hr => hk.block r (hlt r hr).2.2 (hS r hr))
  obtain ⟨xs, ho, -, hel⟩ := h'
  rcases ho.2 with ⟨rfl, hn⟩ | ⟨g, cap, cur, rfl, hb, hg, hcap, hcm, hcs, htk⟩
  · obtain rfl := List.eq_nil_of_length_eq_zero hn
    exact ArrAt.nil
  · refine ⟨some ⟨g, 0, none⟩, cap, rfl, hcap, by omega, fun _ => ⟨g, 0, rfl, (Array.getElem?_eq_some_iff.1 hg).1, fun k x hk => ?_⟩⟩
    obtain ⟨ds, h1, h2, h3⟩ := hel k x hk
    refine ⟨ds, h1, fun j u hj => ?_, h3.out⟩
    have h6 := h2 j u hj
    rw [← htk, List.getElem?_take] at h6
    split at h6
    · rw [cell_of_row w' g _ cur _ _ hg, Nat.zero_add]
      simpa using h6
    · cases h6
end
theorem ArrAt.old {α : Type} {sz : Nat} {R : World → List Value → α → Prop} {w0 w : World} {v : Value} {xs : List α} (h : ArrAt sz R w0 v xs) (hx : Ext w0 w) : ArrAt sz (fun _ => R w0) w v xs := by
  obtain ⟨A, c, hv, hl, hm, hc⟩ := h
  refine ⟨A, c, hv, hl, hm, fun hne => ?_⟩
  obtain ⟨b, off, hA, hb, hk⟩ := hc hne
  refine ⟨b, off, hA, Nat.lt_of_lt_of_le hb hx.size, fun k x hkx => ?_⟩
  obtain ⟨cs, hcs, hcell, hr'⟩ := hk k x hkx
  exact ⟨cs, hcs, fun j u hj => (hx.cell (p := ⟨b, off + (k * sz + j), none⟩) hb).trans (hcell j u hj), hr'⟩
/-- Slices of words, as slices of elements. -/
theorem Words.arr {w : World} {v : Value} {xs : List Nat} (h : Words w v xs) : ArrAt 1 WordR w v xs := by
  obtain ⟨A, c, hv, hl, hm, hL, hc⟩ := h
  refine ⟨A, c, hv, hl, hm, fun hne => ?_⟩
  obtain ⟨b, off, hA, hb, hk⟩ := hc (List.length_pos_iff.2 hne)
  refine ⟨b, off, hA, hb, fun k x hx => ?_⟩
  obtain ⟨hkl, hx'⟩ := List.getElem?_eq_some_iff.1 hx
  refine ⟨[.int .u32 (x : Int)], rfl, fun j u hj => ?_, rfl, hL x (by rw [← hx']; exact List.getElem_mem hkl)⟩
  rcases j with _ | j
  · simp at hj
    subst hj
    have := hk k hkl
    rw [List.getD_eq_getElem?_getD, hx] at this
    simpa using this
  · simp at hj
theorem ArrAt.words {w : World} {v : Value} {xs : List Nat} (h : ArrAt 1 WordR w v xs) : Words w v xs := by
  obtain ⟨A, c, hv, hl, hm, hc⟩ := h
  have hel : ∀ (hne : xs ≠ []) k (hk : k < xs.length), ∃ b off, A = some ⟨b, off, none⟩ ∧ b < w.heap.size ∧ w.cell? ⟨b, off + k, none⟩ = some (.int .u32 ((xs.getD k 0 : Nat) : Int)) ∧ xs[k] < 4294967296 := by
    intro hne k hk
    obtain ⟨b, off, hA, hb, hx⟩ := hc hne
    obtain ⟨cs, h1, h2, h3, h4⟩ := hx k _ (List.getElem?_eq_getElem hk)
    refine ⟨b, off, hA, hb, ?_, h4⟩
    rw [h3] at h2
    have := h2 0 _ rfl
    rw [List.getD_eq_getElem?_getD, List.getElem?_eq_getElem hk]
    simpa using this
  refine ⟨A, c, hv, hl, hm, fun x hx => ?_, fun h0 => ?_⟩
  · obtain ⟨k, hk, rfl⟩ := List.mem_iff_getElem.1 hx
    obtain ⟨_, _, _, _, _, h4⟩ := hel (by intro e; rw [e] at hk; simp at hk) k hk
    exact h4
  · have hne : xs ≠ [] := List.length_pos_iff.1 h0
    obtain ⟨b, off, hA, hb, -⟩ := hc hne
    refine ⟨b, off, hA, hb, fun k hk => ?_⟩
    obtain ⟨b', off', hA', -, h3, -⟩ := hel hne k hk
    rw [hA] at hA'
    injection hA' with hA'
    injection hA' with e1 e2 _
    subst e1 e2
    exact h3
end Go.Proofs.YtonleohlplkglaaGreatDoor

/- cloneRat of the program's sketch. -/
namespace Go.Proofs.YtonleohlplkglaaGreatDoor
open Go Go.RowKit

/-- From the base on. -/
abbrev From (b : Nat) : Nat → Prop := fun k => b ≤ k

theorem clone_Words {v : Value} {xs : List Nat} {w : World} (h : Words w v xs) (hl : xs.length ≤ 1000000) :
    Calls Tryz.prog 134 #[v] w (Ret w fun r w' => ∃ A c, r = .slice A xs.length c ∧ On (From w.heap.size) (fun w => Words w r xs) w') := by
  refine (clone_Word (h.arr.old (Ext.refl w)) (one_wd w) hl).mono ?_
  rintro e w' ⟨r, rfl, hr, hx⟩
  refine ⟨r, rfl, ?_, hx⟩
  obtain ⟨A, c, rfl⟩ := hr.form
  have hlt := hr.lt
  have h1 : RowS (From w.heap.size) 142 1 WordR w.heap.size w'.heap.size w' (.slice A xs.length c) xs := RowS.of_const hr (fun _ _ _ h => h) (Nat.le_refl _)
  exact ⟨A, c, rfl, (h1.arr hl (fun r hr' => (hlt r hr').1) (fun k _ hk => hk)).imp fun w'' _ h => h.words⟩

theorem put13' {w3 : World} {g g' : Nat} {x0 x1 x2 x3 u v : Value} {cs : List Value} (h : CellsAt w3 g [x0, x1, x2, x3]) (h' : CellsAt w3 g' cs) (hg : g ≠ g') :
    CellsAt ((w3.setCell ⟨g, 1, none⟩ u).setCell ⟨g, 3, none⟩ v) g [x0, u, x2, v] ∧ CellsAt ((w3.setCell ⟨g, 1, none⟩ u).setCell ⟨g, 3, none⟩ v) g' cs := by
  refine ⟨⟨by simpa [World.setCell] using h.1, fun i y hi => ?_⟩, ⟨by simpa [World.setCell] using h'.1, fun i y hi => ?_⟩⟩
  · match i, hi with
    | 0, hi => (cases hi; rw [cell_set_off (by decide), cell_set_off (by decide)]; exact h.2 0 _ rfl)
    | 1, hi => (cases hi; rw [cell_set_off (by decide)]; exact World.cell?_setCell_same _ _ _ (h.2 1 _ rfl))
    | 2, hi => (cases hi; rw [cell_set_off (by decide), cell_set_off (by decide)]; exact h.2 2 _ rfl)
    | 3, hi => (cases hi; exact World.cell?_setCell_same _ _ _ ((cell_set_off (by decide)).trans (h.2 3 _ rfl)))
    | i + 4, hi => simp at hi
  · rw [cell_set_blk hg, cell_set_blk hg]; exact h'.2 i y hi

/-- What a copy of a rational reads as. -/
def RatOn (S : Nat → Prop) (q : QI) (r : Value) (w' : World) : Prop := ∃ A c A' c', r = .agg #[.bool q.num.neg, .slice A q.num.mag.length c, .bool q.den.neg, .slice A' q.den.mag.length c'] ∧ On S (fun w => Words w (.slice A q.num.mag.length c) q.num.mag) w' ∧ On S (fun w => Words w (.slice A' q.den.mag.length c') q.den.mag) w'
theorem RatOn.mono {S S' : Nat → Prop} {q : QI} {r : Value} {w : World} (h : RatOn S q r w) (hs : ∀ k, k < w.heap.size → S k → S' k) : RatOn S' q r w := by
  obtain ⟨A, c, A', c', h1, h2, h3⟩ := h
  exact ⟨A, c, A', c', h1, h2.mono hs, h3.mono hs⟩
theorem RatOn.keep {S : Nat → Prop} {q : QI} {r : Value} {w w' : World} (h : RatOn S q r w) (hk : Keep S w w') : RatOn S q r w' := by
  obtain ⟨A, c, A', c', h1, h2, h3⟩ := h
  exact ⟨A, c, A', c', h1, h2.keep hk, h3.keep hk⟩

set_option maxRecDepth 100000 in
set_option maxHeartbeats 1600000 in
theorem sketch_cloneRat {q : QI} {v v' : Value} {w : World} (h : Words w v q.num.mag) (h' : Words w v' q.den.mag) (hl : q.num.mag.length ≤ 1000000) (hl' : q.den.mag.length ≤ 1000000) :
    Calls Tryz.prog 118 #[.agg #[.bool q.num.neg, v, .bool q.den.neg, v']] w (Ret w (RatOn (From w.heap.size) q)) := by
  obtain ⟨A, c, rfl, hl1, hm⟩ := h.form
  obtain ⟨A', c', rfl, hl1', hm'⟩ := h'.form
  have HC1 := Lib.hid (fun w1 (hx : Ext w w1) => clone_Words (h.ext hx) hl)
  have HC2 := Lib.hid (fun w1 (hx : Ext w w1) => clone_Words (h'.ext hx) hl')
  have HR : Hid (∀ r w', (∃ A c A' c', r = .agg #[.bool q.num.neg, .slice A q.num.mag.length c, .bool q.den.neg, .slice A' q.den.mag.length c'] ∧ On (From w.heap.size) (fun w => Words w (.slice A q.num.mag.length c) q.num.mag) w' ∧ On (From w.heap.size) (fun w => Words w (.slice A' q.den.mag.length c') q.den.mag) w') → RatOn (From w.heap.size) q r w') := fun r w' h => h
  clear h h' hl hl'
  generalize RatOn (From w.heap.size) q = RO at *
  generalize q.num.neg = a at *
  generalize q.den.neg = b at *
  generalize q.num.mag = xs at *
  generalize q.den.mag = ys at *
  obtain ⟨n, hn⟩ : ∃ n, xs.length = n := ⟨_, rfl⟩
  obtain ⟨n', hn'⟩ : ∃ n, ys.length = n := ⟨_, rfl⟩
  rw [hn] at HC1 HR hl1 hm ⊢
  rw [hn'] at HC2 HR hl1' hm' ⊢
  clear hn hn'
  obtain ⟨W0, hW0⟩ : ∃ W0, ((w.alloc (.cells #[.bool a, .slice A n c, .bool b, .slice A' n' c'] 38)).alloc (.cells #[.bool false, .slice none 0 0, .bool false, .slice none 0 0] 38)) = W0 := ⟨_, rfl⟩
  have HB0 : Hid (CellsAt W0 w.heap.size [.bool a, .slice A n c, .bool b, .slice A' n' c']) := by rw [← hW0]; exact (CellsAt.new w _ _).ext (Ext.alloc _ _)
  have HR0 : Hid (CellsAt W0 (w.heap.size + 1) [.bool false, .slice none 0 0, .bool false, .slice none 0 0]) := by
    rw [← hW0]; have := CellsAt.new (w.alloc (.cells #[.bool a, .slice A n c, .bool b, .slice A' n' c'] 38)) [.bool false, .slice none 0 0, .bool false, .slice none 0 0] 38
    rwa [World.size_alloc] at this
  have hf0 : ∀ j, W0.frozen? ⟨w.heap.size, j, none⟩ = false ∧ W0.frozen? ⟨w.heap.size + 1, j, none⟩ = false := fun j => by rw [← hW0]; simp [go_sem]
  have HF0 : Hid (∀ W j, Ext W0 W → W.frozen? ⟨w.heap.size, j, none⟩ = false ∧ W.frozen? ⟨w.heap.size + 1, j, none⟩ = false) := fun W j hx => ⟨(Below.frozen hx HB0.out.1).trans (hf0 j).1, (Below.frozen hx HR0.out.1).trans (hf0 j).2⟩
  have HE0 : Hid (Ext w W0) := by rw [← hW0]; exact (by repeat (first | exact Ext.refl _ | assumption | refine Ext.pdrewN ?_ _ | refine Ext.pdrew ?_ | refine Ext.palloc ?_ _ | refine Ext.pset ?_ (by simp <;> omega) _ | refine Ext.trans ?_ (by assumption)))
  have HZ0 : Hid (∀ W, Ext W0 W → w.heap.size + 2 ≤ W.heap.size) := fun W hx => by have := hx.size; rw [← hW0] at this; simpa using this
  have HW0 := Lib.hid hW0
  clear hW0 hf0
  go_enter Tryz.func118, Tryz.ntmps118
  go_upto_region 1 with fail
  rw [HW0.out]
  obtain ⟨y0, y1, y2, y3⟩ := HB0.out.four
  have hE0 := HE0.out
  go_cut [3] (fun _ wx => ∃ A1 c1 A2 c2, Hid ((CellsAt wx w.heap.size [.bool a, .slice A1 n c1, .bool b, .slice A2 n' c2] ∧ CellsAt wx (w.heap.size + 1) [.bool false, .slice none 0 0, .bool false, .slice none 0 0]) ∧ (∀ j, wx.frozen? ⟨w.heap.size + 1, j, none⟩ = false) ∧ Ext w wx ∧ On (From (w.heap.size + 2)) (fun w => Words w (.slice A1 n c1) xs) wx ∧ On (From (w.heap.size + 2)) (fun w => Words w (.slice A2 n' c2) ys) wx))
  case first =>
    go_region_with (first
      | (go_at_call_of 134 (Value.slice A n c); refine (HC1.out _ (by repeat (first | exact Ext.refl _ | assumption | refine Ext.pdrewN ?_ _ | refine Ext.pdrew ?_ | refine Ext.palloc ?_ _ | refine Ext.pset ?_ (by simp <;> omega) _ | refine Ext.trans ?_ (by assumption)))).mono ?_; rintro e w2 ⟨r2, rfl, ⟨X1, k1, rfl, ho2⟩, hx2⟩; have HO2 := Lib.hid (ho2.mono (S' := From (w.heap.size + 2)) (fun k _ hk => Nat.le_trans (HZ0.out _ (by repeat (first | exact Ext.refl _ | assumption | refine Ext.pdrewN ?_ _ | refine Ext.pdrew ?_ | refine Ext.palloc ?_ _ | refine Ext.pset ?_ (by simp <;> omega) _ | refine Ext.trans ?_ (by assumption)))) hk)); clear ho2; obtain ⟨p0, p1, p2, p3⟩ := (HB0.out.ext (w' := w2) (by repeat (first | exact Ext.refl _ | assumption | refine Ext.pdrewN ?_ _ | refine Ext.pdrew ?_ | refine Ext.palloc ?_ _ | refine Ext.pset ?_ (by simp <;> omega) _ | refine Ext.trans ?_ (by assumption)))).four; have g1 := (HF0.out w2 1 (by repeat (first | exact Ext.refl _ | assumption | refine Ext.pdrewN ?_ _ | refine Ext.pdrew ?_ | refine Ext.palloc ?_ _ | refine Ext.pset ?_ (by simp <;> omega) _ | refine Ext.trans ?_ (by assumption)))).1; have g3 := (HF0.out w2 3 (by repeat (first | exact Ext.refl _ | assumption | refine Ext.pdrewN ?_ _ | refine Ext.pdrew ?_ | refine Ext.palloc ?_ _ | refine Ext.pset ?_ (by simp <;> omega) _ | refine Ext.trans ?_ (by assumption)))).1)
      | (go_at_call_of 134 (Value.slice A' n' c'); refine (HC2.out _ (by repeat (first | exact Ext.refl _ | assumption | refine Ext.pdrewN ?_ _ | refine Ext.pdrew ?_ | refine Ext.palloc ?_ _ | refine Ext.pset ?_ (by simp <;> omega) _ | refine Ext.trans ?_ (by assumption)))).mono ?_; rintro e w3 ⟨r3, rfl, ⟨X2, k2, rfl, ho3⟩, hx3⟩; have HO3 := Lib.hid (ho3.mono (S' := From (w.heap.size + 2)) (fun k _ hk => Nat.le_trans (HZ0.out _ (by repeat (first | exact Ext.refl _ | assumption | refine Ext.pdrewN ?_ _ | refine Ext.pdrew ?_ | refine Ext.palloc ?_ _ | refine Ext.pset ?_ (by simp <;> omega) _ | refine Ext.trans ?_ (by assumption)))) hk)); clear ho3; obtain ⟨p0', p1', p2', p3'⟩ := (HB0.out.ext (w' := w3) (by repeat (first | exact Ext.refl _ | assumption | refine Ext.pdrewN ?_ _ | refine Ext.pdrew ?_ | refine Ext.palloc ?_ _ | refine Ext.pset ?_ (by simp <;> omega) _ | refine Ext.trans ?_ (by assumption)))).four; have g1' := (HF0.out w3 1 (by repeat (first | exact Ext.refl _ | assumption | refine Ext.pdrewN ?_ _ | refine Ext.pdrew ?_ | refine Ext.palloc ?_ _ | refine Ext.pset ?_ (by simp <;> omega) _ | refine Ext.trans ?_ (by assumption)))).1; have g3' := (HF0.out w3 3 (by repeat (first | exact Ext.refl _ | assumption | refine Ext.pdrewN ?_ _ | refine Ext.pdrew ?_ | refine Ext.palloc ?_ _ | refine Ext.pset ?_ (by simp <;> omega) _ | refine Ext.trans ?_ (by assumption)))).1))
    all_goals
      go_wp2_with fail
      go_meet
      have hE3 : Ext W0 w3 := (by repeat (first | exact Ext.refl _ | assumption | refine Ext.pdrewN ?_ _ | refine Ext.pdrew ?_ | refine Ext.palloc ?_ _ | refine Ext.pset ?_ (by simp <;> omega) _ | refine Ext.trans ?_ (by assumption)))
      exact ⟨X1, k1, X2, k2, put13' (HB0.out.ext hE3) (HR0.out.ext hE3) (by omega), fun j => by rw [World.frozen?_setCell, World.frozen?_setCell]; exact (HF0.out w3 j hE3).2, ((hE0.trans hE3).pset (Nat.le_refl _) _).pset (Nat.le_refl _) _,
        (HO2.out.ext (w' := w3) (by repeat (first | exact Ext.refl _ | assumption | refine Ext.pdrewN ?_ _ | refine Ext.pdrew ?_ | refine Ext.palloc ?_ _ | refine Ext.pset ?_ (by simp <;> omega) _ | refine Ext.trans ?_ (by assumption)))).keep (((Keep.refl _ _).pset _ _ (fun _ h => by have : w.heap.size + 2 ≤ w.heap.size := h; omega)).pset _ _ (fun _ h => by have : w.heap.size + 2 ≤ w.heap.size := h; omega)),
        HO3.out.keep (((Keep.refl _ _).pset _ _ (fun _ h => by have : w.heap.size + 2 ≤ w.heap.size := h; omega)).pset _ _ (fun _ h => by have : w.heap.size + 2 ≤ w.heap.size := h; omega))⟩
  case rest =>
    obtain ⟨A1, c1, A2, c2, HX⟩ := hcut
    obtain ⟨y0, y1, y2, y3⟩ := HX.out.1.1.four
    obtain ⟨z0, z1, z2, z3⟩ := HX.out.1.2.four
    have f0 := HX.out.2.1 0
    have f1 := HX.out.2.1 1
    have f2 := HX.out.2.1 2
    have f3 := HX.out.2.1 3
    have hE := HX.out.2.2.1
    have KS : w.heap.size + 1 < wc.heap.size → ¬ From (w.heap.size + 2) (w.heap.size + 1) := fun _ h => by have : w.heap.size + 2 ≤ w.heap.size + 1 := h; omega
    go_wp2_with fail
    refine bodyPost_ret (v := .agg #[.bool a, .slice A1 n c1, .bool b, .slice A2 n' c2]) ?_ rfl ⟨_, rfl, HR.out _ _ ⟨A1, c1, A2, c2, rfl, ?_, ?_⟩, ?_⟩
    · simp [results, Tryz.results118, go_sem, z0, z1, z2, z3]
    · exact (HX.out.2.2.2.1.keep (((((Keep.refl _ _).pset _ _ KS).pset _ _ KS).pset _ _ KS).pset _ _ KS)).mono (fun k _ hk => Nat.le_trans (Nat.le_add_right _ _) hk)
    · exact (HX.out.2.2.2.2.keep (((((Keep.refl _ _).pset _ _ KS).pset _ _ KS).pset _ _ KS).pset _ _ KS)).mono (fun k _ hk => Nat.le_trans (Nat.le_add_right _ _) hk)
    · exact (((hE.pset (by simp) _).pset (by simp) _).pset (by simp) _).pset (by simp) _
end Go.Proofs.YtonleohlplkglaaGreatDoor

/- The state of a copy of a sketch: six rows of the call's own, and what their elements hold. -/
namespace Go.Proofs.YtonleohlplkglaaGreatDoor
open Go Go.RowKit

/-- An element that is still the old one (as it lay in w0), or that has been copied. -/
def Fl {α : Type} (R : World → List Value → α → Prop) (w0 w : World) (ds : List Value) (x : α × Bool) : Prop := if x.2 then R w0 ds x.1 else R w ds x.1
/-- A constraint; the points' own row, if it has been copied; the values' own row, while they are being copied. -/
structure CX where
  c : CI
  pv : Option Value
  vv : Option Value
def ConX (K : Nat) (w0 w : World) (ds : List Value) (x : CX) : Prop := ∃ pv cv vv, ds = [.int .i64 x.c.kind, pv, cv, vv, .int .i64 x.c.side] ∧
  match x.pv with
  | none => Ints w0 pv x.c.points ∧ Ints w0 cv x.c.circles ∧ ArrAt 7 (ExprR K) w0 vv x.c.values
  | some p => pv = p ∧ Ints w cv x.c.circles ∧ match x.vv with
    | none => ArrAt 7 (ExprR K) w vv x.c.values
    | some q => vv = q
/-- The blocks on which copies may depend. -/
def Sx (hi : Nat) (l : List CX) (k : Nat) : Prop := hi ≤ k ∧ ∀ x ∈ l, (∀ p, x.pv = some p → p.ownBlock ≠ some k) ∧ (∀ q, x.vv = some q → q.ownBlock ≠ some k)

structure ClS (K : Nat) (w0 : World) (lo hh : Nat) (w : World) (v0 v1 v2 v3 v4 v5 : Value) (lp : List (PtI × Bool)) (lr : List (RdI × Bool)) (sg : List SgI) (ar : List ArI) (lc : List (List PcI × Bool)) (l : List CX) : Prop where
  hi : hh ≤ w.heap.size
  pts : RowS (Sx (hh) l) 40 8 (Fl PtR w0) lo hh w v0 lp
  rds : RowS (Sx (hh) l) 66 5 (Fl RdR w0) lo hh w v1 lr
  sgs : RowS (Sx (hh) l) 42 2 SgR lo hh w v2 sg
  ars : RowS (Sx (hh) l) 81 4 ArR lo hh w v3 ar
  chs : RowS (Sx (hh) l) 43 1 (Fl ChR w0) lo hh w v4 lc
  cns : RowS (Sx (hh) l) 52 5 (ConX K w0) lo hh w v5 l
  prow : ∀ (i : Nat) x p, l[i]? = some x → x.pv = some p → RowS (fun _ => False) 3 1 IntR (hh) w.heap.size w p x.c.points
  dst : ∀ (i j : Nat) a b r, i ≠ j → [v0, v1, v2, v3, v4, v5][i]? = some a → [v0, v1, v2, v3, v4, v5][j]? = some b → a.ownBlock = some r → b.ownBlock ≠ some r
  dis : ∀ (i j : Nat) x y p q r, i ≠ j → l[i]? = some x → l[j]? = some y → x.pv = some p → y.pv = some q → p.ownBlock = some r → q.ownBlock ≠ some r
  hot : ∀ (i j : Nat) x y p q r, l[i]? = some x → l[j]? = some y → x.pv = some p → y.vv = some q → p.ownBlock = some r → q.ownBlock ≠ some r

section
variable {α : Type} {S S' : Nat → Prop} {T sz lo hi : Nat} {R : World → List Value → α → Prop} {w w' : World} {v : Value} {l : List α}
theorem grownBy.keep {row : Option Nat} (hg : w.grownBy w' row) (hS : ∀ r, row = some r → ¬ S r) : Keep S w w' :=
  ⟨hg.os, hg.tape, hg.output, hg.size, fun k hk hs => hg.block k hk (by intro e; exact hS k e.symm hs)⟩
theorem RowS.far {row : Option Nat} (h : RowS S T sz R lo hi w v l) (hg : w.grownBy w' row) (hr : ∀ r, row = some r → v.ownBlock ≠ some r) (hS : ∀ r, row = some r → ¬ S r) : RowS S T sz R lo hi w' v l :=
  h.keep (grownBy.keep hg hS) (fun r hv => hg.block r (h.lt r hv).2.2 (by intro e; exact hr r e.symm hv))
theorem RowS.far' {row : Option Nat} (h : RowS S T sz R lo hi w v l) (hg : w.grownBy w' row) (hr : ∀ r, row = some r → r < lo ∨ hi ≤ r) (hS : ∀ r, row = some r → ¬ S r) : RowS S T sz R lo hi w' v l :=
  h.far hg (fun r e hv => by have h1 := h.lt r hv; have h2 := hr r e; omega) hS
theorem grownBy_sets (r : Nat) : ∀ (us : List Value) (o : Nat) (w : World), w.grownBy (w.setCells r o us) (some r)
  | us, o, w => by
    have h1 := Keep.sets (S := fun k => k ≠ r) (a := w) r (fun _ h => h rfl) us o w (Keep.refl _ _)
    exact ⟨h1.os, h1.tape, h1.output, h1.size, fun k hk hne => h1.block k hk (by intro e; exact hne (by rw [e]))⟩
end

section
variable {K : Nat} {w0 : World} {lo hh : Nat} {w w' : World} {v0 v1 v2 v3 v4 v5 : Value} {lp : List (PtI × Bool)} {lr : List (RdI × Bool)} {sg : List SgI} {ar : List ArI} {lc : List (List PcI × Bool)} {l : List CX}
theorem ClS.ext (h : ClS K w0 lo hh w v0 v1 v2 v3 v4 v5 lp lr sg ar lc l) (hx : Ext w w') : ClS K w0 lo hh w' v0 v1 v2 v3 v4 v5 lp lr sg ar lc l where
  hi := Nat.le_trans h.hi hx.size
  pts := h.pts.ext hx
  rds := h.rds.ext hx
  sgs := h.sgs.ext hx
  ars := h.ars.ext hx
  chs := h.chs.ext hx
  cns := h.cns.ext hx
  prow := fun i x p h1 h2 => ((h.prow i x p h1 h2).ext hx).bounds (Nat.le_refl _) hx.size
  dst := h.dst
  dis := h.dis
  hot := h.hot
theorem Sx.not {hi k : Nat} {l : List CX} (h : k < hi) : ¬ Sx hi l k := fun h' => by have := h'.1; omega
/-- The rows of the points, which lie behind all others. -/
theorem ClS.prow_far (h : ClS K w0 lo hh w v0 v1 v2 v3 v4 v5 lp lr sg ar lc l) {r : Nat} (hg : w.grownBy w' (some r)) (hr : r < hh) (i : Nat) (x : CX) (p : Value) (h1 : l[i]? = some x) (h2 : x.pv = some p) :
    RowS (fun _ => False) 3 1 IntR (hh) w'.heap.size w' p x.c.points :=
  ((h.prow i x p h1 h2).far' hg (fun r' e => by injection e with e; omega) (fun _ _ h => h)).bounds (Nat.le_refl _) hg.size
theorem ClS.put_pt (h : ClS K w0 lo hh w v0 v1 v2 v3 v4 v5 lp lr sg ar lc l) {r n c k : Nat} (hv : v0 = .slice (some ⟨r, 0, none⟩) n c) (hk : k < lp.length) {us : List Value} (hu : us.length = 8) (ho : On (Sx (hh) l) (fun w => PtR w us lp[k].1) w) :
    ClS K w0 lo hh (w.setCells r (k * 8) us) v0 v1 v2 v3 v4 v5 (lp.set k (lp[k].1, false)) lr sg ar lc l := by
  obtain ⟨hlo, hhi, -⟩ := h.pts.lt r (by rw [hv]; rfl)
  have hg := grownBy_sets r us (k * 8) w
  have hn : ∀ r', some r = some r' → ¬ Sx (hh) l r' := fun r' e => by injection e with e; exact Sx.not (by omega)
  have hp := h.pts
  rw [hv] at hp
  have hp' := hp.put (j0 := 0) (us := us) (x' := (lp[k].1, false)) hk (by omega) (Sx.not (by omega)) (fun ds g1 g2 ds' g3 g4 g5 => by
    have : ds' = us := by
      apply List.ext_getElem?
      intro j
      rcases Nat.lt_or_ge j us.length with h6 | h6
      · rw [List.getElem?_eq_getElem h6]
        have := g5 j _ (List.getElem?_eq_getElem h6)
        rwa [Nat.zero_add] at this
      · rw [List.getElem?_eq_none h6, List.getElem?_eq_none (by omega)]
    rw [this]; exact ho)
  rw [Nat.add_zero, ← hv] at hp'
  exact ⟨by rw [size_sets]; exact h.hi, hp', h.rds.far hg (fun r' e hb => h.dst 0 1 _ _ r' (by decide) rfl rfl (by rw [hv]; exact e) hb) hn, h.sgs.far hg (fun r' e hb => h.dst 0 2 _ _ r' (by decide) rfl rfl (by rw [hv]; exact e) hb) hn, h.ars.far hg (fun r' e hb => h.dst 0 3 _ _ r' (by decide) rfl rfl (by rw [hv]; exact e) hb) hn, h.chs.far hg (fun r' e hb => h.dst 0 4 _ _ r' (by decide) rfl rfl (by rw [hv]; exact e) hb) hn, h.cns.far hg (fun r' e hb => h.dst 0 5 _ _ r' (by decide) rfl rfl (by rw [hv]; exact e) hb) hn, h.prow_far hg (by omega), h.dst, h.dis, h.hot⟩
theorem ClS.put_rd (h : ClS K w0 lo hh w v0 v1 v2 v3 v4 v5 lp lr sg ar lc l) {r n c k : Nat} (hv : v1 = .slice (some ⟨r, 0, none⟩) n c) (hk : k < lr.length) {a b : Bool} {u u' : Value} (ha : a = lr[k].1.radius.num.neg) (hb : b = lr[k].1.radius.den.neg)
    (ho : On (Sx (hh) l) (fun w => Words w u lr[k].1.radius.num.mag) w) (ho' : On (Sx (hh) l) (fun w => Words w u' lr[k].1.radius.den.mag) w) :
    ClS K w0 lo hh (w.setCells r (k * 5 + 1) [.bool a, u, .bool b, u']) v0 v1 v2 v3 v4 v5 lp (lr.set k (lr[k].1, false)) sg ar lc l := by
  obtain ⟨hlo, hhi, -⟩ := h.rds.lt r (by rw [hv]; rfl)
  have hg := grownBy_sets r [.bool a, u, .bool b, u'] (k * 5 + 1) w
  have hn : ∀ r', some r = some r' → ¬ Sx (hh) l r' := fun r' e => by injection e with e; exact Sx.not (by omega)
  have hp := h.rds
  rw [hv] at hp
  have hp' := hp.put (j0 := 1) (us := [.bool a, u, .bool b, u']) (x' := (lr[k].1, false)) hk (by simp) (Sx.not (by omega)) (fun ds g1 g2 ds' g3 g4 g5 => by
    have e0 : ds'[0]? = some (.int .i64 lr[k].1.center) := by
      rw [g4 0 (by omega)]
      have := g2.out
      unfold Fl at this
      split at this
      · obtain ⟨_, _, e, -⟩ := this; rw [e]; rfl
      · obtain ⟨_, _, e, -⟩ := this; rw [e]; rfl
    have e1 := g5 0 _ rfl
    have e2 := g5 1 _ rfl
    have e3 := g5 2 _ rfl
    have e4 := g5 3 _ rfl
    have : ds' = [.int .i64 lr[k].1.center, .bool a, u, .bool b, u'] := by
      match ds', g3 with
      | [x0, x1, x2, x3, x4], _ => simp at e0 e1 e2 e3 e4; rw [e0, e1, e2, e3, e4]
    rw [this, ha, hb]
    exact fun w'' hk' => ⟨u, u', rfl, ho w'' hk', ho' w'' hk'⟩)
  rw [← hv] at hp'
  exact ⟨by rw [size_sets]; exact h.hi, h.pts.far hg (fun r' e hb => h.dst 1 0 _ _ r' (by decide) rfl rfl (by rw [hv]; exact e) hb) hn, hp', h.sgs.far hg (fun r' e hb => h.dst 1 2 _ _ r' (by decide) rfl rfl (by rw [hv]; exact e) hb) hn, h.ars.far hg (fun r' e hb => h.dst 1 3 _ _ r' (by decide) rfl rfl (by rw [hv]; exact e) hb) hn, h.chs.far hg (fun r' e hb => h.dst 1 4 _ _ r' (by decide) rfl rfl (by rw [hv]; exact e) hb) hn, h.cns.far hg (fun r' e hb => h.dst 1 5 _ _ r' (by decide) rfl rfl (by rw [hv]; exact e) hb) hn, h.prow_far hg (by omega), h.dst, h.dis, h.hot⟩
theorem ClS.put_ch (h : ClS K w0 lo hh w v0 v1 v2 v3 v4 v5 lp lr sg ar lc l) {r n c k : Nat} (hv : v4 = .slice (some ⟨r, 0, none⟩) n c) (hk : k < lc.length) {u : Value} (ho : On (Sx (hh) l) (fun w => ArrAt 3 PcR w u lc[k].1) w) :
    ClS K w0 lo hh (w.setCells r k [u]) v0 v1 v2 v3 v4 v5 lp lr sg ar (lc.set k (lc[k].1, false)) l := by
  obtain ⟨hlo, hhi, -⟩ := h.chs.lt r (by rw [hv]; rfl)
  have hg := grownBy_sets r [u] k w
  have hn : ∀ r', some r = some r' → ¬ Sx (hh) l r' := fun r' e => by injection e with e; exact Sx.not (by omega)
  have hp := h.chs
  rw [hv] at hp
  have hp' := hp.put (j0 := 0) (us := [u]) (x' := (lc[k].1, false)) hk (by simp) (Sx.not (by omega)) (fun ds g1 g2 ds' g3 g4 g5 => by
    have e1 := g5 0 _ rfl
    have : ds' = [u] := by
      match ds', g3 with
      | [x0], _ => simp at e1; rw [e1]
    rw [this]
    exact fun w'' hk' => ⟨u, rfl, ho w'' hk'⟩)
  rw [Nat.mul_one, Nat.add_zero, ← hv] at hp'
  exact ⟨by rw [size_sets]; exact h.hi, h.pts.far hg (fun r' e hb => h.dst 4 0 _ _ r' (by decide) rfl rfl (by rw [hv]; exact e) hb) hn, h.rds.far hg (fun r' e hb => h.dst 4 1 _ _ r' (by decide) rfl rfl (by rw [hv]; exact e) hb) hn, h.sgs.far hg (fun r' e hb => h.dst 4 2 _ _ r' (by decide) rfl rfl (by rw [hv]; exact e) hb) hn, h.ars.far hg (fun r' e hb => h.dst 4 3 _ _ r' (by decide) rfl rfl (by rw [hv]; exact e) hb) hn, hp', h.cns.far hg (fun r' e hb => h.dst 4 5 _ _ r' (by decide) rfl rfl (by rw [hv]; exact e) hb) hn, h.prow_far hg (by omega), h.dst, h.dis, h.hot⟩
theorem mem_of_getElem? {α : Type} {l : List α} {i : Nat} {x : α} (h : l[i]? = some x) : x ∈ l := List.mem_of_getElem? h
/-- The rows of a constraint are laid: its points and circles are copied, its values are about to be. -/
theorem ClS.put_cn (h : ClS K w0 lo hh w v0 v1 v2 v3 v4 v5 lp lr sg ar lc l) (hx : Ext w w') {r n c k : Nat} (hv : v5 = .slice (some ⟨r, 0, none⟩) n c) (hk : k < l.length) {pv cv vv : Value}
    (hp : RowS (fun _ => False) 3 1 IntR w.heap.size w'.heap.size w' pv l[k].c.points) (hvf : ∀ b, vv.ownBlock = some b → w.heap.size ≤ b) (hpv : ∀ b, pv.ownBlock = some b → vv.ownBlock ≠ some b)
    (hn : ∀ (i : Nat) x, l[i]? = some x → x.vv = none) (hn' : l[k].pv = none)
    (ho : On (Sx (hh) (l.set k ⟨l[k].c, some pv, some vv⟩)) (fun w => Ints w cv l[k].c.circles) w') :
    ClS K w0 lo hh (w'.setCells r (k * 5 + 1) [pv, cv, vv]) v0 v1 v2 v3 v4 v5 lp lr sg ar lc (l.set k ⟨l[k].c, some pv, some vv⟩) := by
  obtain ⟨hlo, hhi, hrs⟩ := h.cns.lt r (by rw [hv]; rfl)
  have hpl := hp.lt
  have hhi6 := h.hi
  -- what does not lie behind w depends on no new row
  have hS : ∀ j, j < w.heap.size → Sx (hh) l j → Sx (hh) (l.set k ⟨l[k].c, some pv, some vv⟩) j := by
    intro j hj hs
    refine ⟨hs.1, fun x hx' => ?_⟩
    rcases List.mem_or_eq_of_mem_set hx' with h6 | h6
    · exact hs.2 x h6
    · subst h6
      refine ⟨fun p e e' => ?_, fun q e e' => ?_⟩
      · injection e with e; subst e
        have := (hpl j e').1; omega
      · injection e with e; subst e
        have := hvf j e'; omega
  have hg := grownBy_sets r [pv, cv, vv] (k * 5 + 1) w'
  have hn6 : ∀ r', some r = some r' → ¬ Sx (hh) (l.set k ⟨l[k].c, some pv, some vv⟩) r' := fun r' e => by injection e with e; exact Sx.not (by omega)
  have hc := (h.cns.mono hS).ext hx
  rw [hv] at hc
  have hc' := hc.put (j0 := 1) (us := [pv, cv, vv]) (x' := ⟨l[k].c, some pv, some vv⟩) hk (by simp) (Sx.not (by omega)) (fun ds g1 g2 ds' g3 g4 g5 => by
    obtain ⟨pv0, cv0, vv0, e, -⟩ := g2.out
    have e0 := g4 0 (by omega)
    have e4 := g4 4 (by simp)
    rw [e] at e0 e4
    have e1 := g5 0 _ rfl
    have e2 := g5 1 _ rfl
    have e3 := g5 2 _ rfl
    have : ds' = [.int .i64 l[k].c.kind, pv, cv, vv, .int .i64 l[k].c.side] := by
      match ds', g3 with
      | [x0, x1, x2, x3, x4], _ => simp at e0 e1 e2 e3 e4; rw [e0, e1, e2, e3, e4]
    rw [this]
    exact fun w'' hk' => ⟨pv, cv, vv, rfl, rfl, ho w'' hk', rfl⟩)
  rw [← hv] at hc'
  have get : ∀ (i : Nat) x, (l.set k ⟨l[k].c, some pv, some vv⟩)[i]? = some x → (i = k ∧ x = ⟨l[k].c, some pv, some vv⟩) ∨ (i ≠ k ∧ l[i]? = some x) := by
    intro i x hi
    by_cases hik : i = k
    · subst hik
      rw [List.getElem?_set_self hk] at hi
      injection hi with hi
      exact .inl ⟨rfl, hi.symm⟩
    · rw [List.getElem?_set_ne (by omega)] at hi
      exact .inr ⟨hik, hi⟩
  refine ⟨by rw [size_sets]; exact Nat.le_trans h.hi hx.size, ((h.pts.mono hS).ext hx).far hg (fun r' e hb => h.dst 5 0 _ _ r' (by decide) rfl rfl (by rw [hv]; exact e) hb) hn6, ((h.rds.mono hS).ext hx).far hg (fun r' e hb => h.dst 5 1 _ _ r' (by decide) rfl rfl (by rw [hv]; exact e) hb) hn6, ((h.sgs.mono hS).ext hx).far hg (fun r' e hb => h.dst 5 2 _ _ r' (by decide) rfl rfl (by rw [hv]; exact e) hb) hn6, ((h.ars.mono hS).ext hx).far hg (fun r' e hb => h.dst 5 3 _ _ r' (by decide) rfl rfl (by rw [hv]; exact e) hb) hn6, ((h.chs.mono hS).ext hx).far hg (fun r' e hb => h.dst 5 4 _ _ r' (by decide) rfl rfl (by rw [hv]; exact e) hb) hn6, hc', ?_, h.dst, ?_, ?_⟩
  · intro i x p hi hp'
    rcases get i x hi with ⟨-, rfl⟩ | ⟨-, gi⟩
    · injection hp' with hp'
      subst hp'
      exact (hp.far hg (fun r' e hb => by injection e with e; have := (hpl r' hb).1; omega) (fun _ _ h => h)).bounds h.hi hg.size
    · exact (h.ext hx).prow_far hg (by omega) i x p gi hp'
  · intro i j x y p q b hij hi hj hp' hq hb
    rcases get i x hi with ⟨rfl, rfl⟩ | ⟨hik, gi⟩
    · rcases get j y hj with ⟨rfl, rfl⟩ | ⟨hjk, gj⟩
      · omega
      · injection hp' with hp'
        subst hp'
        intro e
        have h6 := (hpl b hb).1
        have h7 := (h.prow j y q gj hq).lt b e
        omega
    · rcases get j y hj with ⟨rfl, rfl⟩ | ⟨hjk, gj⟩
      · injection hq with hq
        subst hq
        intro e
        have h6 := (hpl b e).1
        have h7 := (h.prow i x p gi hp').lt b hb
        omega
      · exact h.dis i j x y p q b hij gi gj hp' hq hb
  · intro i j x y p q b hi hj hp' hq hb
    rcases get j y hj with ⟨rfl, rfl⟩ | ⟨hjk, gj⟩
    · injection hq with hq
      subst hq
      rcases get i x hi with ⟨-, rfl⟩ | ⟨hik, gi⟩
      · injection hp' with hp'
        subst hp'
        exact hpv b hb
      · intro e
        have h6 := hvf b e
        have h7 := (h.prow i x p gi hp').lt b hb
        omega
    · rw [hn j y gj] at hq; cases hq
/-- A value of the constraint whose values are being copied is stored. -/
theorem ClS.far_hot (h : ClS K w0 lo hh w v0 v1 v2 v3 v4 v5 lp lr sg ar lc l) {k q : Nat} {x : CX} {vv : Value} (hk : l[k]? = some x) (hv : x.vv = some vv) (hq : vv.ownBlock = some q) (hm : hh ≤ q) (hg : w.grownBy w' (some q)) :
    ClS K w0 lo hh w' v0 v1 v2 v3 v4 v5 lp lr sg ar lc l := by
  have hn6 : ∀ r', some q = some r' → ¬ Sx (hh) l r' := fun r' e hs => by injection e with e; subst e; exact (hs.2 x (mem_of_getElem? hk)).2 vv hv hq
  have f6 : ∀ {lo : Nat}, ∀ r', some q = some r' → r' < lo ∨ hh ≤ r' := fun r' e => by injection e with e; omega
  exact ⟨Nat.le_trans h.hi hg.size, h.pts.far' hg f6 hn6, h.rds.far' hg f6 hn6, h.sgs.far' hg f6 hn6, h.ars.far' hg f6 hn6, h.chs.far' hg f6 hn6, h.cns.far' hg f6 hn6,
    fun i y p hi hp => ((h.prow i y p hi hp).far hg (fun r' e hb => by injection e with e; subst e; exact h.hot i k y x p vv q hi hk hp hv hb hq) (fun _ _ h => h)).bounds (Nat.le_refl _) hg.size, h.dst, h.dis, h.hot⟩
/-- The values are copied. -/
theorem ClS.cool (h : ClS K w0 lo hh w v0 v1 v2 v3 v4 v5 lp lr sg ar lc l) {k : Nat} {c : CI} {pv vv : Value} (hk : l[k]? = some ⟨c, some pv, some vv⟩) (ho : On (Sx (hh) (l.set k ⟨c, some pv, none⟩)) (fun w => ArrAt 7 (ExprR K) w vv c.values) w) :
    ClS K w0 lo hh w v0 v1 v2 v3 v4 v5 lp lr sg ar lc (l.set k ⟨c, some pv, none⟩) := by
  have hkl := (List.getElem?_eq_some_iff.1 hk).1
  have get : ∀ (i : Nat) x, (l.set k ⟨c, some pv, none⟩)[i]? = some x → (i = k ∧ x = ⟨c, some pv, none⟩) ∨ (i ≠ k ∧ l[i]? = some x) := by
    intro i x hi
    by_cases hik : i = k
    · subst hik
      rw [List.getElem?_set_self hkl] at hi
      injection hi with hi
      exact .inl ⟨rfl, hi.symm⟩
    · rw [List.getElem?_set_ne (by omega)] at hi
      exact .inr ⟨hik, hi⟩
  have get2 : ∀ (i : Nat) x, (l.set k ⟨c, some pv, none⟩)[i]? = some x → ∃ y, l[i]? = some y ∧ y.c = x.c ∧ y.pv = x.pv ∧ (x.vv = none ∨ y = x) := by
    intro i x hi
    rcases get i x hi with ⟨rfl, rfl⟩ | ⟨-, hi⟩
    · exact ⟨_, hk, rfl, rfl, .inl rfl⟩
    · exact ⟨x, hi, rfl, rfl, .inr rfl⟩
  have hS : ∀ j, j < w.heap.size → Sx (hh) l j → Sx (hh) (l.set k ⟨c, some pv, none⟩) j := by
    intro j _ hs
    refine ⟨hs.1, fun x hx' => ?_⟩
    rcases List.mem_or_eq_of_mem_set hx' with h6 | h6
    · exact hs.2 x h6
    · subst h6
      exact ⟨fun p e => (hs.2 _ (mem_of_getElem? hk)).1 p e, fun q e => by cases e⟩
  refine ⟨h.hi, h.pts.mono hS, h.rds.mono hS, h.sgs.mono hS, h.ars.mono hS, h.chs.mono hS, ?_, ?_, h.dst, ?_, ?_⟩
  · refine h.cns.re (by rw [List.length_set]) (fun i x x' hi hi' ds hR => ?_)
    rcases get i x' hi' with ⟨rfl, rfl⟩ | ⟨-, hi'⟩
    · rw [hk] at hi
      injection hi with hi
      subst hi
      intro w'' hk'
      obtain ⟨p', c', q', e, e1, e2, e3⟩ := hR w'' (hk'.mono hS)
      exact ⟨p', c', q', e, e1, e2, by rw [show q' = vv from e3]; exact ho w'' hk'⟩
    · rw [hi] at hi'
      injection hi' with hi'
      subst hi'
      exact hR.mono hS
  · intro i x p hi hp
    obtain ⟨y, g1, g2, g3, -⟩ := get2 i x hi
    rw [← g2]
    exact h.prow i y p g1 (g3.trans hp)
  · intro i j x y p q b hij hi hj hp hq hb
    obtain ⟨x', g1, g2, g3, -⟩ := get2 i x hi
    obtain ⟨y', k1, k2, k3, -⟩ := get2 j y hj
    exact h.dis i j x' y' p q b hij g1 k1 (g3.trans hp) (k3.trans hq) hb
  · intro i j x y p q b hi hj hp hq hb
    obtain ⟨x', g1, g2, g3, -⟩ := get2 i x hi
    obtain ⟨y', k1, k2, k3, k4⟩ := get2 j y hj
    rcases k4 with k4 | k4
    · rw [k4] at hq; cases hq
    · subst k4
      exact h.hot i j x' y' p q b g1 k1 (g3.trans hp) hq hb
end
end Go.Proofs.YtonleohlplkglaaGreatDoor

/- cloneExpr of the program's sketch. -/
namespace Go.Proofs.YtonleohlplkglaaGreatDoor
open Go Go.RowKit

/-- A block of the call's own, which may be stored into. -/
def BoxF (w : World) (g : Nat) (cs : List Value) : Prop := CellsAt w g cs ∧ ∀ j, w.frozen? ⟨g, j, none⟩ = false
theorem BoxF.new (w : World) (cs : List Value) (T : TypeId) : BoxF (w.alloc (.cells cs.toArray T)) w.heap.size cs := ⟨CellsAt.new _ _ _, fun j => by simp [go_sem]⟩
theorem BoxF.ext {w w' : World} {g : Nat} {cs : List Value} (h : BoxF w g cs) (hx : Ext w w') : BoxF w' g cs := ⟨h.1.ext hx, fun j => (Below.frozen hx h.1.1).trans (h.2 j)⟩
theorem BoxF.grown {w w' : World} {g : Nat} {cs : List Value} {row : Option Nat} (h : BoxF w g cs) (hg : w.grownBy w' row) (hr : row ≠ some g) : BoxF w' g cs :=
  ⟨⟨Nat.lt_of_lt_of_le h.1.1 hg.size, fun i v hi => (World.cell?_of_block (hg.block g h.1.1 (fun e => hr e.symm))).trans (h.1.2 i v hi)⟩, fun j => (World.frozen?_of_block (hg.block g h.1.1 (fun e => hr e.symm))).trans (h.2 j)⟩
theorem BoxF.set_ {w : World} {g i : Nat} {cs : List Value} (h : BoxF w g cs) (u : Value) : BoxF (w.setCell ⟨g, i, none⟩ u) g (cs.set i u) := by
  refine ⟨⟨by simpa [World.setCell] using h.1.1, fun j v hj => ?_⟩, fun j => by rw [World.frozen?_setCell]; exact h.2 j⟩
  by_cases hij : i = j
  · subst hij
    have hl := (List.getElem?_eq_some_iff.1 hj).1
    rw [List.length_set] at hl
    rw [List.getElem?_set_self hl] at hj
    injection hj with hj
    subst hj
    exact World.cell?_setCell_same _ _ _ (h.1.2 i _ (List.getElem?_eq_getElem hl))
  · rw [List.getElem?_set_ne hij] at hj
    rw [cell_set_off hij]
    exact h.1.2 j v hj
theorem BoxF.sets {g : Nat} : ∀ (us : List Value) (o : Nat) (w : World) (cs : List Value), BoxF w g cs → o + us.length ≤ cs.length → BoxF (w.setCells g o us) g (cs.take o ++ us ++ cs.drop (o + us.length))
  | [], o, w, cs, h, _ => by
    have e : cs.take o ++ [] ++ cs.drop (o + ([] : List Value).length) = cs := by simp
    rw [e]; exact h
  | u :: us, o, w, cs, h, hl => by
    have := BoxF.sets us (o + 1) _ _ (h.set_ (i := o) u) (by simp at hl ⊢; omega)
    rw [World.setCells]
    have e : (cs.set o u).take (o + 1) ++ us ++ (cs.set o u).drop (o + 1 + us.length) = cs.take o ++ (u :: us) ++ cs.drop (o + (u :: us).length) := by
      have hlo : o < cs.length := by simp at hl; omega
      rw [List.take_succ_eq_append_getElem (by rw [List.length_set]; exact hlo), List.take_set, List.getElem_set_self, List.drop_set_of_lt (by omega)]
      rw [List.set_eq_of_length_le (by rw [List.length_take]; omega)]
      simp [Nat.add_assoc, Nat.add_comm 1]
    rw [e] at this
    exact this

theorem smallE_parts {K : Nat} {e : EI} (h : smallE (K + 1) e) : e.value.num.mag.length ≤ 1000000 ∧ e.value.den.mag.length ≤ 1000000 ∧ e.args.length ≤ 1000000 ∧ ∀ a ∈ e.args, smallE K a := by
  obtain ⟨h1, h2, h3, h4, h5⟩ := h
  refine ⟨by omega, by omega, by omega, h5⟩

theorem sliceAt_arr {α : Type} {sz : Nat} {R : World → List Value → α → Prop} {w : World} {v : Value} {xs : List α} (h : SliceAt sz R w v xs) (hl : xs.length ≤ 1000000) : ArrAt sz R w v xs := by
  obtain ⟨A, c, hv, h1, h2, h3⟩ := h
  exact ⟨A, c, hv, h1, by omega, h3⟩
theorem RowS.sliceAt {α : Type} {S S' : Nat → Prop} {T sz lo hi : Nat} {R : World → List Value → α → Prop} {w : World} {v : Value} {l : List α} (h : RowS S T sz R lo hi w v l) (hl : l.length ≤ 1000000) (hS : ∀ r, v.ownBlock = some r → S' r) (hSS : ∀ k, k < w.heap.size → S k → S' k) : On S' (fun w => SliceAt sz R w v l) w := by
  have hc : ∀ A c, v = .slice A l.length c → c ≤ maxLen := by
    intro A c hv
    obtain ⟨xs, ho, -⟩ := h
    rcases ho.2 with ⟨rfl, hn⟩ | ⟨g, cap, cur, rfl, hb, hg, hcap, hcm, hcs, htk⟩
    · injection hv with _ _ e; rw [← e]; exact Nat.zero_le _
    · injection hv with _ _ e; rw [← e]; exact hcm
  refine (h.arr hl hS hSS).imp fun w' _ ⟨A, c, hv, h1, h2, h3⟩ => ⟨A, c, hv, h1, hc A c hv, h3⟩

/-- From b on, but for a slice's own block. -/
def Sq (b : Nat) (v : Value) (k : Nat) : Prop := b ≤ k ∧ v.ownBlock ≠ some k
/-- The state of cloneExpr behind its two clones. -/
structure CEs (K : Nat) (w wr : World) (q : QI) (op : Int) (nm : ByteArray) (A1 A2 A : Option Addr) (c1 c2 c n : Nat) (args : List EI) (lx : List (EI × Bool)) : Prop where
  box : BoxF wr w.heap.size [.int .i64 op, .bool q.num.neg, .slice A1 q.num.mag.length c1, .bool q.den.neg, .slice A2 q.den.mag.length c2, .string nm, .slice A n c]
  res : BoxF wr (w.heap.size + 1) [.int .i64 0, .bool false, .slice none 0 0, .bool false, .slice none 0 0, .string ⟨#[]⟩, .slice none 0 0]
  num : On (Sq (w.heap.size + 2) (.slice A n c)) (fun w => Words w (.slice A1 q.num.mag.length c1) q.num.mag) wr
  den : On (Sq (w.heap.size + 2) (.slice A n c)) (fun w => Words w (.slice A2 q.den.mag.length c2) q.den.mag) wr
  row : RowS (Sq (w.heap.size + 2) (.slice A n c)) 69 7 (Fl (ExprR K) w) (w.heap.size + 2) wr.heap.size wr (.slice A n c) lx
  ext : Ext w wr
  len : lx.map (·.1) = args
theorem set_fst {α : Type} {lx : List (α × Bool)} {i : Nat} (hi : i < lx.length) : (lx.set i (lx[i].1, false)).map (·.1) = lx.map (·.1) := by
  rw [List.map_set]
  have : lx[i].1 = (lx.map (·.1))[i]'(by simpa using hi) := by simp
  rw [this, List.set_getElem_self]
theorem CEs.move {K : Nat} {w wr w3 : World} {q : QI} {op : Int} {nm : ByteArray} {A1 A2 A : Option Addr} {c1 c2 c n : Nat} {args : List EI} {lx : List (EI × Bool)} (h : CEs K w wr q op nm A1 A2 A c1 c2 c n args lx) (hx : Ext wr w3) : CEs K w w3 q op nm A1 A2 A c1 c2 c n args lx :=
  ⟨h.box.ext hx, h.res.ext hx, h.num.ext hx, h.den.ext hx, (h.row.ext hx).bounds (Nat.le_refl _) hx.size, h.ext.trans hx, h.len⟩
theorem CEs.put {K : Nat} {w wr w3 : World} {q : QI} {op : Int} {nm : ByteArray} {A1 A2 : Option Addr} {c1 c2 c n r i : Nat} {args : List EI} {lx : List (EI × Bool)} (h : CEs K w wr q op nm A1 A2 (some ⟨r, 0, none⟩) c1 c2 c n args lx) (hx : Ext wr w3) (hi : i < lx.length) {us : List Value} (hu : us.length = 7)
    (ho : On (From wr.heap.size) (fun w => ExprR K w us lx[i].1) w3) : CEs K w (w3.setCells r (i * 7) us) q op nm A1 A2 (some ⟨r, 0, none⟩) c1 c2 c n args (lx.set i (lx[i].1, false)) := by
  obtain ⟨hlo, hhi, hlt⟩ := h.row.lt r rfl
  have hg := grownBy_sets r us (i * 7) w3
  have hS : ¬ Sq (w.heap.size + 2) (.slice (some ⟨r, 0, none⟩) n c) r := fun h => h.2 rfl
  have hn : ∀ r', some r = some r' → ¬ Sq (w.heap.size + 2) (.slice (some ⟨r, 0, none⟩) n c) r' := fun r' e => by injection e with e; subst e; exact hS
  have h3 := h.move hx
  have hp := h3.row.put (j0 := 0) (us := us) (x' := (lx[i].1, false)) hi (by omega) hS (fun ds g1 g2 ds' g3 g4 g5 => by
    have : ds' = us := by
      apply List.ext_getElem?
      intro j
      rcases Nat.lt_or_ge j us.length with h6 | h6
      · rw [List.getElem?_eq_getElem h6]
        have := g5 j _ (List.getElem?_eq_getElem h6)
        rwa [Nat.zero_add] at this
      · rw [List.getElem?_eq_none h6, List.getElem?_eq_none (by omega)]
    rw [this]
    exact (ho.mono (fun k _ hk => ⟨by have : wr.heap.size ≤ k := hk; omega, fun e => absurd (show r = k from Option.some.inj e) (by have : wr.heap.size ≤ k := hk; omega)⟩)).imp (fun _ _ h => h))
  rw [Nat.add_zero] at hp
  exact ⟨h3.box.grown hg (by simp; omega), h3.res.grown hg (by simp; omega), h3.num.keep (grownBy.keep hg hn), h3.den.keep (grownBy.keep hg hn), hp.bounds (Nat.le_refl _) hg.size, Ext.sets r (by omega) _ _ _ h3.ext, (set_fst hi).trans h.len⟩
/-- What the copy reads as. -/
theorem CEs.done {K : Nat} {w wr : World} {q : QI} {op : Int} {nm : ByteArray} {A1 A2 A : Option Addr} {c1 c2 c n : Nat} {args : List EI} {lx : List (EI × Bool)} (h : CEs K w wr q op nm A1 A2 A c1 c2 c n args lx) (hf : ∀ (j : Nat) x, lx[j]? = some x → x.2 = false) (hl : args.length ≤ 1000000) (us : List Value) :
    On (From w.heap.size) (fun w => Words w (.slice A1 q.num.mag.length c1) q.num.mag) (wr.setCells (w.heap.size + 1) 0 us) ∧ On (From w.heap.size) (fun w => Words w (.slice A2 q.den.mag.length c2) q.den.mag) (wr.setCells (w.heap.size + 1) 0 us) ∧ On (From w.heap.size) (fun w => SliceAt 7 (ExprR K) w (.slice A n c) args) (wr.setCells (w.heap.size + 1) 0 us) := by
  have hg := grownBy_sets (w.heap.size + 1) us 0 wr
  have hn : ∀ r', some (w.heap.size + 1) = some r' → ¬ Sq (w.heap.size + 2) (.slice A n c) r' := fun r' e h => by injection e with e; have := h.1; omega
  have hm : ∀ k, k < (wr.setCells (w.heap.size + 1) 0 us).heap.size → Sq (w.heap.size + 2) (.slice A n c) k → From w.heap.size k := fun k _ hk => Nat.le_trans (Nat.le_add_right _ _) hk.1
  have h1 : RowS (Sq (w.heap.size + 2) (.slice A n c)) 69 7 (ExprR K) (w.heap.size + 2) wr.heap.size wr (.slice A n c) args := h.row.re (by rw [← h.len, List.length_map]) (fun k x x' hx hx' ds hR => by
    rw [← h.len, List.getElem?_map, hx] at hx'
    injection hx' with hx'
    subst hx'
    exact hR.imp (fun w'' _ hh => by unfold Fl at hh; rw [hf k x hx] at hh; exact hh))
  have h2 := h1.far hg (fun r' e hb => by injection e with e; have := (h1.lt r' hb).1; omega) hn
  exact ⟨(h.num.keep (grownBy.keep hg hn)).mono hm, (h.den.keep (grownBy.keep hg hn)).mono hm, h2.sliceAt hl (fun r hr => by have := (h2.lt r hr).1; exact Nat.le_trans (Nat.le_add_right _ _) this) hm⟩
end Go.Proofs.YtonleohlplkglaaGreatDoor

/- cloneExpr of the program's sketch: the walk. -/
namespace Go.Proofs.YtonleohlplkglaaGreatDoor
open Go Go.RowKit

theorem ExprR.shape {K : Nat} {w : World} {cs : List Value} {e : EI} (h : ExprR K w cs e) : ∃ op b1 A1 n1 c1 b2 A2 n2 c2 nm A n c, cs = [.int .i64 op, .bool b1, .slice A1 n1 c1, .bool b2, .slice A2 n2 c2, .string nm, .slice A n c] := by
  cases K with
  | zero => exact h.elim
  | succ K =>
    obtain ⟨u, v, sl, rfl, hu, hv, A, c, rfl, -⟩ := h
    obtain ⟨A1, c1, rfl, -⟩ := hu.form
    obtain ⟨A2, c2, rfl, -⟩ := hv.form
    exact ⟨_, _, _, _, _, _, _, _, _, _, _, _, _, rfl⟩
/-- What a copy of an expression reads as. -/
def ExprOn (K : Nat) (S : Nat → Prop) (e : EI) (r : Value) (w' : World) : Prop := ∃ cs' : List Value, r = .agg cs'.toArray ∧ cs'.length = 7 ∧ On S (fun w => ExprR K w cs' e) w'

set_option maxRecDepth 100000 in
set_option maxHeartbeats 3200000 in
theorem sketch_cloneExpr (K : Nat) : ∀ {e : EI} {cs : List Value} {w : World}, ExprR K w cs e → smallE K e →
    Calls Tryz.prog 122 #[.agg cs.toArray] w (Ret w (ExprOn K (From w.heap.size) e)) := by
  induction K with
  | zero => intro e cs w h _; exact h.elim
  | succ K ih =>
    intro e cs w h hsm
    obtain ⟨u, v, sl, rfl, hu, hv, hsl⟩ := h
    obtain ⟨hq1, hq2, hql, hqa⟩ := smallE_parts hsm
    have HAR := Lib.hid (sliceAt_arr hsl hql)
    have HCR := Lib.hid (fun w1 (hx : Ext w w1) => sketch_cloneRat (q := e.value) (hu.ext hx) (hv.ext hx) hq1 hq2)
    obtain ⟨A, c, rfl, hl, hm, -⟩ := hsl
    obtain ⟨A1, c1, rfl, -, -⟩ := hu.form
    obtain ⟨A2, c2, rfl, -, -⟩ := hv.form
    have HCE := Lib.hid (fun w1 (hx : Ext w w1) => clone_Expr (α := EI) (R0 := ExprR K w) (HAR.out.old hx) (one_ex w) hql)
    have HIH := Lib.hid (fun w1 (x : EI) (ds : List Value) (hm : x ∈ e.args) (h1 : ExprR K w1 ds x) => ih h1 (hqa x hm))
    have HL := Lib.hid hql
    have HFIN : Hid (∀ r w', (∃ u v sl, r = Value.agg #[.int .i64 e.op, .bool e.value.num.neg, u, .bool e.value.den.neg, v, .string e.name, sl] ∧ On (From w.heap.size) (fun w => Words w u e.value.num.mag) w' ∧ On (From w.heap.size) (fun w => Words w v e.value.den.mag) w' ∧ On (From w.heap.size) (fun w => SliceAt 7 (ExprR K) w sl e.args) w') → ExprOn (K + 1) (From w.heap.size) e r w') := by
      rintro r w' ⟨u, v, sl, rfl, g1, g2, g3⟩
      exact ⟨[.int .i64 e.op, .bool e.value.num.neg, u, .bool e.value.den.neg, v, .string e.name, sl], rfl, rfl, fun w'' hk => ⟨u, v, sl, rfl, g1 w'' hk, g2 w'' hk, g3 w'' hk⟩⟩
    clear hu hv hqa hsm ih hl hm hq1 hq2 hql
    generalize ExprOn (K + 1) (From w.heap.size) e = RO at *
    generalize e.value = q at *
    generalize e.op = op at *
    generalize e.name = nm at *
    generalize e.args = args at *
    obtain ⟨W, hW, hb1, hb2, hx⟩ := boxes (w := w) (cs := [.int .i64 op, .bool q.num.neg, .slice A1 q.num.mag.length c1, .bool q.den.neg, .slice A2 q.den.mag.length c2, .string nm, .slice A args.length c]) (ds := [.int .i64 0, .bool false, .slice none 0 0, .bool false, .slice none 0 0, .string ⟨#[]⟩, .slice none 0 0]) (T := 69)
    have HB1 : Hid (BoxF W w.heap.size [.int .i64 op, .bool q.num.neg, .slice A1 q.num.mag.length c1, .bool q.den.neg, .slice A2 q.den.mag.length c2, .string nm, .slice A args.length c]) := ⟨hb1, fun j => by rw [← hW]; simp [go_sem]⟩
    have HB2 : Hid (BoxF W (w.heap.size + 1) [.int .i64 0, .bool false, .slice none 0 0, .bool false, .slice none 0 0, .string ⟨#[]⟩, .slice none 0 0]) := ⟨hb2, fun j => by rw [← hW]; simp [go_sem]⟩
    have HZ : Hid (w.heap.size + 2 ≤ W.heap.size) := by show _ ≤ _; rw [← hW]; simp
    have HW := Lib.hid hW
    have HX := Lib.hid hx
    clear hW hb1 hb2 hx
    go_enter Tryz.func122, Tryz.ntmps122
    go_upto_region 1 with fail
    rw [show (w.alloc (.cells #[.int .i64 op, .bool q.num.neg, .slice A1 q.num.mag.length c1, .bool q.den.neg, .slice A2 q.den.mag.length c2, .string nm, .slice A args.length c] 69)).alloc (.cells #[.int .i64 0, .bool false, .slice none 0 0, .bool false, .slice none 0 0, .string ⟨#[]⟩, .slice none 0 0] 69) = W from HW.out]
    obtain ⟨y0, y1, y2, y3, y4, y5, y6⟩ := HB1.out.1.seven
    go_wp2_with fail
    refine (HCR.out _ HX.out).mono ?_
    rintro x w1 ⟨r, rfl, ⟨X1, k1, X2, k2, rfl, ho1, ho2⟩, hx1⟩
    have HO1 := Lib.hid (ho1.mono (S' := From (w.heap.size + 2)) (fun k _ hk => Nat.le_trans HZ.out hk))
    have HO2 := Lib.hid (ho2.mono (S' := From (w.heap.size + 2)) (fun k _ hk => Nat.le_trans HZ.out hk))
    clear ho1 ho2 y0 y1 y2 y3 y4 y5 y6
    have HB1' := Lib.hid (HB1.out.ext hx1)
    have HB2' := Lib.hid (HB2.out.ext hx1)
    obtain ⟨y0, y1, y2, y3, y4, y5, y6⟩ := HB1'.out.1.seven
    have f1 := HB1'.out.2 1
    have f2 := HB1'.out.2 2
    have f3 := HB1'.out.2 3
    have f4 := HB1'.out.2 4
    go_upto_region 2 with fail
    obtain ⟨W2, hW2⟩ : ∃ W2, w1.setCells w.heap.size 1 [.bool q.num.neg, .slice X1 q.num.mag.length k1, .bool q.den.neg, .slice X2 q.den.mag.length k2] = W2 := ⟨_, rfl⟩
    have HG2 := grownBy_sets w.heap.size [.bool q.num.neg, .slice X1 q.num.mag.length k1, .bool q.den.neg, .slice X2 q.den.mag.length k2] 1 w1
    rw [hW2] at HG2
    have HB3 : Hid (BoxF W2 w.heap.size [.int .i64 op, .bool q.num.neg, .slice X1 q.num.mag.length k1, .bool q.den.neg, .slice X2 q.den.mag.length k2, .string nm, .slice A args.length c]) := by rw [← hW2]; exact BoxF.sets _ 1 w1 _ HB1'.out (by simp)
    have HR3 := Lib.hid (HB2'.out.grown HG2 (by simp))
    have hfr : ∀ r, some w.heap.size = some r → ¬ From (w.heap.size + 2) r := fun r e h => by
      have e' : w.heap.size = r := by injection e
      have : w.heap.size + 2 ≤ r := h
      omega
    have HV1 := Lib.hid (HO1.out.keep (grownBy.keep HG2 hfr))
    have HV2 := Lib.hid (HO2.out.keep (grownBy.keep HG2 hfr))
    have HE2 : Hid (Ext w W2) := by rw [← hW2]; exact Ext.sets _ (Nat.le_refl _) _ _ _ (Ext.trans HX.out hx1)
    have HZ2 : Hid (w.heap.size + 2 ≤ W2.heap.size) := by rw [← hW2, size_sets]; exact Nat.le_trans HZ.out hx1.size
    rw [show (((w1.setCell ⟨w.heap.size, 1, none⟩ (.bool q.num.neg)).setCell ⟨w.heap.size, 2, none⟩ (.slice X1 q.num.mag.length k1)).setCell ⟨w.heap.size, 3, none⟩ (.bool q.den.neg)).setCell ⟨w.heap.size, 4, none⟩ (.slice X2 q.den.mag.length k2) = W2 from hW2]
    clear hW2 HG2 hfr HO1 HO2 HB1 HB2 HB1' HB2' HCR HX HZ HW hx1 y0 y1 y2 y3 y4 y5 y6 f1 f2 f3 f4
    obtain ⟨y0, y1, y2, y3, y4, y5, y6⟩ := HB3.out.1.seven
    go_wp2_with fail
    refine (HCE.out _ HE2.out).mono ?_
    rintro x w3 ⟨r, rfl, hrow, hx3⟩
    obtain ⟨Q, qc, rfl⟩ := hrow.form
    have hst : CEs K w (w3.setCell ⟨w.heap.size, 6, none⟩ (.slice Q args.length qc)) q op nm X1 X2 Q k1 k2 qc args.length args (args.map fun x => (x, true)) := by
      have hlt := hrow.lt
      have hs2 := hx3.size
      have hz2 := HZ2.out
      have hg := grownBy_sets w.heap.size [.slice Q args.length qc] 6 w3
      have hn : ∀ r', some w.heap.size = some r' → ¬ Sq (w.heap.size + 2) (.slice Q args.length qc) r' := fun r' e h => by
        have e' : w.heap.size = r' := by injection e
        have := h.1
        omega
      have hmS : ∀ k, k < W2.heap.size → From (w.heap.size + 2) k → Sq (w.heap.size + 2) (.slice Q args.length qc) k := fun k hk hs => ⟨hs, fun e => by have := (hlt k e).1; omega⟩
      have hr1 : RowS (Sq (w.heap.size + 2) (.slice Q args.length qc)) 69 7 (fun _ => ExprR K w) W2.heap.size w3.heap.size w3 (.slice Q args.length qc) args := RowS.of_const hrow (fun _ _ _ h => h) (Nat.le_refl _)
      have hr2 : RowS (Sq (w.heap.size + 2) (.slice Q args.length qc)) 69 7 (Fl (ExprR K) w) W2.heap.size w3.heap.size w3 (.slice Q args.length qc) (args.map fun x => (x, true)) := hr1.imp (fun _ _ _ h => h)
      exact ⟨(HB3.out.ext hx3).set_ _, (HR3.out.ext hx3).grown hg (by simp), ((HV1.out.mono hmS).ext hx3).keep (grownBy.keep hg hn), ((HV2.out.mono hmS).ext hx3).keep (grownBy.keep hg hn),
        (hr2.far hg (fun r' e hb => by
          have e' : w.heap.size = r' := by injection e
          have := (hlt r' hb).1
          omega) hn).bounds hz2 hg.size, (HE2.out.trans hx3).pset (Nat.le_refl _) _, by rw [List.map_map]; exact List.map_id' _⟩
    have HST := Lib.hid hst
    have f6 := (HB3.out.ext hx3).2 6
    have hb3 := (HB3.out.ext hx3).1
    clear hst hrow HB3 HR3 HV1 HV2 HE2 HZ2 HCE y0 y1 y2 y3 y4 y5 y6
    obtain ⟨y0, y1, y2, y3, y4, y5, y6⟩ := hb3.seven
    go_upto_region 3 with fail
    generalize w3.setCell ⟨w.heap.size, 6, none⟩ (.slice Q args.length qc) = W4 at *
    clear f6 hb3 y0 y1 y2 y3 y4 y5 y6 hx3
    obtain ⟨n, hn⟩ : ∃ n, args.length = n := ⟨_, rfl⟩
    have HN := Lib.hid hn
    rw [hn] at HST
    have hnb : n ≤ 1000000 := by have := HL.out; omega
    clear hn
    obtain ⟨y0, y1, y2, y3, y4, y5, y6⟩ := HST.out.box.1.seven
    go_wp2_with fail
    clear y0 y1 y2 y3 y4 y5 y6
    go_loopg [15] n (fun gk a wr => ∃ (i : Nat) (lx : List (EI × Bool)), a = .int .i64 (i : Int) ∧ i + gk = n ∧ Hid (CEs K w wr q op nm X1 X2 Q k1 k2 qc n args lx) ∧ Hid (∀ (j : Nat) x, j < i → lx[j]? = some x → x.2 = false))
    case atStart => exact ⟨0, _, rfl, by omega, HST.out, fun j x hj => absurd hj (Nat.not_lt_zero j)⟩
    case round =>
      clear HST
      obtain ⟨i, lx, rfl, hi, HS, HF⟩ := hrel
      obtain ⟨y0, y1, y2, y3, y4, y5, y6⟩ := HS.out.box.1.seven
      by_cases hlt : i < n
      · have hil : i < lx.length := by have := congrArg List.length HS.out.len; rw [List.length_map] at this; have := HN.out; omega
        obtain ⟨r, ds, rfl, hr1, hr2, hr3, -, hcap, hds, hcell, hfz, hR⟩ := HS.out.row.at_ hil
        have hmem : lx[i].1 ∈ args := by rw [← HS.out.len]; exact List.mem_map.2 ⟨lx[i], List.getElem_mem hil, rfl⟩
        have hEx : ExprR K wr ds lx[i].1 := by
          have h0 := hR.out
          unfold Fl at h0
          split at h0
          · exact ExprR.stable K _ _ _ _ HS.out.ext h0
          · exact h0
        obtain ⟨d0, d1, d2, d3, d4, d5, d6, rfl⟩ := seven_list hds
        have HRR := Lib.hid (fun w5 (hx : Ext wr w5) => HIH.out w5 lx[i].1 _ hmem (ExprR.stable K _ _ _ _ hx hEx))
        have u0 : wr.cell? ⟨r, i * 7, none⟩ = some d0 := hcell 0 _ rfl
        have u1 : wr.cell? ⟨r, i * 7 + 1, none⟩ = some d1 := hcell 1 _ rfl
        have u2 : wr.cell? ⟨r, i * 7 + 2, none⟩ = some d2 := hcell 2 _ rfl
        have u3 : wr.cell? ⟨r, i * 7 + 3, none⟩ = some d3 := hcell 3 _ rfl
        have u4 : wr.cell? ⟨r, i * 7 + 4, none⟩ = some d4 := hcell 4 _ rfl
        have u5 : wr.cell? ⟨r, i * 7 + 5, none⟩ = some d5 := hcell 5 _ rfl
        have u6 : wr.cell? ⟨r, i * 7 + 6, none⟩ = some d6 := hcell 6 _ rfl
        have HP : Hid (∀ w5, Ext wr w5 → ∀ us : List Value, us.length = 7 → On (From wr.heap.size) (fun w => ExprR K w us lx[i].1) w5 → CEs K w (w5.setCells r (i * 7) us) q op nm X1 X2 (some ⟨r, 0, none⟩) k1 k2 qc n args (lx.set i (lx[i].1, false))) := fun w5 hx us hu ho => HS.out.put hx hil hu ho
        have HF' : Hid (∀ (j : Nat) x, j < i + 1 → (lx.set i (lx[i].1, false))[j]? = some x → x.2 = false) := by
          intro j x hj hx
          by_cases hji : j = i
          · subst hji
            rw [List.getElem?_set_self hil] at hx
            injection hx with hx
            rw [← hx]
          · rw [List.getElem?_set_ne (by omega)] at hx
            exact HF.out j x (by omega) hx
        have HC5 : Hid (∀ w5, Ext wr w5 → CellsAt w5 w.heap.size [.int .i64 op, .bool q.num.neg, .slice X1 q.num.mag.length k1, .bool q.den.neg, .slice X2 q.den.mag.length k2, .string nm, .slice (some ⟨r, 0, none⟩) n qc] ∧ (∀ j, w5.frozen? ⟨r, j, none⟩ = false) ∧ ∀ j u, [d0, d1, d2, d3, d4, d5, d6][j]? = some u → w5.cell? ⟨r, i * 7 + j, none⟩ = some u) := fun w5 hx => ⟨(HS.out.box.ext hx).1, fun j => (Below.frozen hx hr3).trans (hfz j), fun j u hj => (hx.cell (p := ⟨r, i * 7 + j, none⟩) hr3).trans (hcell j u hj)⟩
        have i1 : (i : Int) < (n : Int) := by omega
        have i0 : (0 : Int) ≤ (i : Int) := by omega
        clear hcell hfz hR hEx hds hmem HF
        generalize lx[i].1 = ei at *
        go_upto_region 6 with fail
        go_region_with (first
          | (go_at_call 122; refine (HRR.out _ (by repeat (first | exact Ext.refl _ | assumption | refine Ext.pdrewN ?_ _ | refine Ext.pdrew ?_ | refine Ext.palloc ?_ _ | refine Ext.pset ?_ (by simp <;> omega) _ | refine Ext.trans ?_ (by assumption)))).mono ?_; rintro x w5 ⟨r5, rfl, ⟨cs5, rfl, hl5, ho5⟩, hx5⟩; have hx55 : Ext wr w5 := (by repeat (first | exact Ext.refl _ | assumption | refine Ext.pdrewN ?_ _ | refine Ext.pdrew ?_ | refine Ext.palloc ?_ _ | refine Ext.pset ?_ (by simp <;> omega) _ | refine Ext.trans ?_ (by assumption))); have hsz5 : wr.heap.size ≤ w5.heap.size := hx55.size; obtain ⟨eop, eb1, eA1, en1, ec1, eb2, eA2, en2, ec2, enm, eA, en, ec, rfl⟩ := ExprR.shape ho5.out; have HO5 := Lib.hid (ho5.mono (S' := From wr.heap.size) (fun k _ hk => hk)); clear ho5; obtain ⟨x0, x1, x2, x3, x4, x5, x6⟩ := (HC5.out w5 hx55).1.seven; have p0 := (HC5.out w5 hx55).2.1 (i * 7); have p1 := (HC5.out w5 hx55).2.1 (i * 7 + 1); have p2 := (HC5.out w5 hx55).2.1 (i * 7 + 2); have p3 := (HC5.out w5 hx55).2.1 (i * 7 + 3); have p4 := (HC5.out w5 hx55).2.1 (i * 7 + 4); have p5 := (HC5.out w5 hx55).2.1 (i * 7 + 5); have p6 := (HC5.out w5 hx55).2.1 (i * 7 + 6); have t0 : w5.cell? ⟨r, i * 7, none⟩ = some d0 := (HC5.out w5 hx55).2.2 0 _ rfl; have t1 := (HC5.out w5 hx55).2.2 1 _ rfl; have t2 := (HC5.out w5 hx55).2.2 2 _ rfl; have t3 := (HC5.out w5 hx55).2.2 3 _ rfl; have t4 := (HC5.out w5 hx55).2.2 4 _ rfl; have t5 := (HC5.out w5 hx55).2.2 5 _ rfl; have t6 := (HC5.out w5 hx55).2.2 6 _ rfl))
        all_goals
          go_wp2_with fail
          go_roundg (n - (i + 1))
          case measure => omega
          case rel => exact ⟨i + 1, _, by simp, by omega, HP.out w5 hx55 [_, _, _, _, _, _, _] rfl HO5.out, HF'.out⟩
      · obtain ⟨z0, z1, z2, z3, z4, z5, z6⟩ := HS.out.res.1.seven
        have f0 := HS.out.res.2 0
        have f1 := HS.out.res.2 1
        have f2 := HS.out.res.2 2
        have f3 := HS.out.res.2 3
        have f4 := HS.out.res.2 4
        have f5 := HS.out.res.2 5
        have f6 := HS.out.res.2 6
        have HD : Hid (∀ us, On (From w.heap.size) (fun w => Words w (.slice X1 q.num.mag.length k1) q.num.mag) (wr.setCells (w.heap.size + 1) 0 us) ∧ On (From w.heap.size) (fun w => Words w (.slice X2 q.den.mag.length k2) q.den.mag) (wr.setCells (w.heap.size + 1) 0 us) ∧ On (From w.heap.size) (fun w => SliceAt 7 (ExprR K) w (.slice Q n qc) args) (wr.setCells (w.heap.size + 1) 0 us)) := fun us => HS.out.done (fun j x hx => HF.out j x (by
          have h1 := (List.getElem?_eq_some_iff.1 hx).1
          have h2 := congrArg List.length HS.out.len
          rw [List.length_map] at h2
          have := HN.out
          omega) hx) HL.out us
        have HE := Lib.hid HS.out.ext
        clear HF HS
        go_wp2_with fail
        refine bodyPost_ret (v := .agg #[.int .i64 op, .bool q.num.neg, .slice X1 q.num.mag.length k1, .bool q.den.neg, .slice X2 q.den.mag.length k2, .string nm, .slice Q n qc]) ?_ rfl ⟨_, rfl, HFIN.out _ _ ⟨_, _, _, rfl, (HD.out [_, _, _, _, _, _, _]).1, (HD.out [_, _, _, _, _, _, _]).2.1, (HD.out [_, _, _, _, _, _, _]).2.2⟩, ?_⟩
        · simp [results, Tryz.results122, go_sem, z0, z1, z2, z3, z4, z5, z6]
        · exact Ext.sets (w.heap.size + 1) (by omega) [_, _, _, _, _, _, _] 0 wr HE.out
end Go.Proofs.YtonleohlplkglaaGreatDoor

/- clone of the program's sketch: its states. -/
namespace Go.Proofs.YtonleohlplkglaaGreatDoor
open Go Go.RowKit

/-- What is asked of a sketch that is copied. -/
structure CloneOK (K : Nat) (s : SkI) : Prop where
  small : SmallS K s
  l0 : s.points.length ≤ 1000
  l1 : s.circles.length ≤ 1000
  l2 : s.segs.length ≤ 1000
  l3 : s.arcs.length ≤ 1000
  l4 : s.chains.length ≤ 1000
  l5 : s.cons.length ≤ 1000
  chs : ∀ c ∈ s.chains, c.length ≤ 1000
  cns : ∀ c ∈ s.cons, c.points.length ≤ 1000 ∧ c.circles.length ≤ 1000 ∧ c.values.length ≤ 1000

abbrev No : Nat → Prop := fun _ => False
abbrev zero6 : List Value := [.slice none 0 0, .slice none 0 0, .slice none 0 0, .slice none 0 0, .slice none 0 0, .slice none 0 0]

def Apart (u v : Value) : Prop := ∀ a, u.ownBlock = some a → v.ownBlock ≠ some a
theorem Apart.symm {u v : Value} (h : Apart u v) : Apart v u := fun a h1 h2 => h a h2 h1
theorem apart_row {α β : Type} {S S' : Nat → Prop} {T T' sz sz' lo hi lo' hi' : Nat} {R : World → List Value → α → Prop} {R' : World → List Value → β → Prop} {w w' : World} {v v' : Value} {l : List α} {l' : List β} (h : RowS S T sz R lo hi w v l) (h' : RowS S' T' sz' R' lo' hi' w' v' l') (hl : hi ≤ lo') : Apart v v' := fun a h1 h2 => by
  have := h.lt a h1
  have := h'.lt a h2
  omega

/-- Behind the first four clones. -/
structure St1 (K : Nat) (w wx : World) (s : SkI) (v0 v1 v2 v3 v4 v5 : Value) (lo : Nat) : Prop where
  box : BoxF wx w.heap.size [v0, v1, v2, v3, v4, v5]
  res : BoxF wx (w.heap.size + 1) zero6
  ext : Ext w wx
  low : w.heap.size + 2 ≤ lo
  loh : lo ≤ wx.heap.size
  r0 : RowS No 40 8 (fun _ => PtR w) lo wx.heap.size wx v0 s.points
  r1 : RowS No 66 5 (fun _ => RdR w) lo wx.heap.size wx v1 s.circles
  r2 : RowS No 42 2 (fun _ => SgR w) lo wx.heap.size wx v2 s.segs
  r3 : RowS No 81 4 (fun _ => ArR w) lo wx.heap.size wx v3 s.arcs
  ap : Apart v0 v1 ∧ Apart v0 v2 ∧ Apart v0 v3 ∧ Apart v1 v2 ∧ Apart v1 v3 ∧ Apart v2 v3
theorem RowS.offbox {α : Type} {T sz lo hi : Nat} {R : World → List Value → α → Prop} {w w' : World} {v : Value} {l : List α} {g : Nat} (h : RowS No T sz R lo hi w v l) (hg : w.grownBy w' (some g)) (hl : g < lo) : RowS No T sz R lo hi w' v l :=
  h.far' hg (fun r' e => .inl (by have : g = r' := Option.some.inj e; omega)) (fun _ _ h => h)
theorem st1_mk {K : Nat} {w W w5 : World} {s : SkI} {u0 u1 u2 u3 v0 v1 v2 v3 v4 v5 : Value} (hB : BoxF W w.heap.size [u0, u1, u2, u3, v4, v5]) (hR : BoxF W (w.heap.size + 1) zero6) (hE : Ext w W) (hz : w.heap.size + 2 ≤ W.heap.size) (hx : Ext W w5)
    (h0 : RowS No 40 8 (fun _ => PtR w) W.heap.size w5.heap.size w5 v0 s.points)
    (h1 : RowS No 66 5 (fun _ => RdR w) W.heap.size w5.heap.size w5 v1 s.circles)
    (h2 : RowS No 42 2 (fun _ => SgR w) W.heap.size w5.heap.size w5 v2 s.segs)
    (h3 : RowS No 81 4 (fun _ => ArR w) W.heap.size w5.heap.size w5 v3 s.arcs)
    (ap : Apart v0 v1 ∧ Apart v0 v2 ∧ Apart v0 v3 ∧ Apart v1 v2 ∧ Apart v1 v3 ∧ Apart v2 v3) :
    St1 K w (w5.setCells w.heap.size 0 [v0, v1, v2, v3]) s v0 v1 v2 v3 v4 v5 W.heap.size := by
  have hg := grownBy_sets w.heap.size [v0, v1, v2, v3] 0 w5
  have hs := hg.size
  refine ⟨BoxF.sets _ 0 w5 _ (hB.ext hx) (by simp), (hR.ext hx).grown hg (by simp), Ext.sets _ (Nat.le_refl _) _ _ _ (hE.trans hx), hz, Nat.le_trans hx.size hs, ?_, ?_, ?_, ?_, ap⟩
  · exact (h0.offbox hg (by omega)).bounds (Nat.le_refl _) hs
  · exact (h1.offbox hg (by omega)).bounds (Nat.le_refl _) hs
  · exact (h2.offbox hg (by omega)).bounds (Nat.le_refl _) hs
  · exact (h3.offbox hg (by omega)).bounds (Nat.le_refl _) hs

/-- The state in the loops. -/
structure CLS (K : Nat) (w wr : World) (s : SkI) (lo hh : Nat) (v0 v1 v2 v3 v4 v5 : Value) (lp : List (PtI × Bool)) (lr : List (RdI × Bool)) (lc : List (List PcI × Bool)) (l : List CX) : Prop where
  box : BoxF wr w.heap.size [v0, v1, v2, v3, v4, v5]
  res : BoxF wr (w.heap.size + 1) zero6
  ext : Ext w wr
  low : w.heap.size + 2 ≤ lo
  lhh : lo ≤ hh
  cls : ClS K w lo hh wr v0 v1 v2 v3 v4 v5 lp lr s.segs s.arcs lc l
  tp : lp.map (·.1) = s.points
  tr : lr.map (·.1) = s.circles
  tc : lc.map (·.1) = s.chains
  tl : l.map (·.c) = s.cons
theorem On.no_const {S : Nat → Prop} {p : Prop} {w : World} (h : On No (fun _ => p) w) : On S (fun _ => p) w := fun _ _ => h.out
theorem RowS.start {α : Type} {S : Nat → Prop} {T sz lo hi : Nat} {R : World → List Value → α → Prop} {w0 w : World} {v : Value} {l : List α} (h : RowS No T sz (fun _ => R w0) lo hi w v l) : RowS S T sz (Fl R w0) lo hi w v (l.map fun x => (x, true)) := by
  have h1 : RowS S T sz (fun _ => R w0) lo hi w v l := h.re rfl (fun k x x' hx hx' ds hR => by
    rw [hx] at hx'
    injection hx' with hx'
    subst hx'
    exact hR.no_const)
  exact h1.imp (fun _ _ _ h => h)
theorem st2_mk {K : Nat} {w W w3 : World} {s : SkI} {u4 u5 v0 v1 v2 v3 v4 v5 : Value} {lo : Nat} (h : St1 K w W s v0 v1 v2 v3 u4 u5 lo) (hx : Ext W w3)
    (h4 : RowS No 43 1 (fun _ => ChR w) W.heap.size w3.heap.size w3 v4 s.chains)
    (h5 : RowS No 52 5 (fun _ => ConR K w) W.heap.size w3.heap.size w3 v5 s.cons) (ap : Apart v4 v5) :
    CLS K w (w3.setCells w.heap.size 4 [v4, v5]) s lo w3.heap.size v0 v1 v2 v3 v4 v5 (s.points.map fun x => (x, true)) (s.circles.map fun x => (x, true)) (s.chains.map fun x => (x, true)) (s.cons.map fun c => ⟨c, none, none⟩) := by
  have hg := grownBy_sets w.heap.size [v4, v5] 4 w3
  have hs := hx.size
  have k0 := h.low
  have k1 := h.loh
  have hnone : ∀ (i : Nat) (x : CX), (s.cons.map fun c => (⟨c, none, none⟩ : CX))[i]? = some x → x.pv = none ∧ x.vv = none := by
    intro i x hx'
    rw [List.getElem?_map] at hx'
    obtain ⟨c, -, rfl⟩ := Option.map_eq_some_iff.1 hx'
    exact ⟨rfl, rfl⟩
  obtain ⟨a01, a02, a03, a12, a13, a23⟩ := h.ap
  have a04 := apart_row h.r0 h4 (Nat.le_refl _)
  have a05 := apart_row h.r0 h5 (Nat.le_refl _)
  have a14 := apart_row h.r1 h4 (Nat.le_refl _)
  have a15 := apart_row h.r1 h5 (Nat.le_refl _)
  have a24 := apart_row h.r2 h4 (Nat.le_refl _)
  have a25 := apart_row h.r2 h5 (Nat.le_refl _)
  have a34 := apart_row h.r3 h4 (Nat.le_refl _)
  have a35 := apart_row h.r3 h5 (Nat.le_refl _)
  refine ⟨BoxF.sets _ 4 w3 _ (h.box.ext hx) (by simp), (h.res.ext hx).grown hg (by simp), Ext.sets _ (Nat.le_refl _) _ _ _ (h.ext.trans hx), k0, Nat.le_trans k1 hs, ⟨by rw [size_sets]; exact Nat.le_refl _, ?_, ?_, ?_, ?_, ?_, ?_, ?_, ?_, ?_, ?_⟩, ?_, ?_, ?_, ?_⟩
  · exact (((h.r0.ext hx).offbox hg (by omega)).bounds (Nat.le_refl _) hs).start
  · exact (((h.r1.ext hx).offbox hg (by omega)).bounds (Nat.le_refl _) hs).start
  · exact (((h.r2.ext hx).offbox hg (by omega)).bounds (Nat.le_refl _) hs).re rfl (fun k x x' hx hx' ds hR => by
      rw [hx] at hx'
      injection hx' with hx'
      subst hx'
      exact fun _ _ => hR.out)
  · exact (((h.r3.ext hx).offbox hg (by omega)).bounds (Nat.le_refl _) hs).re rfl (fun k x x' hx hx' ds hR => by
      rw [hx] at hx'
      injection hx' with hx'
      subst hx'
      exact fun _ _ => hR.out)
  · exact ((h4.offbox hg (by omega)).bounds k1 (Nat.le_refl _)).start
  · have h1 := (h5.offbox hg (by omega)).bounds k1 (Nat.le_refl _)
    exact h1.re (by rw [List.length_map]) (fun k x x' hx hx' ds hR => by
      rw [List.getElem?_map, hx] at hx'
      injection hx' with hx'
      subst hx'
      intro w'' _
      obtain ⟨pv, cv, vv, g1, g2, g3, g4⟩ := hR.out
      exact ⟨pv, cv, vv, g1, g2, g3, g4⟩)
  · intro i x p hi hp
    rw [(hnone i x hi).1] at hp; cases hp
  · intro i j a b r hij hi hj ha
    match i, j, hi, hj with
    | 0, 0, _, _ | 1, 1, _, _ | 2, 2, _, _ | 3, 3, _, _ | 4, 4, _, _ | 5, 5, _, _ => exact absurd rfl hij
    | 0, 1, hi, hj => (cases hi; cases hj; exact a01 r ha)
    | 0, 2, hi, hj => (cases hi; cases hj; exact a02 r ha)
    | 0, 3, hi, hj => (cases hi; cases hj; exact a03 r ha)
    | 0, 4, hi, hj => (cases hi; cases hj; exact a04 r ha)
    | 0, 5, hi, hj => (cases hi; cases hj; exact a05 r ha)
    | 1, 2, hi, hj => (cases hi; cases hj; exact a12 r ha)
    | 1, 3, hi, hj => (cases hi; cases hj; exact a13 r ha)
    | 1, 4, hi, hj => (cases hi; cases hj; exact a14 r ha)
    | 1, 5, hi, hj => (cases hi; cases hj; exact a15 r ha)
    | 2, 3, hi, hj => (cases hi; cases hj; exact a23 r ha)
    | 2, 4, hi, hj => (cases hi; cases hj; exact a24 r ha)
    | 2, 5, hi, hj => (cases hi; cases hj; exact a25 r ha)
    | 3, 4, hi, hj => (cases hi; cases hj; exact a34 r ha)
    | 3, 5, hi, hj => (cases hi; cases hj; exact a35 r ha)
    | 4, 5, hi, hj => (cases hi; cases hj; exact ap r ha)
    | 1, 0, hi, hj => (cases hi; cases hj; exact a01.symm r ha)
    | 2, 0, hi, hj => (cases hi; cases hj; exact a02.symm r ha)
    | 3, 0, hi, hj => (cases hi; cases hj; exact a03.symm r ha)
    | 4, 0, hi, hj => (cases hi; cases hj; exact a04.symm r ha)
    | 5, 0, hi, hj => (cases hi; cases hj; exact a05.symm r ha)
    | 2, 1, hi, hj => (cases hi; cases hj; exact a12.symm r ha)
    | 3, 1, hi, hj => (cases hi; cases hj; exact a13.symm r ha)
    | 4, 1, hi, hj => (cases hi; cases hj; exact a14.symm r ha)
    | 5, 1, hi, hj => (cases hi; cases hj; exact a15.symm r ha)
    | 3, 2, hi, hj => (cases hi; cases hj; exact a23.symm r ha)
    | 4, 2, hi, hj => (cases hi; cases hj; exact a24.symm r ha)
    | 5, 2, hi, hj => (cases hi; cases hj; exact a25.symm r ha)
    | 4, 3, hi, hj => (cases hi; cases hj; exact a34.symm r ha)
    | 5, 3, hi, hj => (cases hi; cases hj; exact a35.symm r ha)
    | 5, 4, hi, hj => (cases hi; cases hj; exact ap.symm r ha)
    | i + 6, _, hi, _ => simp at hi
    | _, j + 6, _, hj => simp at hj
  · intro i j x y p q r _ hi _ hp
    rw [(hnone i x hi).1] at hp; cases hp
  · intro i j x y p q r hi _ hp
    rw [(hnone i x hi).1] at hp; cases hp
  · rw [List.map_map]; exact List.map_id' _
  · rw [List.map_map]; exact List.map_id' _
  · rw [List.map_map]; exact List.map_id' _
  · rw [List.map_map]; exact List.map_id' _

section
variable {K : Nat} {w wr w' : World} {s : SkI} {lo hh : Nat} {v0 v1 v2 v3 v4 v5 : Value} {lp : List (PtI × Bool)} {lr : List (RdI × Bool)} {lc : List (List PcI × Bool)} {l : List CX}
theorem CLS.move (h : CLS K w wr s lo hh v0 v1 v2 v3 v4 v5 lp lr lc l) (hx : Ext wr w') : CLS K w w' s lo hh v0 v1 v2 v3 v4 v5 lp lr lc l :=
  ⟨h.box.ext hx, h.res.ext hx, h.ext.trans hx, h.low, h.lhh, h.cls.ext hx, h.tp, h.tr, h.tc, h.tl⟩
theorem CLS.pt (h : CLS K w wr s lo hh v0 v1 v2 v3 v4 v5 lp lr lc l) (hx : Ext wr w') {r n c k : Nat} (hv : v0 = .slice (some ⟨r, 0, none⟩) n c) (hk : k < lp.length) {us : List Value} (hu : us.length = 8) (ho : On (From wr.heap.size) (fun w => PtR w us lp[k].1) w') (hl : ∀ (i : Nat) x, l[i]? = some x → x.pv = none ∧ x.vv = none) :
    CLS K w (w'.setCells r (k * 8) us) s lo hh v0 v1 v2 v3 v4 v5 (lp.set k (lp[k].1, false)) lr lc l := by
  have h' := h.move hx
  have hr := h.cls.pts.lt r (by rw [hv]; rfl)
  have hlow := h.low
  have hhi := h.cls.hi
  have hg := grownBy_sets r us (k * 8) w'
  exact ⟨h'.box.grown hg (by simp; omega), h'.res.grown hg (by simp; omega), Ext.sets r (by omega) _ _ _ h'.ext, h.low, h.lhh, h'.cls.put_pt hv hk hu (ho.mono (fun j _ hj => ⟨Nat.le_trans hhi hj, fun x hx' => by
    obtain ⟨i, hi⟩ := List.getElem?_of_mem hx'
    exact ⟨fun p e => (by rw [(hl i x hi).1] at e; cases e), fun p e => (by rw [(hl i x hi).2] at e; cases e)⟩⟩)), (set_fst hk).trans h.tp, h.tr, h.tc, h.tl⟩
theorem CLS.rd (h : CLS K w wr s lo hh v0 v1 v2 v3 v4 v5 lp lr lc l) (hx : Ext wr w') {r n c k : Nat} (hv : v1 = .slice (some ⟨r, 0, none⟩) n c) (hk : k < lr.length) {A A' : Option Addr} {c1 c1' : Nat}
    (o1 : On (From wr.heap.size) (fun w => Words w (.slice A lr[k].1.radius.num.mag.length c1) lr[k].1.radius.num.mag) w') (o2 : On (From wr.heap.size) (fun w => Words w (.slice A' lr[k].1.radius.den.mag.length c1') lr[k].1.radius.den.mag) w') (hl : ∀ (i : Nat) x, l[i]? = some x → x.pv = none ∧ x.vv = none) :
    CLS K w (w'.setCells r (k * 5 + 1) [.bool lr[k].1.radius.num.neg, .slice A lr[k].1.radius.num.mag.length c1, .bool lr[k].1.radius.den.neg, .slice A' lr[k].1.radius.den.mag.length c1']) s lo hh v0 v1 v2 v3 v4 v5 lp (lr.set k (lr[k].1, false)) lc l := by
  have h' := h.move hx
  have hr := h.cls.rds.lt r (by rw [hv]; rfl)
  have hlow := h.low
  have hhi := h.cls.hi
  have hm : ∀ j, j < w'.heap.size → From wr.heap.size j → Sx hh l j := fun j _ hj => ⟨Nat.le_trans hhi hj, fun x hx' => by
    obtain ⟨i, hi⟩ := List.getElem?_of_mem hx'
    exact ⟨fun p e => (by rw [(hl i x hi).1] at e; cases e), fun p e => (by rw [(hl i x hi).2] at e; cases e)⟩⟩
  have hg := grownBy_sets r [.bool lr[k].1.radius.num.neg, .slice A lr[k].1.radius.num.mag.length c1, .bool lr[k].1.radius.den.neg, .slice A' lr[k].1.radius.den.mag.length c1'] (k * 5 + 1) w'
  exact ⟨h'.box.grown hg (by simp; omega), h'.res.grown hg (by simp; omega), Ext.sets r (by omega) _ _ _ h'.ext, h.low, h.lhh, h'.cls.put_rd hv hk rfl rfl (o1.mono hm) (o2.mono hm), h.tp, (set_fst hk).trans h.tr, h.tc, h.tl⟩
theorem CLS.ch (h : CLS K w wr s lo hh v0 v1 v2 v3 v4 v5 lp lr lc l) (hx : Ext wr w') {r n c k : Nat} (hv : v4 = .slice (some ⟨r, 0, none⟩) n c) (hk : k < lc.length) {u : Value} (ho : On (From wr.heap.size) (fun w => ArrAt 3 PcR w u lc[k].1) w') (hl : ∀ (i : Nat) x, l[i]? = some x → x.pv = none ∧ x.vv = none) :
    CLS K w (w'.setCells r k [u]) s lo hh v0 v1 v2 v3 v4 v5 lp lr (lc.set k (lc[k].1, false)) l := by
  have h' := h.move hx
  have hr := h.cls.chs.lt r (by rw [hv]; rfl)
  have hlow := h.low
  have hhi := h.cls.hi
  have hg := grownBy_sets r [u] k w'
  exact ⟨h'.box.grown hg (by simp; omega), h'.res.grown hg (by simp; omega), Ext.sets r (by omega) _ _ _ h'.ext, h.low, h.lhh, h'.cls.put_ch hv hk (ho.mono (fun j _ hj => ⟨Nat.le_trans hhi hj, fun x hx' => by
    obtain ⟨i, hi⟩ := List.getElem?_of_mem hx'
    exact ⟨fun p e => (by rw [(hl i x hi).1] at e; cases e), fun p e => (by rw [(hl i x hi).2] at e; cases e)⟩⟩)), h.tp, h.tr, (set_fst hk).trans h.tc, h.tl⟩
theorem CLS.at_pt (h : CLS K w wr s lo hh v0 v1 v2 v3 v4 v5 lp lr lc l) {A : Option Addr} {n c k : Nat} (hv : v0 = .slice A n c) (hk : k < lp.length) :
    ∃ r u v u' v', A = some ⟨r, 0, none⟩ ∧ r < wr.heap.size ∧ n ≤ c ∧ n = lp.length ∧ (∀ j x, [Value.bool lp[k].1.x.num.neg, u, .bool lp[k].1.x.den.neg, v, .bool lp[k].1.y.num.neg, u', .bool lp[k].1.y.den.neg, v'][j]? = some x → wr.cell? ⟨r, k * 8 + j, none⟩ = some x) ∧ (∀ j, wr.frozen? ⟨r, j, none⟩ = false) ∧
      Words wr u lp[k].1.x.num.mag ∧ Words wr v lp[k].1.x.den.mag ∧ Words wr u' lp[k].1.y.num.mag ∧ Words wr v' lp[k].1.y.den.mag := by
  have hp := h.cls.pts
  rw [hv] at hp
  obtain ⟨r, ds, e1, -, -, h3, h4, h5, h6, h7, h8, h9⟩ := hp.at_ hk
  have h10 : PtR wr ds lp[k].1 := by
    have h0 := h9.out
    unfold Fl at h0
    split at h0
    · exact PtR.stable _ _ _ _ h.ext h0
    · exact h0
  obtain ⟨u, v, u', v', rfl, g1, g2, g3, g4⟩ := h10
  exact ⟨r, u, v, u', v', e1, h3, h5, h4, h7, h8, g1, g2, g3, g4⟩
theorem CLS.at_rd (h : CLS K w wr s lo hh v0 v1 v2 v3 v4 v5 lp lr lc l) {A : Option Addr} {n c k : Nat} (hv : v1 = .slice A n c) (hk : k < lr.length) :
    ∃ r u v, A = some ⟨r, 0, none⟩ ∧ r < wr.heap.size ∧ n ≤ c ∧ n = lr.length ∧ (∀ j x, [Value.int .i64 lr[k].1.center, .bool lr[k].1.radius.num.neg, u, .bool lr[k].1.radius.den.neg, v][j]? = some x → wr.cell? ⟨r, k * 5 + j, none⟩ = some x) ∧ (∀ j, wr.frozen? ⟨r, j, none⟩ = false) ∧
      Words wr u lr[k].1.radius.num.mag ∧ Words wr v lr[k].1.radius.den.mag := by
  have hp := h.cls.rds
  rw [hv] at hp
  obtain ⟨r, ds, e1, -, -, h3, h4, h5, h6, h7, h8, h9⟩ := hp.at_ hk
  have h10 : RdR wr ds lr[k].1 := by
    have h0 := h9.out
    unfold Fl at h0
    split at h0
    · exact RdR.stable _ _ _ _ h.ext h0
    · exact h0
  obtain ⟨u, v, rfl, g1, g2⟩ := h10
  exact ⟨r, u, v, e1, h3, h5, h4, h7, h8, g1, g2⟩
theorem CLS.at_ch (h : CLS K w wr s lo hh v0 v1 v2 v3 v4 v5 lp lr lc l) {A : Option Addr} {n c k : Nat} (hv : v4 = .slice A n c) (hk : k < lc.length) :
    ∃ r u, A = some ⟨r, 0, none⟩ ∧ r < wr.heap.size ∧ n ≤ c ∧ n = lc.length ∧ wr.cell? ⟨r, k, none⟩ = some u ∧ (∀ j, wr.frozen? ⟨r, j, none⟩ = false) ∧ ArrAt 3 PcR wr u lc[k].1 := by
  have hp := h.cls.chs
  rw [hv] at hp
  obtain ⟨r, ds, e1, -, -, h3, h4, h5, h6, h7, h8, h9⟩ := hp.at_ hk
  have h10 : ChR wr ds lc[k].1 := by
    have h0 := h9.out
    unfold Fl at h0
    split at h0
    · exact ChR.stable _ _ _ _ h.ext h0
    · exact h0
  obtain ⟨u, rfl, g1⟩ := h10
  have := h7 0 u rfl
  rw [Nat.mul_one] at this
  exact ⟨r, u, e1, h3, h5, h4, this, h8, g1⟩
theorem mem_fst {α : Type} {lx : List (α × Bool)} {xs : List α} {i : Nat} (h : lx.map (·.1) = xs) (hi : i < lx.length) : lx[i].1 ∈ xs := by
  rw [← h]; exact List.mem_map.2 ⟨lx[i], List.getElem_mem hi, rfl⟩
theorem len_fst {α : Type} {lx : List (α × Bool)} {xs : List α} (h : lx.map (·.1) = xs) : lx.length = xs.length := by rw [← h, List.length_map]
theorem flag_next {α : Type} {lx : List (α × Bool)} {i : Nat} (hi : i < lx.length) (h : ∀ (j : Nat) x, j < i → lx[j]? = some x → x.2 = false) : ∀ (j : Nat) x, j < i + 1 → (lx.set i (lx[i].1, false))[j]? = some x → x.2 = false := by
  intro j x hj hx
  by_cases hji : j = i
  · subst hji
    rw [List.getElem?_set_self hi] at hx
    injection hx with hx
    rw [← hx]
  · rw [List.getElem?_set_ne (by omega)] at hx
    exact h j x (by omega) hx
theorem flag_all {α : Type} {lx : List (α × Bool)} {i : Nat} (hi : lx.length ≤ i) (h : ∀ (j : Nat) x, j < i → lx[j]? = some x → x.2 = false) : ∀ x ∈ lx, x.2 = false := by
  intro x hx
  obtain ⟨j, hj⟩ := List.getElem?_of_mem hx
  exact h j x (by have := (List.getElem?_eq_some_iff.1 hj).1; omega) hj
theorem clone_piece {v : Value} {c : List PcI} {w : World} (h : ArrAt 3 PcR w v c) (hl : c.length ≤ 1000000) :
    Calls Tryz.prog 119 #[v] w (Ret w fun r w' => ∃ B d, r = .slice B c.length d ∧ On (From w.heap.size) (fun w => ArrAt 3 PcR w (.slice B c.length d) c) w') := by
  refine (clone_Piece (h.old (Ext.refl w)) (one_pc w) hl).mono ?_
  rintro e w' ⟨r, rfl, hr, hx⟩
  obtain ⟨B, d, rfl⟩ := hr.form
  have hlt := hr.lt
  have h1 : RowS (From w.heap.size) 45 3 PcR w.heap.size w'.heap.size w' (.slice B c.length d) c := RowS.of_const hr (fun _ _ _ h => h) (Nat.le_refl _)
  exact ⟨_, rfl, ⟨B, d, rfl, h1.arr hl (fun r hr' => (hlt r hr').1) (fun k _ hk => hk)⟩, hx⟩
theorem clone_ints {v : Value} {c : List Int} {w : World} (h : Ints w v c) (hl : c.length ≤ 1000000) :
    Calls Tryz.prog 120 #[v] w (Ret w fun r w' => ∃ B d, r = .slice B c.length d ∧ RowS No 3 1 IntR w.heap.size w'.heap.size w' (.slice B c.length d) c) := by
  refine (clone_Int (h.old (Ext.refl w)) (one_it w) hl).mono ?_
  rintro e w' ⟨r, rfl, hr, hx⟩
  obtain ⟨B, d, rfl⟩ := hr.form
  exact ⟨_, rfl, ⟨B, d, rfl, RowS.of_const hr (fun _ _ _ h => h) (Nat.le_refl _)⟩, hx⟩
theorem clone_exprs {K : Nat} {v : Value} {c : List EI} {w w0 : World} (h : ArrAt 7 (fun _ => ExprR K w0) w v c) (hl : c.length ≤ 1000000) :
    Calls Tryz.prog 121 #[v] w (Ret w fun r w' => ∃ B d, r = .slice B c.length d ∧ RowS No 69 7 (fun _ => ExprR K w0) w.heap.size w'.heap.size w' (.slice B c.length d) c) := by
  refine (clone_Expr h (one_ex w0) hl).mono ?_
  rintro e w' ⟨r, rfl, hr, hx⟩
  obtain ⟨B, d, rfl⟩ := hr.form
  exact ⟨_, rfl, ⟨B, d, rfl, RowS.of_const hr (fun _ _ _ h => h) (Nat.le_refl _)⟩, hx⟩
end
end Go.Proofs.YtonleohlplkglaaGreatDoor

/- clone of the program's sketch: its states while constraints are copied. -/
namespace Go.Proofs.YtonleohlplkglaaGreatDoor
open Go Go.RowKit

/-- How far the constraints are copied. -/
def Done (l : List CX) (i : Nat) : Prop := ∀ (j : Nat) x, l[j]? = some x → x.vv = none ∧ (j < i → x.pv ≠ none) ∧ (i ≤ j → x.pv = none)
section
variable {K : Nat} {w wr w' : World} {s : SkI} {lo hh : Nat} {v0 v1 v2 v3 v4 v5 : Value} {lp : List (PtI × Bool)} {lr : List (RdI × Bool)} {lc : List (List PcI × Bool)} {l : List CX}
theorem CLS.at_cn (h : CLS K w wr s lo hh v0 v1 v2 v3 v4 v5 lp lr lc l) {A : Option Addr} {n c k : Nat} (hv : v5 = .slice A n c) (hk : k < l.length) (hd : Done l k) :
    ∃ r pv cv vv, A = some ⟨r, 0, none⟩ ∧ r < wr.heap.size ∧ n ≤ c ∧ n = l.length ∧ (∀ j x, [Value.int .i64 l[k].c.kind, pv, cv, vv, .int .i64 l[k].c.side][j]? = some x → wr.cell? ⟨r, k * 5 + j, none⟩ = some x) ∧ (∀ j, wr.frozen? ⟨r, j, none⟩ = false) ∧
      Ints w pv l[k].c.points ∧ Ints w cv l[k].c.circles ∧ ArrAt 7 (ExprR K) w vv l[k].c.values := by
  have hp := h.cls.cns
  rw [hv] at hp
  obtain ⟨r, ds, e1, -, -, h3, h4, h5, h6, h7, h8, h9⟩ := hp.at_ hk
  obtain ⟨pv, cv, vv, rfl, h10⟩ := h9.out
  rw [(hd k _ (List.getElem?_eq_getElem hk)).2.2 (Nat.le_refl _)] at h10
  exact ⟨r, pv, cv, vv, e1, h3, h5, h4, h7, h8, h10⟩
theorem CLS.at_cx (h : CLS K w wr s lo hh v0 v1 v2 v3 v4 v5 lp lr lc l) {A : Option Addr} {n c k : Nat} (hv : v5 = .slice A n c) {cc : CI} {pv vv : Value} (hk : l[k]? = some ⟨cc, some pv, some vv⟩) :
    ∃ r, A = some ⟨r, 0, none⟩ ∧ r < wr.heap.size ∧ wr.cell? ⟨r, k * 5 + 3, none⟩ = some vv := by
  have hp := h.cls.cns
  rw [hv] at hp
  have hkl := (List.getElem?_eq_some_iff.1 hk).1
  obtain ⟨r, ds, e1, -, -, h3, h4, h5, h6, h7, h8, h9⟩ := hp.at_ hkl
  rw [(List.getElem?_eq_some_iff.1 hk).2] at h9
  obtain ⟨p, cv, q, rfl, -, -, h10⟩ := h9.out
  exact ⟨r, e1, h3, by rw [h7 3 _ rfl]; exact congrArg some h10⟩
theorem CLS.cn (h : CLS K w wr s lo hh v0 v1 v2 v3 v4 v5 lp lr lc l) (hx : Ext wr w') {r n c k : Nat} (hv : v5 = .slice (some ⟨r, 0, none⟩) n c) (hk : k < l.length) (hd : Done l k) {pv cv vv : Value}
    (hp : RowS No 3 1 IntR wr.heap.size w'.heap.size w' pv l[k].c.points) (hc : RowS No 3 1 IntR wr.heap.size w'.heap.size w' cv l[k].c.circles) (hvv : RowS No 69 7 (fun _ => ExprR K w) wr.heap.size w'.heap.size w' vv l[k].c.values)
    (a1 : Apart pv cv) (a2 : Apart pv vv) (a3 : Apart cv vv) (hcl : l[k].c.circles.length ≤ 1000) :
    CLS K w (w'.setCells r (k * 5 + 1) [pv, cv, vv]) s lo hh v0 v1 v2 v3 v4 v5 lp lr lc (l.set k ⟨l[k].c, some pv, some vv⟩) ∧
      RowS (Sx hh (l.set k ⟨l[k].c, some pv, some vv⟩)) 69 7 (Fl (ExprR K) w) hh (w'.setCells r (k * 5 + 1) [pv, cv, vv]).heap.size (w'.setCells r (k * 5 + 1) [pv, cv, vv]) vv (l[k].c.values.map fun x => (x, true)) := by
  have h' := h.move hx
  have hr := h.cls.cns.lt r (by rw [hv]; rfl)
  have hlow := h.low
  have hhi := h.cls.hi
  have hg := grownBy_sets r [pv, cv, vv] (k * 5 + 1) w'
  have hcr := hc.lt
  have hho : On (Sx hh (l.set k ⟨l[k].c, some pv, some vv⟩)) (fun w => Ints w cv l[k].c.circles) w' := hc.arr (by omega) (fun b hb => by
    refine ⟨by have := (hcr b hb).1; omega, fun x hx' => ?_⟩
    rcases List.mem_or_eq_of_mem_set hx' with h6 | h6
    · obtain ⟨i, hi⟩ := List.getElem?_of_mem h6
      refine ⟨fun p e e' => ?_, fun q e => by rw [(hd i x hi).1] at e; cases e⟩
      have := (h.cls.prow i x p hi e).lt b e'
      have := (hcr b hb).1
      omega
    · subst h6
      refine ⟨fun p e e' => ?_, fun q e e' => ?_⟩
      · injection e with e; subst e; exact a1 b e' hb
      · injection e with e; subst e; exact a3 b hb e') (fun k _ hk => hk.elim)
  refine ⟨⟨h'.box.grown hg (by simp; omega), h'.res.grown hg (by simp; omega), Ext.sets r (by omega) _ _ _ h'.ext, h.low, h.lhh, h.cls.put_cn hx hv hk hp (fun b hb => (hvv.lt b hb).1) (fun b hb => a2 b hb) (fun i x hi => (hd i x hi).1) ((hd k _ (List.getElem?_eq_getElem hk)).2.2 (Nat.le_refl _)) hho, h.tp, h.tr, h.tc, ?_⟩, ?_⟩
  · rw [List.map_set, ← h.tl]
    have : l[k].c = (l.map (·.c))[k]'(by simpa using hk) := by simp
    rw [this, List.set_getElem_self]
  · have h1 := hvv.far hg (fun r' e hb => by
      have e' : r = r' := Option.some.inj e
      have := (hvv.lt r' hb).1
      omega) (fun _ _ h => h)
    exact (h1.start).bounds hhi hg.size
/-- A value is stored. -/
theorem CLS.hot (h : CLS K w wr s lo hh v0 v1 v2 v3 v4 v5 lp lr lc l) (hx : Ext wr w') {k i q n c : Nat} {cc : CI} {pv : Value} (hk : l[k]? = some ⟨cc, some pv, some (.slice (some ⟨q, 0, none⟩) n c)⟩) (hone : ∀ (j : Nat) x, l[j]? = some x → j ≠ k → x.vv = none) {lx : List (EI × Bool)}
    (hr : RowS (Sx hh l) 69 7 (Fl (ExprR K) w) hh wr.heap.size wr (.slice (some ⟨q, 0, none⟩) n c) lx) (hi : i < lx.length) {us : List Value} (hu : us.length = 7) (ho : On (From wr.heap.size) (fun w => ExprR K w us lx[i].1) w') :
    CLS K w (w'.setCells q (i * 7) us) s lo hh v0 v1 v2 v3 v4 v5 lp lr lc l ∧ RowS (Sx hh l) 69 7 (Fl (ExprR K) w) hh (w'.setCells q (i * 7) us).heap.size (w'.setCells q (i * 7) us) (.slice (some ⟨q, 0, none⟩) n c) (lx.set i (lx[i].1, false)) := by
  have h' := h.move hx
  have hlow := h.low
  have hhi := h.cls.hi
  have hq := hr.lt q rfl
  have hg := grownBy_sets q us (i * 7) w'
  have hc5 := h.lhh
  have hn : ¬ Sx hh l q := fun hs => (hs.2 _ (mem_of_getElem? hk)).2 _ rfl rfl
  refine ⟨⟨h'.box.grown hg (by simp; omega), h'.res.grown hg (by simp; omega), Ext.sets q (by omega) _ _ _ h'.ext, h.low, h.lhh, h'.cls.far_hot hk rfl rfl hq.1 hg, h.tp, h.tr, h.tc, h.tl⟩, ?_⟩
  have hr' := (hr.ext hx).bounds (Nat.le_refl _) hx.size
  have hp := hr'.put (j0 := 0) (us := us) (x' := (lx[i].1, false)) hi (by omega) hn (fun ds g1 g2 ds' g3 g4 g5 => by
    have : ds' = us := by
      apply List.ext_getElem?
      intro j
      rcases Nat.lt_or_ge j us.length with h6 | h6
      · rw [List.getElem?_eq_getElem h6]
        have := g5 j _ (List.getElem?_eq_getElem h6)
        rwa [Nat.zero_add] at this
      · rw [List.getElem?_eq_none h6, List.getElem?_eq_none (by omega)]
    rw [this]
    refine (ho.mono (fun b _ hb => ⟨Nat.le_trans hhi hb, fun x hx' => ?_⟩)).imp (fun _ _ h => h)
    obtain ⟨j, hj⟩ := List.getElem?_of_mem hx'
    refine ⟨fun p e e' => ?_, fun p e e' => ?_⟩
    · have h6 := (h.cls.prow j x p hj e).lt b e'
      have : wr.heap.size ≤ b := hb
      omega
    · by_cases hjk : j = k
      · subst hjk
        rw [hk] at hj
        injection hj with hj
        subst hj
        injection e with e
        subst e
        have e2 : q = b := Option.some.inj e'
        have : wr.heap.size ≤ b := hb
        omega
      · rw [hone j x hj hjk] at e; cases e)
  rw [Nat.add_zero] at hp
  exact hp.bounds (Nat.le_refl _) hg.size
theorem CLS.cool (h : CLS K w wr s lo hh v0 v1 v2 v3 v4 v5 lp lr lc l) {k : Nat} {cc : CI} {pv vv : Value} (hk : l[k]? = some ⟨cc, some pv, some vv⟩) (hone : ∀ (j : Nat) x, l[j]? = some x → j ≠ k → x.vv = none) {lx : List (EI × Bool)}
    (hr : RowS (Sx hh l) 69 7 (Fl (ExprR K) w) hh wr.heap.size wr vv lx) (hlx : lx.map (·.1) = cc.values) (hf : ∀ x ∈ lx, x.2 = false) (hl : cc.values.length ≤ 1000) :
    CLS K w wr s lo hh v0 v1 v2 v3 v4 v5 lp lr lc (l.set k ⟨cc, some pv, none⟩) := by
  have hkl := (List.getElem?_eq_some_iff.1 hk).1
  have h1 : RowS (Sx hh l) 69 7 (ExprR K) hh wr.heap.size wr vv cc.values := hr.re (by rw [← hlx, List.length_map]) (fun k x x' hx hx' ds hR => by
    rw [← hlx, List.getElem?_map, hx] at hx'
    injection hx' with hx'
    subst hx'
    exact hR.imp (fun w'' _ hh => by unfold Fl at hh; rw [hf x (mem_of_getElem? hx)] at hh; exact hh))
  have hqr := hr.lt
  have ho : On (Sx hh (l.set k ⟨cc, some pv, none⟩)) (fun w => ArrAt 7 (ExprR K) w vv cc.values) wr := h1.arr (by omega) (fun b hb => by
    refine ⟨(hqr b hb).1, fun x hx' => ?_⟩
    rcases List.mem_or_eq_of_mem_set hx' with h6 | h6
    · obtain ⟨j, hj⟩ := List.getElem?_of_mem h6
      refine ⟨fun p e e' => h.cls.hot j k x _ p vv b hj hk e rfl e' hb, fun p e => ?_⟩
      obtain ⟨j', hj'⟩ := List.getElem?_of_mem hx'
      by_cases hjk : j' = k
      · subst hjk
        rw [List.getElem?_set_self hkl] at hj'
        injection hj' with hj'
        subst hj'
        cases e
      · rw [List.getElem?_set_ne (by omega)] at hj'
        rw [hone j' x hj' hjk] at e
        cases e
    · subst h6
      refine ⟨fun p e e' => ?_, fun p e => by cases e⟩
      injection e with e
      subst e
      exact h.cls.hot k k _ _ pv vv b hk hk rfl rfl e' hb) (fun b _ hb => ⟨hb.1, fun x hx' => by
    rcases List.mem_or_eq_of_mem_set hx' with h6 | h6
    · exact hb.2 x h6
    · subst h6
      exact ⟨fun p e => (hb.2 _ (mem_of_getElem? hk)).1 p e, fun p e => by cases e⟩⟩)
  refine ⟨h.box, h.res, h.ext, h.low, h.lhh, h.cls.cool hk ho, h.tp, h.tr, h.tc, ?_⟩
  rw [List.map_set, ← h.tl]
  have : cc = (l.map (·.c))[k]'(by simpa using hkl) := by
    have := (List.getElem?_eq_some_iff.1 hk).2
    simp [this]
  rw [this, List.set_getElem_self]
theorem Done.hot {i : Nat} (hd : Done l i) {c : CI} {pv vv : Value} : ∀ (j : Nat) x, (l.set i ⟨c, some pv, some vv⟩)[j]? = some x → j ≠ i → x.vv = none := by
  intro j x hj hji
  rw [List.getElem?_set_ne (by omega)] at hj
  exact (hd j x hj).1
theorem Done.next {i : Nat} (hd : Done l i) (hi : i < l.length) {c : CI} {pv : Value} {vv : Option Value} : Done ((l.set i ⟨c, some pv, vv⟩).set i ⟨c, some pv, none⟩) (i + 1) := by
  intro j x hj
  rw [List.set_set] at hj
  by_cases hji : j = i
  · subst hji
    rw [List.getElem?_set_self hi] at hj
    injection hj with hj
    subst hj
    exact ⟨rfl, fun _ => by simp, fun h => by omega⟩
  · rw [List.getElem?_set_ne (by omega)] at hj
    obtain ⟨h1, h2, h3⟩ := hd j x hj
    exact ⟨h1, fun h => h2 (by omega), fun h => h3 (by omega)⟩
theorem len_c {l : List CX} {xs : List CI} (h : l.map (·.c) = xs) : l.length = xs.length := by rw [← h, List.length_map]
theorem mem_c {l : List CX} {xs : List CI} {i : Nat} (h : l.map (·.c) = xs) (hi : i < l.length) : l[i].c ∈ xs := by
  rw [← h]; exact List.mem_map.2 ⟨l[i], List.getElem_mem hi, rfl⟩
theorem ClS.off {w0 : World} {sg : List SgI} {ar : List ArI} (h : ClS K w0 lo hh wr v0 v1 v2 v3 v4 v5 lp lr sg ar lc l) {g : Nat} (hg : wr.grownBy w' (some g)) (hl : g < lo) (hlh : lo ≤ hh) : ClS K w0 lo hh w' v0 v1 v2 v3 v4 v5 lp lr sg ar lc l := by
  have f : ∀ r', some g = some r' → r' < lo ∨ hh ≤ r' := fun r' e => .inl (by have : g = r' := Option.some.inj e; omega)
  have n : ∀ r', some g = some r' → ¬ Sx hh l r' := fun r' e => Sx.not (by have : g = r' := Option.some.inj e; omega)
  exact ⟨Nat.le_trans h.hi hg.size, h.pts.far' hg f n, h.rds.far' hg f n, h.sgs.far' hg f n, h.ars.far' hg f n, h.chs.far' hg f n, h.cns.far' hg f n, h.prow_far hg (by omega), h.dst, h.dis, h.hot⟩
end
end Go.Proofs.YtonleohlplkglaaGreatDoor

/- The rule of XReg where some moves may come late: they are taken first. -/
namespace Go.Proofs.YtonleohlplkglaaGreatDoor
open Go Go.RowKit

section
variable {P : Program} {ops : Array Oper} {Q : Exit → Act → World → Prop} {fl : List Nat}

def regOKF (fl : List Nat) (ops : Array Oper) (k N : Nat) : Bool :=
  decide (k ≤ ops.size) &&
  (List.range ops.size).all (fun i => (needs ops i).all (· < i)) &&
  (List.range k).all (fun i => match ops[i]? with
    | some o => o.guard.isNone && noSelect o.op && (match o.dst with | some d => decide (d < N) && (List.range i).all (fun j => dstOf ops j != some d) | none => false) &&
        (o.looksAt ops).all (fun t => (List.range k).all fun j => dstOf ops j != some t || (needs ops i).contains j)
    | none => false) &&
  (List.range ops.size).all (fun j => decide (j < k) || (List.range j).all (fun i => fl.contains i || reaches ops ops.size j i)) && fl.all (fun f => decide (f < k))
structure RegSpecF (fl : List Nat) (ops : Array Oper) (k N : Nat) : Prop where
  le : k ≤ ops.size
  lower : ∀ i, i < ops.size → ∀ m ∈ needs ops i, m < i
  pre : ∀ i, i < k → ∃ o d, ops[i]? = some o ∧ o.guard = none ∧ (∀ cs b, o.op ≠ .select cs b) ∧ o.dst = some d ∧ d < N ∧ (∀ j, j < i → dstOf ops j ≠ some d) ∧ ∀ t ∈ o.looksAt ops, ∀ j, j < k → dstOf ops j = some t → j ∈ needs ops i
  last : ∀ j, j < ops.size → k ≤ j → ∀ i, i < j → fl.contains i = false → reaches ops ops.size j i = true
  flk : ∀ f, fl.contains f = true → f < k

theorem regOKF_spec {k N : Nat} (h : regOKF fl ops k N = true) : RegSpecF fl ops k N := by
  simp only [regOKF, Bool.and_eq_true, decide_eq_true_eq, List.all_eq_true, List.mem_range, Bool.or_eq_true] at h
  obtain ⟨⟨⟨⟨h1, h2⟩, h3⟩, h4⟩, h5⟩ := h
  refine ⟨h1, fun i hi m hm => h2 i hi m hm, fun i hi => ?_, fun j hj hk i hi hfi => ?_, fun f hf => h5 f (by simpa using hf)⟩
  · have := h3 i hi
    cases ho : ops[i]? with
    | none => rw [ho] at this; cases this
    | some o =>
      rw [ho] at this
      simp only [Bool.and_eq_true, List.all_eq_true, List.mem_range, Bool.or_eq_true, bne_iff_ne, ne_eq, List.contains_iff_mem, Option.isNone_iff_eq_none] at this
      obtain ⟨⟨⟨g1, g2⟩, g3⟩, g4⟩ := this
      cases hd : o.dst with
      | none => rw [hd] at g3; cases g3
      | some d =>
        rw [hd] at g3
        simp only [Bool.and_eq_true, decide_eq_true_eq, List.all_eq_true, List.mem_range, bne_iff_ne, ne_eq] at g3
        refine ⟨o, d, rfl, g1, fun cs b e => ?_, hd, g3.1, g3.2, fun t ht j hj hjt => ?_⟩
        · rw [e] at g2; cases g2
        · rcases g4 t ht j hj with h5 | h5
          · exact absurd hjt h5
          · exact h5
  · rcases h4 j hj with h6 | h6
    · omega
    · rcases h6 i hi with h7 | h7
      · rw [hfi] at h7; cases h7
      · exact h7

/-- One of the first operations comes up. -/
theorem preOpF_step {k N : Nat} (hs : RegSpecF fl ops k N) {a : Act} (hN : a.tmps.size = N) {w0 : World} {Φ : Nat → Value → World → Prop} {Δ : Nat → Value → Nat → Value → Prop} (hst : ∀ i v w1 w2, Ext w1 w2 → Φ i v w1 → Φ i v w2)
    {i : Nat} (hi : i < k) (hp : PreOp P ops k a w0 Φ Δ i) {listed : Array Bool} {a' : Act} {w' : World} (hI : RInv ops k a w0 Φ Δ listed a' w')  (hneed : ∀ m ∈ needs ops i, listed.getD m false = true)
    {K : Act → World → Prop} (hK : ∀ a'' w'', RInv ops k a w0 Φ Δ (listed.setIfInBounds i true) a'' w'' → K a'' w'') : wpOp P ops Q i K a' w' := by
  obtain ⟨o, d, ho, hg, hsel, hd, hdN, hdist, hlook⟩ := hs.pre i hi
  have hisz : i < ops.size := Nat.lt_of_lt_of_le hi hs.le
  have hdi : dstOf ops i = some d := by unfold dstOf; rw [ho]; exact hd
  -- the values that the frame holds
  let vs : Nat → Value := fun j => match dstOf ops j with | some t => a'.tmps.getD t undef | none => undef
  have hlk : ∀ j, listed.getD j false = true → j < k := fun j hj => by
    rcases Nat.lt_or_ge j k with h | h
    · exact h
    · rw [hI.tail j h] at hj; cases hj
  have hphi : ∀ j ∈ needs ops i, j < k → Φ j (vs j) w' := fun j hj hjk => by
    obtain ⟨oj, dj, hoj, _, _, hdj, _⟩ := hs.pre j hjk
    have hdj' : dstOf ops j = some dj := by unfold dstOf; rw [hoj]; exact hdj
    have := hI.phi j dj (hneed j hj) hdj'
    show Φ j (match dstOf ops j with | some t => a'.tmps.getD t undef | none => undef) w'
    rw [hdj']; exact this
  have hw := hp vs w' hI.ext hphi o d ho hd
  -- the operation sees the same operands
  have hev : execOp a'.eval o = execOp (fill ops a vs i).eval o := execOp_congr o hsel fun x hx => by
    cases x with
    | tmp t =>
      have hin : t ∈ o.looksAt ops := List.mem_append_left _ (List.mem_filterMap.2 ⟨.tmp t, by simpa using hx, rfl⟩)
      show a'.tmps.getD t undef = (fill ops a vs i).tmps.getD t undef
      by_cases hex : ∃ j, j < k ∧ dstOf ops j = some t
      · obtain ⟨j, hjk, hjt⟩ := hex
        have hjn := hlook t hin j hjk hjt
        have hji := hs.lower i hisz j hjn
        obtain ⟨oj, dj, hoj, _, _, hdj, hdjN, _⟩ := hs.pre j hjk
        have hdj' : dstOf ops j = some dj := by unfold dstOf; rw [hoj]; exact hdj
        obtain rfl : dj = t := by rw [hdj'] at hjt; injection hjt
        have hf := fill_at (ops := ops) a vs hji hdj' (by rw [hN]; exact hdjN) (fun m hm hjm => by
          have hmk : m < k := by omega
          obtain ⟨om, dm, hom, _, _, hdm, _, hdm2, _⟩ := hs.pre m hmk
          have hdm' : dstOf ops m = some dm := by unfold dstOf; rw [hom]; exact hdm
          intro e
          have : dm = dj := by rw [hdm'] at e; injection e
          exact hdm2 j hjm (by rw [hdj', this]))
        have hv : vs j = a'.tmps.getD dj undef := by show (match dstOf ops j with | some t => a'.tmps.getD t undef | none => undef) = _; rw [hdj']
        have hfd : (fill ops a vs i).tmps.getD dj undef = vs j := by rw [Array.getD_eq_getD_getElem?, hf]; rfl
        rw [hfd, hv]
      · have h1 := fill_other (ops := ops) a vs (n := i) (t := t) fun j hj hjt => hex ⟨j, by omega, hjt⟩
        have h2 := hI.old t fun j hj hjt => hex ⟨j, hlk j hj, hjt⟩
        rw [Array.getD_eq_getD_getElem?, Array.getD_eq_getD_getElem?, h1, h2]
    | _ => rfl
  -- what comes behind
  have hput : ∀ v w'', Ext w' w'' → (Φ i v w'' ∧ ∀ j u, j ≠ i → Φ j u w' → Δ j u i v) → K (a'.put o.dst v) w'' := fun v w'' hx ⟨hΦ, hΔ⟩ => by
    apply hK
    rw [hd]
    have hlt : d < a'.tmps.size := by rw [hI.tsz, hN]; exact hdN
    have hil : i < listed.size := by rw [hI.size]; exact hisz
    refine ⟨by simpa using hI.size, ?_, ?_, hI.ext.trans hx, hI.dfr, by simpa [Act.put] using hI.tsz, ?_, ?_, ?_⟩
    · intro j hj m hm
      rw [getD_set_listed hil] at hj ⊢
      by_cases e : i = m
      · rw [if_pos e]
      · rw [if_neg e]
        by_cases e2 : i = j
        · subst e2; exact hneed m hm
        · rw [if_neg e2] at hj; exact hI.down j hj m hm
    · intro j hj
      rw [getD_set_listed hil, if_neg (by omega)]; exact hI.tail j hj
    · intro t ht
      have hne : d ≠ t := fun e => ht i (by rw [getD_set_listed hil, if_pos rfl]) (by rw [hdi, e])
      simp only [Act.put]
      rw [Array.getElem?_setIfInBounds_ne hne]
      exact hI.old t fun j hj => ht j (by rw [getD_set_listed hil]; split <;> first | rfl | exact hj)
    · intro j dj hj hdj
      rw [getD_set_listed hil] at hj
      by_cases e : i = j
      · subst e
        obtain rfl : d = dj := by rw [hdi] at hdj; injection hdj
        simp only [Act.put]
        rw [Array.getD_eq_getD_getElem?, Array.getElem?_setIfInBounds_self_of_lt hlt]
        exact hΦ
      · rw [if_neg e] at hj
        have hjk := hlk j hj
        have hne : d ≠ dj := by
          intro ed
          subst ed
          rcases Nat.lt_or_ge i j with h | h
          · obtain ⟨oj, dj', hoj, _, _, hdj', _, hdd, _⟩ := hs.pre j hjk
            have : dstOf ops j = some dj' := by unfold dstOf; rw [hoj]; exact hdj'
            rw [this] at hdj; injection hdj with hdj
            exact hdd i h (by rw [hdi, hdj])
          · exact hdist j (by omega) hdj
        simp only [Act.put]
        rw [Array.getD_eq_getD_getElem?, Array.getElem?_setIfInBounds_ne hne, ← Array.getD_eq_getD_getElem?]
        exact hst _ _ _ _ hx (hI.phi j dj hj hdj)
    · have hold : ∀ j dj, listed.getD j false = true → i ≠ j → dstOf ops j = some dj → (a'.put (some d) v).tmps.getD dj undef = a'.tmps.getD dj undef := fun j dj hj e hdj => by
        have hjk := hlk j hj
        have hne : d ≠ dj := by
          intro ed
          subst ed
          rcases Nat.lt_or_ge i j with h | h
          · obtain ⟨oj, dj', hoj, _, _, hdj', _, hdd, _⟩ := hs.pre j hjk
            have : dstOf ops j = some dj' := by unfold dstOf; rw [hoj]; exact hdj'
            rw [this] at hdj; injection hdj with hdj
            exact hdd i h (by rw [hdi, hdj])
          · exact hdist j (by omega) hdj
        simp only [Act.put]
        rw [Array.getD_eq_getD_getElem?, Array.getElem?_setIfInBounds_ne hne, ← Array.getD_eq_getD_getElem?]
      have hnew : (a'.put (some d) v).tmps.getD d undef = v := by
        simp only [Act.put]
        rw [Array.getD_eq_getD_getElem?, Array.getElem?_setIfInBounds_self_of_lt hlt]; rfl
      intro j m dj dm hj hm hne hdj hdm
      rw [getD_set_listed hil] at hj hm
      by_cases e1 : i = j
      · subst e1
        obtain rfl : d = dj := by rw [hdi] at hdj; injection hdj
        rw [if_neg hne] at hm
        rw [hnew, hold m dm hm hne hdm]
        exact .inr (hΔ m _ (fun e => hne e.symm) (hI.phi m dm hm hdm))
      · rw [if_neg e1] at hj
        by_cases e2 : i = m
        · subst e2
          obtain rfl : d = dm := by rw [hdi] at hdm; injection hdm
          rw [hnew, hold j dj hj e1 hdj]
          exact .inl (hΔ j _ (fun e => e1 e.symm) (hI.phi j dj hj hdj))
        · rw [if_neg e2] at hm
          rw [hold j dj hj e1 hdj, hold m dm hm e2 hdm]
          exact hI.dis j m dj dm hj hm hne hdj hdm
  have hfd : (fill ops a vs i).defers = a.defers := fill_defers a vs i
  have hfs : d < (fill ops a vs i).tmps.size := by rw [fill_size, hN]; exact hdN
  have hget : ∀ v, ((fill ops a vs i).put o.dst v).tmps.getD d undef = v := fun v => by
    rw [hd]; simp only [Act.put]
    rw [Array.getD_eq_getD_getElem?, Array.getElem?_setIfInBounds_self_of_lt hfs]; rfl
  unfold wpOp
  rw [ho]
  simp only [Region.wanted, hg, if_true]
  refine .inl ?_
  unfold Oper.wp at hw ⊢
  rw [hev]
  generalize (execOp (fill ops a vs i).eval o).run P w' = r at *
  cases r with
  | ok n w1 =>
    cases n with
    | value v =>
      simp only [Oper.upon] at hw ⊢
      rw [hget] at hw
      exact hput v w1 hw.2.1 hw.2.2
    | skip =>
      simp only [Oper.upon] at hw ⊢
      rw [hget] at hw
      exact hput undef w1 hw.2.1 hw.2.2
    | defer df =>
      simp only [Oper.upon] at hw
      have := hw.1
      rw [hd] at this
      simp only [Act.put, hfd] at this
      exact absurd this (by intro e; exact (List.cons_ne_self df _) e)
    | enter f args =>
      simp only [Oper.upon] at hw ⊢
      refine Calls.mono hw fun e w2 he => ?_
      cases e with
      | returned v =>
        simp only [] at he ⊢
        rw [hget] at he; exact hput v w2 he.2.1 he.2.2
      | panicked c => exact he.elim
      | outgrown => obtain ⟨_, _, hf⟩ := he; exact hf.elim
    | row row args =>
      simp only [Oper.upon] at hw ⊢
      exact Rows.mono hw fun v w2 he => by rw [hget] at he; exact hput v w2 he.2.1 he.2.2
    | _ => exact hw.elim
  | halt x w1 => cases x <;> exact hw.elim

theorem tailF_any {k N : Nat} (hs : RegSpecF fl ops k N) : ∀ (n j : Nat), n = ops.size - j → k ≤ j → j ≤ ops.size → ∀ (fuel : Nat) (listed : Array Bool) (a : Act) (w : World), listed.size = ops.size → (∀ i, listed.getD i false = decide (i < j)) → n ≤ fuel →
    wpList P ops Q (ops.toList.drop j) a w → wpAny P .any ops Q fuel listed a w := by
  intro n
  induction n with
  | zero =>
    intro j hn hk hj fuel listed a w hsz hl hf h
    have hjj : j = ops.size := by omega
    subst hjj
    rw [List.drop_of_length_le (by simp)] at h
    refine wpAny_done ?_ h fuel
    rw [List.eq_nil_iff_forall_not_mem]
    intro i hi
    obtain ⟨h0, o, ho, _⟩ := mem_ready.1 hi
    obtain ⟨h1, h2⟩ := getD_true_false h0
    rw [hl i] at h1
    simp at h1
    omega
  | succ n ih =>
    intro j hn hk hj fuel listed a w hsz hl hf h
    have hjlt : j < ops.size := by omega
    obtain ⟨fuel, rfl⟩ : ∃ f, fuel = f + 1 := ⟨fuel - 1, by omega⟩
    have hdown : ∀ i, listed.getD i false = true → ∀ m ∈ needs ops i, listed.getD m false = true := fun i hi m hm => by
      rw [hl i] at hi
      have hi' : i < j := by simpa using hi
      have := hs.lower i (by omega) m hm
      rw [hl m]; simp; omega
    have hdrop : ops.toList.drop j = ops[j] :: ops.toList.drop (j + 1) := by
      rw [List.drop_eq_getElem_cons (by simpa using hjlt)]; simp
    rw [hdrop] at h
    refine ⟨fun hr => ?_, fun i hi => ?_⟩
    · exfalso
      have : j ∈ Region.ready .any ops listed := by
        rw [mem_ready]
        refine ⟨getD_false_true (by rw [hl j]; simp) (by omega), ops[j], Array.getElem?_eq_getElem hjlt, fun e he hb => ?_⟩
        have hm : e.on ∈ needs ops j := (mem_needs (Array.getElem?_eq_getElem hjlt)).2 ⟨e, he, hb, rfl⟩
        have := hs.lower j hjlt _ hm
        rw [hl e.on]; simpa using this
      rw [hr] at this
      cases this
    · obtain ⟨h0, o, ho, hall⟩ := mem_ready.1 hi
      obtain ⟨h1, h2⟩ := getD_true_false h0
      have hji : j ≤ i := by rw [hl i] at h1; simpa using h1
      have hij : i = j := by
        rcases Nat.lt_or_ge j i with hlt | hge
        · have hr := hs.last i (by omega) (by omega) j hlt (by cases hc : fl.contains j with | false => rfl | true => exact absurd (hs.flk j hc) (by omega))
          have := listed_of_reaches hdown _ _ _ (needs_listed ho hall) hr
          rw [hl j] at this; simp at this
        · omega
      subst hij
      have hoj : ops[i] = o := by rw [Array.getElem?_eq_getElem hjlt] at ho; injection ho
      rw [hoj] at h
      unfold wpList at h
      have hK : ∀ a' w', wpList P ops Q (ops.toList.drop (i + 1)) a' w' → wpAny P .any ops Q fuel (listed.setIfInBounds i true) a' w' := fun a' w' hh =>
        ih (i + 1) (by omega) (by omega) (by omega) fuel _ a' w' (by simpa using hsz) (fun m => by
          rw [getD_set_listed (by omega), hl m]
          by_cases e : i = m
          · subst e; simp
          · rw [if_neg e]
            apply decide_eq_decide.2; omega) (by omega) hh
      unfold wpOp
      rw [ho]
      simp only []
      split
      · rename_i hw
        rw [if_pos hw] at h
        exact h.imp (Oper.wp_mono hK) id
      · rename_i hw
        rw [if_neg hw] at h
        exact hK _ _ h

theorem preF_any {k N : Nat} (hs : RegSpecF fl ops k N) {a : Act} (hN : a.tmps.size = N) {w0 : World} {Φ : Nat → Value → World → Prop} {Δ : Nat → Value → Nat → Value → Prop} (hst : ∀ i v w1 w2, Ext w1 w2 → Φ i v w1 → Φ i v w2)
    (hpre : ∀ i, i < k → PreOp P ops k a w0 Φ Δ i)
    (htail : ∀ (vs : Nat → Value) (w' : World), Ext w0 w' → (∀ j, j < k → Φ j (vs j) w') → (∀ i j, i < k → j < k → i ≠ j → Δ i (vs i) j (vs j) ∨ Δ j (vs j) i (vs i)) → wpList P ops Q (ops.toList.drop k) (fill ops a vs k) w') :
    ∀ (fuel : Nat) (listed : Array Bool) (a' : Act) (w' : World), RInv ops k a w0 Φ Δ listed a' w' → (∀ f, fl.contains f = true → listed.getD f false = true) → openOnes listed ≤ fuel → wpAny P .any ops Q fuel listed a' w' := by
  -- all of the first ones have come up
  have hall : ∀ (fuel : Nat) (listed : Array Bool) (a' : Act) (w' : World), RInv ops k a w0 Φ Δ listed a' w' → (∀ i, i < k → listed.getD i false = true) → ops.size - k ≤ fuel → wpAny P .any ops Q fuel listed a' w' := by
    intro fuel listed a' w' hI hl hf
    let vs : Nat → Value := fun j => match dstOf ops j with | some t => a'.tmps.getD t undef | none => undef
    have hphi : ∀ j, j < k → Φ j (vs j) w' := fun j hjk => by
      obtain ⟨oj, dj, hoj, _, _, hdj, _⟩ := hs.pre j hjk
      have hdj' : dstOf ops j = some dj := by unfold dstOf; rw [hoj]; exact hdj
      show Φ j (match dstOf ops j with | some t => a'.tmps.getD t undef | none => undef) w'
      rw [hdj']; exact hI.phi j dj (hl j hjk) hdj'
    have hlk : ∀ j, listed.getD j false = true → j < k := fun j hj => by
      rcases Nat.lt_or_ge j k with h | h
      · exact h
      · rw [hI.tail j h] at hj; cases hj
    have hfill : fill ops a vs k = a' := by
      have ht : (fill ops a vs k).tmps = a'.tmps := by
        apply Array.ext_getElem?
        intro t
        by_cases hex : ∃ j, j < k ∧ dstOf ops j = some t
        · obtain ⟨j, hjk, hjt⟩ := hex
          obtain ⟨oj, dj, hoj, _, _, hdj, hdjN, _⟩ := hs.pre j hjk
          have hdj' : dstOf ops j = some dj := by unfold dstOf; rw [hoj]; exact hdj
          obtain rfl : dj = t := by rw [hdj'] at hjt; injection hjt
          rw [fill_at (ops := ops) a vs hjk hdj' (by rw [hN]; exact hdjN) (fun m hm hjm => by
            obtain ⟨om, dm, hom, _, _, hdm, _, hdm2, _⟩ := hs.pre m hm
            have hdm' : dstOf ops m = some dm := by unfold dstOf; rw [hom]; exact hdm
            intro e
            have : dm = dj := by rw [hdm'] at e; injection e
            exact hdm2 j hjm (by rw [hdj', this]))]
          have hlt : dj < a'.tmps.size := by rw [hI.tsz, hN]; exact hdjN
          show some (match dstOf ops j with | some t => a'.tmps.getD t undef | none => undef) = _
          rw [hdj']
          show some (a'.tmps.getD dj undef) = _
          rw [Array.getD_eq_getD_getElem?, Array.getElem?_eq_getElem hlt]; rfl
        · rw [fill_other (ops := ops) a vs (n := k) (t := t) fun j hj hjt => hex ⟨j, hj, hjt⟩]
          exact (hI.old t fun j hj hjt => hex ⟨j, hlk j hj, hjt⟩).symm
      have hd : (fill ops a vs k).defers = a'.defers := by rw [fill_defers, hI.dfr]
      cases hfa : fill ops a vs k
      cases a'
      rw [hfa] at ht hd
      simp only at ht hd
      rw [ht, hd]
    have hdis : ∀ i j, i < k → j < k → i ≠ j → Δ i (vs i) j (vs j) ∨ Δ j (vs j) i (vs i) := fun i j hik hjk hne => by
      obtain ⟨oi, di, hoi, _, _, hdi, _⟩ := hs.pre i hik
      have hdi' : dstOf ops i = some di := by unfold dstOf; rw [hoi]; exact hdi
      obtain ⟨oj, dj, hoj, _, _, hdj, _⟩ := hs.pre j hjk
      have hdj' : dstOf ops j = some dj := by unfold dstOf; rw [hoj]; exact hdj
      have e1 : vs i = a'.tmps.getD di undef := by show (match dstOf ops i with | some t => a'.tmps.getD t undef | none => undef) = _; rw [hdi']
      have e2 : vs j = a'.tmps.getD dj undef := by show (match dstOf ops j with | some t => a'.tmps.getD t undef | none => undef) = _; rw [hdj']
      rw [e1, e2]
      exact hI.dis i j di dj (hl i hik) (hl j hjk) hne hdi' hdj'
    have hw := htail vs w' hI.ext hphi hdis
    rw [hfill] at hw
    refine tailF_any hs (ops.size - k) k rfl (Nat.le_refl _) hs.le fuel listed a' w' hI.size (fun i => ?_) hf hw
    rcases Nat.lt_or_ge i k with h | h
    · rw [hl i h]; simpa using h
    · rw [hI.tail i h]; symm; simpa using h
  intro fuel
  induction fuel with
  | zero =>
    intro listed a' w' hI hFL ho
    have hnone : ∀ i, i < listed.size → listed.getD i false = true := fun i hi => by
      cases hh : listed.getD i false with
      | true => rfl
      | false => have := openOnes_set hi hh; omega
    refine hall 0 listed a' w' hI (fun i hi => hnone i (by rw [hI.size]; exact Nat.lt_of_lt_of_le hi hs.le)) ?_
    rcases Nat.lt_or_ge k ops.size with h | h
    · have h1 := hnone k (by rw [hI.size]; exact h)
      rw [hI.tail k (Nat.le_refl _)] at h1; cases h1
    · omega
  | succ fuel ih =>
    intro listed a' w' hI hFL ho
    by_cases hfull : ∀ i, i < k → listed.getD i false = true
    · refine hall _ listed a' w' hI hfull ?_
      have : ops.size - k ≤ openOnes listed := by
        have h1 : ∀ (l : List Bool) (k : Nat), (∀ i, k ≤ i → l.getD i false = false) → l.length - k ≤ (l.filter (fun b => !b)).length := by
          intro l
          induction l with
          | nil => intro k _; simp
          | cons b l ihl =>
            intro k hk
            cases k with
            | zero =>
              have h2 := ihl 0 fun i _ => by have := hk (i + 1) (by omega); simpa using this
              have h3 : b = false := by simpa using hk 0 (by omega)
              subst h3
              simp; omega
            | succ k =>
              have h2 := ihl k fun i hi => by have := hk (i + 1) (by omega); simpa using this
              simp only [List.length_cons, List.filter_cons]
              split <;> simp <;> omega
        have h4 := h1 listed.toList k fun i hi => by
          have := hI.tail i hi
          rw [Array.getD_eq_getD_getElem?] at this
          rw [List.getD_eq_getElem?_getD]
          simpa using this
        unfold openOnes
        have h5 : listed.toList.length = ops.size := by rw [Array.length_toList]; exact hI.size
        omega
      omega
    · refine ⟨fun hr => ?_, fun i hi => ?_⟩
      · exfalso
        -- the least that has not come up may come up
        obtain ⟨m, hm, hmin⟩ : ∃ m, (m < k ∧ listed.getD m false = false) ∧ ∀ j, (j < k ∧ listed.getD j false = false) → m ≤ j := by
          apply exists_least
          obtain ⟨i, hi⟩ := Classical.not_forall.1 hfull
          obtain ⟨hik, hi2⟩ := Classical.not_imp.1 hi
          exact ⟨i, hik, by simpa using hi2⟩
        have hmsz : m < ops.size := Nat.lt_of_lt_of_le hm.1 hs.le
        have : m ∈ Region.ready .any ops listed := by
          rw [mem_ready]
          refine ⟨getD_false_true hm.2 (by rw [hI.size]; exact hmsz), ops[m], Array.getElem?_eq_getElem hmsz, fun e he hb => ?_⟩
          have hmm : e.on ∈ needs ops m := (mem_needs (Array.getElem?_eq_getElem hmsz)).2 ⟨e, he, hb, rfl⟩
          have hlow := hs.lower m hmsz _ hmm
          cases hh : listed.getD e.on false with
          | true => rfl
          | false => have := hmin e.on ⟨by omega, hh⟩; omega
        rw [hr] at this
        cases this
      · obtain ⟨h0, o, hoo, hal⟩ := mem_ready.1 hi
        obtain ⟨h1, h2⟩ := getD_true_false h0
        have hnl := needs_listed hoo hal
        have hisz : i < ops.size := by rw [← hI.size]; exact h2
        rcases Nat.lt_or_ge i k with hik | hik
        · refine preOpF_step hs hN hst hik (hpre i hik) hI hnl fun a'' w'' hI' => ih _ a'' w'' hI' (fun f hf => getD_set_true (hFL f hf)) ?_
          have := openOnes_set h2 h1
          omega
        · exfalso
          apply hfull
          intro j hj
          cases hc : fl.contains j with
          | true => exact hFL j hc
          | false => exact listed_of_reaches hI.down _ _ _ hnl (hs.last i hisz hik j (by omega) hc)

/-- A value is laid into the frame. -/
theorem RInv.put {k N : Nat} (hs : RegSpecF fl ops k N) {a : Act} (hN : a.tmps.size = N) {w0 : World} {Φ : Nat → Value → World → Prop} {Δ : Nat → Value → Nat → Value → Prop} {i d : Nat} (hi : i < k) (hdi : dstOf ops i = some d) {listed : Array Bool} {a' : Act} {w' : World} (hI : RInv ops k a w0 Φ Δ listed a' w') (hneed : ∀ m ∈ needs ops i, listed.getD m false = true)
    {v : Value} (hΦ : Φ i v w') (hΔ : ∀ j u, j ≠ i → Φ j u w' → Δ j u i v) : RInv ops k a w0 Φ Δ (listed.setIfInBounds i true) (a'.put (some d) v) w' := by
  obtain ⟨o, d0, ho, hg, hsel, hd, hdN, hdist, hlook⟩ := hs.pre i hi
  have hisz : i < ops.size := Nat.lt_of_lt_of_le hi hs.le
  obtain rfl : d0 = d := by unfold dstOf at hdi; rw [ho] at hdi; rw [show (some o).bind (·.dst) = o.dst from rfl, hd] at hdi; injection hdi
  have hlk : ∀ j, listed.getD j false = true → j < k := fun j hj => by
    rcases Nat.lt_or_ge j k with h | h
    · exact h
    · rw [hI.tail j h] at hj; cases hj
  have hlt : d0 < a'.tmps.size := by rw [hI.tsz, hN]; exact hdN
  have hil : i < listed.size := by rw [hI.size]; exact hisz
  refine ⟨by simpa using hI.size, ?_, ?_, hI.ext, hI.dfr, by simpa [Act.put] using hI.tsz, ?_, ?_, ?_⟩
  · intro j hj m hm
    rw [getD_set_listed hil] at hj ⊢
    by_cases e : i = m
    · rw [if_pos e]
    · rw [if_neg e]
      by_cases e2 : i = j
      · subst e2; exact hneed m hm
      · rw [if_neg e2] at hj; exact hI.down j hj m hm
  · intro j hj
    rw [getD_set_listed hil, if_neg (by omega)]; exact hI.tail j hj
  · intro t ht
    have hne : d0 ≠ t := fun e => ht i (by rw [getD_set_listed hil, if_pos rfl]) (by rw [hdi, e])
    simp only [Act.put]
    rw [Array.getElem?_setIfInBounds_ne hne]
    exact hI.old t fun j hj => ht j (by rw [getD_set_listed hil]; split <;> first | rfl | exact hj)
  · intro j dj hj hdj
    rw [getD_set_listed hil] at hj
    by_cases e : i = j
    · subst e
      obtain rfl : d0 = dj := by rw [hdi] at hdj; injection hdj
      simp only [Act.put]
      rw [Array.getD_eq_getD_getElem?, Array.getElem?_setIfInBounds_self_of_lt hlt]
      exact hΦ
    · rw [if_neg e] at hj
      have hjk := hlk j hj
      have hne : d0 ≠ dj := by
        intro ed
        subst ed
        rcases Nat.lt_or_ge i j with h | h
        · obtain ⟨oj, dj', hoj, _, _, hdj', _, hdd, _⟩ := hs.pre j hjk
          have : dstOf ops j = some dj' := by unfold dstOf; rw [hoj]; exact hdj'
          rw [this] at hdj; injection hdj with hdj
          exact hdd i h (by rw [hdi, hdj])
        · exact hdist j (by omega) hdj
      simp only [Act.put]
      rw [Array.getD_eq_getD_getElem?, Array.getElem?_setIfInBounds_ne hne, ← Array.getD_eq_getD_getElem?]
      exact hI.phi j dj hj hdj
  · have hold : ∀ j dj, listed.getD j false = true → i ≠ j → dstOf ops j = some dj → (a'.put (some d0) v).tmps.getD dj undef = a'.tmps.getD dj undef := fun j dj hj e hdj => by
      have hjk := hlk j hj
      have hne : d0 ≠ dj := by
        intro ed
        subst ed
        rcases Nat.lt_or_ge i j with h | h
        · obtain ⟨oj, dj', hoj, _, _, hdj', _, hdd, _⟩ := hs.pre j hjk
          have : dstOf ops j = some dj' := by unfold dstOf; rw [hoj]; exact hdj'
          rw [this] at hdj; injection hdj with hdj
          exact hdd i h (by rw [hdi, hdj])
        · exact hdist j (by omega) hdj
      simp only [Act.put]
      rw [Array.getD_eq_getD_getElem?, Array.getElem?_setIfInBounds_ne hne, ← Array.getD_eq_getD_getElem?]
    have hnew : (a'.put (some d0) v).tmps.getD d0 undef = v := by
      simp only [Act.put]
      rw [Array.getD_eq_getD_getElem?, Array.getElem?_setIfInBounds_self_of_lt hlt]; rfl
    intro j m dj dm hj hm hne hdj hdm
    rw [getD_set_listed hil] at hj hm
    by_cases e1 : i = j
    · subst e1
      obtain rfl : d0 = dj := by rw [hdi] at hdj; injection hdj
      rw [if_neg hne] at hm
      rw [hnew, hold m dm hm hne hdm]
      exact .inr (hΔ m _ (fun e => hne e.symm) (hI.phi m dm hm hdm))
    · rw [if_neg e1] at hj
      by_cases e2 : i = m
      · subst e2
        obtain rfl : d0 = dm := by rw [hdi] at hdm; injection hdm
        rw [hnew, hold j dj hj e1 hdj]
        exact .inl (hΔ j _ (fun e => e1 e.symm) (hI.phi j dj hj hdj))
      · rw [if_neg e2] at hm
        rw [hold j dj hj e1 hdj, hold m dm hm e2 hdm]
        exact hI.dis j m dj dm hj hm hne hdj hdm
/-- THE RULE with two moves that may come late. -/
theorem wp_region_extF {id : Nat} {a : Act} {w : World} (f1 f2 : Nat) (k N : Nat) (Φ : Nat → Value → World → Prop) (Δ : Nat → Value → Nat → Value → Prop) (hmix : P.follows .mixedOrders = true) (hok : regOKF [f1, f2] ops k N = true) (hN : a.tmps.size = N)
    (d1 d2 : Nat) (o1 o2 : Oper) (v1 v2 : Value) (h1 : ops[f1]? = some o1) (h2 : ops[f2]? = some o2) (e1 : o1.dst = some d1) (e2 : o2.dst = some d2) (hne : f1 ≠ f2)
    (hns : Region.noSelect ops = true) (hf1 : Region.free .any ops (Array.replicate ops.size false) f1 = true) (hf2 : Region.free .any ops ((Array.replicate ops.size false).setIfInBounds f1 true) f2 = true)
    (hr1 : (Region.ready .any ops (Array.replicate ops.size false)).contains f1 = true) (hr2 : (Region.ready .any ops ((Array.replicate ops.size false).setIfInBounds f1 true)).contains f2 = true)
    (hn1 : needs ops f1 = []) (hn2 : needs ops f2 = [])
    (hQ : ∀ (d : Nat) v c a w, Q (.panic c) (a.put (some d) v) w → Q (.panic c) a w) (hy1 : Yields P ops o1 v1 a) (hy2 : Yields P ops o2 v2 (a.put (some d1) v1))
    (hphi1 : Φ f1 v1 w.drew) (hphi2 : Φ f2 v2 w.drew) (hD1 : ∀ j u, Δ j u f1 v1) (hD2 : ∀ j u, Δ j u f2 v2)
    (hst : ∀ i v w1 w2, Ext w1 w2 → Φ i v w1 → Φ i v w2)
    (hpre : ∀ i, i < k → PreOp P ops k a w.drew Φ Δ i)
    (htail : ∀ (vs : Nat → Value) (w' : World), Ext w.drew w' → (∀ j, j < k → Φ j (vs j) w') → (∀ i j, i < k → j < k → i ≠ j → Δ i (vs i) j (vs j) ∨ Δ j (vs j) i (vs i)) → wpList P ops Q (ops.toList.drop k) (fill ops a vs k) w') :
    (Code.region id ops true).wp P Q a w := by
  have hs := regOKF_spec hok
  have l1 : f1 < k := hs.flk f1 (by simp)
  have l2 : f2 < k := hs.flk f2 (by simp)
  have hz : 2 ≤ ops.size := by have := hs.le; omega
  refine wp_region_any hmix ?_
  obtain ⟨n, hn⟩ : ∃ n, ops.size = n + 1 + 1 := ⟨ops.size - 2, by omega⟩
  have hI0 : RInv ops k a w.drew Φ Δ (Array.replicate ops.size false) a w.drew := by
    refine ⟨by simp, ?_, ?_, Ext.refl _, rfl, rfl, fun _ _ => rfl, ?_, ?_⟩
    · intro i hi
      rw [Array.getD_eq_getD_getElem?, Array.getElem?_replicate] at hi
      split at hi <;> cases hi
    · intro i _
      rw [Array.getD_eq_getD_getElem?, Array.getElem?_replicate]
      split <;> rfl
    · intro i d hi
      rw [Array.getD_eq_getD_getElem?, Array.getElem?_replicate] at hi
      split at hi <;> cases hi
    · intro i j _ _ hi
      rw [Array.getD_eq_getD_getElem?, Array.getElem?_replicate] at hi
      split at hi <;> cases hi
  have hI1 := RInv.put hs hN l1 (d := d1) (by unfold dstOf; rw [h1]; exact e1) hI0 (by rw [hn1]; simp) hphi1 (fun j u _ _ => hD1 j u)
  have hI2 := RInv.put hs hN l2 (d := d2) (by unfold dstOf; rw [h2]; exact e2) hI1 (by rw [hn2]; simp) hphi2 (fun j u _ _ => hD2 j u)
  have hfin := preF_any hs hN hst hpre htail n _ _ _ hI2 (fun f hf => by
    have hsz : ((Array.replicate ops.size false).setIfInBounds f1 true).size = ops.size := by simp
    have : f = f1 ∨ f = f2 := by simpa using hf
    rcases this with rfl | rfl
    · rw [getD_set_listed (by rw [hsz]; have := hs.le; omega), if_neg (by omega), getD_set_listed (by simp; have := hs.le; omega), if_pos rfl]
    · rw [getD_set_listed (by rw [hsz]; have := hs.le; omega), if_pos rfl]) (by
    have hsz : ((Array.replicate ops.size false).setIfInBounds f1 true).size = ops.size := by simp
    have ho0 : openOnes (Array.replicate ops.size false) ≤ ops.size := by unfold openOnes; exact Nat.le_trans (List.length_filter_le _ _) (by simp)
    have g1 := openOnes_set (listed := Array.replicate ops.size false) (i := f1) (by simp; have := hs.le; omega) (by rw [Array.getD_eq_getD_getElem?, Array.getElem?_replicate]; split <;> rfl)
    have g2 := openOnes_set (listed := (Array.replicate ops.size false).setIfInBounds f1 true) (i := f2) (by rw [hsz]; have := hs.le; omega) (by rw [getD_set_listed (by simp; have := hs.le; omega), if_neg hne, Array.getD_eq_getD_getElem?, Array.getElem?_replicate]; split <;> rfl)
    omega)
  have := wpAny_take (fuel := n) h2 hns hf2 hr2 (fun c a w h => hQ d2 v2 c a w (by rw [e2] at h; exact h)) hy2 (by rw [e2]; exact hfin)
  have := wpAny_take (fuel := n + 1) h1 hns hf1 hr1 (fun c a w h => hQ d1 v1 c a w (by rw [e1] at h; exact h)) hy1 (by rw [e1]; exact this)
  rw [← hn] at this
  exact this
end
end Go.Proofs.YtonleohlplkglaaGreatDoor
