/- Plain Lean: the errors of sketches with many equal items. -/
import Derived.Test.YtonleohlplkglaaGreatDoorYO
import Derived.ArgAppend
import Derived.Test.YtonleohlplkglaaGreatDoorYM
namespace Go.Proofs.YtonleohlplkglaaGreatDoor
open Go Go.RowKit
theorem hasL_mono {n n' i : Int} (h : hasL n i = true) (hn : n ≤ n') : hasL n' i = true := by
 simp only [hasL, Bool.and_eq_true, decide_eq_true_eq] at h ⊢
 omega
theorem withinL_mono {xs : List Int} {n n' : Int} (h : withinL xs n = true) (hn : n ≤ n') : withinL xs n' = true := by
 simp only [withinL, List.all_eq_true, Bool.and_eq_true, decide_eq_true_eq] at h ⊢
 intro x hx
 have := h x hx
 omega
theorem validC_mono {K : Nat} {c : CI} {np np' nc : Int} (h : validC K c np nc = true) (hn : np ≤ np') : validC K c np' nc = true := by
 unfold validC at h ⊢
 cases hk : kRow c.kind with
 | none => rw [hk] at h; cases h
 | some r =>
  rw [hk] at h
  simp only [headC, Bool.and_eq_true] at h ⊢
  obtain ⟨⟨⟨⟨⟨h1, h2⟩, h3⟩, h4⟩, h5⟩, h6⟩ := h
  exact ⟨⟨⟨⟨⟨h1, withinL_mono h2 hn⟩, h3⟩, h4⟩, h5⟩, h6⟩
theorem chainFrom_same {s s' : SkI} (h1 : s'.segs = s.segs) (h2 : s'.arcs = s.arcs) : ∀ (c : List PcI) (prev : Option Int), chainFrom s' prev c = chainFrom s prev c
 | [], _ => rfl
 | p :: l, prev => by
  have e1 : okPc s' p = okPc s p := by unfold okPc; rw [h1, h2]
  have e2 : endsOf s' p = endsOf s p := by unfold endsOf; rw [h1, h2]
  simp only [chainFrom, e1, e2, chainFrom_same h1 h2 l]
theorem chainL_same {s s' : SkI} (h1 : s'.segs = s.segs) (h2 : s'.arcs = s.arcs) (c : List PcI) : chainL s' c = chainL s c := by
 unfold chainL; rw [chainFrom_same h1 h2]
theorem endsOf_more {s s' : SkI} {l : List SgI} (h1 : s'.segs = s.segs ++ l) (h2 : s'.arcs = s.arcs) {p : PcI} (h : okPc s p = true) : endsOf s' p = endsOf s p := by
 unfold endsOf
 rw [h1, h2]
 cases hp : p.arc with
 | true => rfl
 | false =>
  unfold okPc at h
  rw [hp] at h
  simp only [Bool.false_eq_true, if_false, hasL, Bool.and_eq_true, decide_eq_true_eq] at h ⊢
  rw [List.getElem?_append_left (by omega)]
theorem okPc_more {s s' : SkI} {l : List SgI} (h1 : s'.segs = s.segs ++ l) (h2 : s'.arcs = s.arcs) {p : PcI} (h : okPc s p = true) : okPc s' p = true := by
 unfold okPc at h ⊢
 rw [h1, h2]
 cases hp : p.arc with
 | true => rw [hp] at h; exact h
 | false =>
  rw [hp] at h
  exact hasL_mono h (by rw [List.length_append]; omega)
theorem chainFrom_more {s s' : SkI} {l : List SgI} (h1 : s'.segs = s.segs ++ l) (h2 : s'.arcs = s.arcs) : ∀ (c : List PcI) (prev : Option Int), chainFrom s prev c = true → chainFrom s' prev c = true
 | [], _, _ => rfl
 | p :: c, prev, h => by
  simp only [chainFrom, Bool.and_eq_true] at h ⊢
  obtain ⟨⟨h3, h4⟩, h5⟩ := h
  have e := endsOf_more h1 h2 h3
  exact ⟨⟨okPc_more h1 h2 h3, by rw [e]; exact h4⟩, by rw [e]; exact chainFrom_more h1 h2 c _ h5⟩
theorem few_all {s : SkI} (h : manyL s = false) : (∀ c ∈ s.chains, c.length ≤ 200) ∧ s.points.length ≤ 200 ∧ s.circles.length ≤ 200 ∧ s.segs.length ≤ 200 ∧ s.arcs.length ≤ 200 ∧ s.chains.length ≤ 200 ∧ s.cons.length ≤ 200 := by
 simp only [manyL, Bool.or_eq_false_iff, decide_eq_false_iff_not, List.any_eq_false, decide_eq_true_eq] at h
 obtain ⟨⟨⟨⟨⟨⟨h1, h2⟩, h3⟩, h4⟩, h5⟩, h6⟩, h7⟩ := h
 refine ⟨fun c hc => ?_, by omega, by omega, by omega, by omega, by omega, by omega⟩
 have := h1 c hc
 omega
theorem few_of {s : SkI} (h0 : ∀ c ∈ s.chains, c.length ≤ 200) (h1 : s.points.length ≤ 200) (h2 : s.circles.length ≤ 200) (h3 : s.segs.length ≤ 200) (h4 : s.arcs.length ≤ 200) (h5 : s.chains.length ≤ 200) (h6 : s.cons.length ≤ 200) : manyL s = false := by
 simp only [manyL, Bool.or_eq_false_iff, decide_eq_false_iff_not, List.any_eq_false, decide_eq_true_eq]
 refine ⟨⟨⟨⟨⟨⟨fun c hc => ?_, by omega⟩, by omega⟩, by omega⟩, by omega⟩, by omega⟩, by omega⟩
 have := h0 c hc
 omega
theorem errS_many {K : Nat} {s : SkI} (h : manyL s = true) : errS K s = 3 := by simp [errS, h]
theorem errS_zero {K : Nat} {s : SkI} (h : errS K s = 0) : manyL s = false ∧ okS K s = true := by
 unfold errS at h
 cases hm : manyL s with
 | true => rw [hm] at h; cases h
 | false =>
  cases ho : okS K s with
  | true => exact ⟨rfl, rfl⟩
  | false => rw [hm, ho] at h; cases h
theorem big_points {K : Nat} {s : SkI} {p : PtI} {m : Nat} (h : errS K s = 0) (hp : p ∈ s.points) : errS K { s with points := s.points ++ List.replicate m p } = if 200 < s.points.length + m then 3 else 0 := by
 obtain ⟨hm, ho⟩ := errS_zero h
 obtain ⟨f0, f1, f2, f3, f4, f5, f6⟩ := few_all hm
 split
 ·rename_i hn
  refine errS_many ?_
  simp only [manyL, Bool.or_eq_true, decide_eq_true_eq, List.length_append, List.length_replicate]
  exact .inl (.inl (.inl (.inl (.inl (.inr hn)))))
 ·rename_i hn
  refine errS_ok (few_of f0 (by simp only [List.length_append, List.length_replicate]; omega) f2 f3 f4 f5 f6) ?_
  unfold okS at ho ⊢
  simp only [Bool.and_eq_true, List.all_eq_true] at ho ⊢
  obtain ⟨⟨⟨⟨⟨h1, h2⟩, h3⟩, h4⟩, h5⟩, h6⟩ := ho
  have hle : (s.points.length : Int) ≤ ((s.points ++ List.replicate m p).length : Int) := by rw [List.length_append]; omega
  refine ⟨⟨⟨⟨⟨fun q hq => ?_, fun c hc => ?_⟩, fun g hg => ?_⟩, fun a ha => ?_⟩, fun c hc => ?_⟩, fun c hc => ?_⟩
  ·rcases List.mem_append.1 hq with hq | hq
   ·exact h1 q hq
   ·rw [List.eq_of_mem_replicate hq]; exact h1 p hp
  ·have := h2 c hc
   simp only [okRd, Bool.and_eq_true] at this ⊢
   exact ⟨⟨hasL_mono this.1.1 hle, this.1.2⟩, this.2⟩
  ·have := h3 g hg
   simp only [okSg, Bool.and_eq_true] at this ⊢
   exact ⟨⟨hasL_mono this.1.1 hle, hasL_mono this.1.2 hle⟩, this.2⟩
  ·have := h4 a ha
   simp only [okAr, Bool.and_eq_true] at this ⊢
   exact ⟨⟨⟨⟨this.1.1.1.1, hasL_mono this.1.1.1.2 hle⟩, hasL_mono this.1.1.2 hle⟩, this.1.2⟩, this.2⟩
  ·exact (chainL_same (s := s) (by rfl) (by rfl) c).trans (h5 c hc)
  ·exact validC_mono (h6 c hc) hle
theorem big_segs {K : Nat} {s : SkI} {p : SgI} {m : Nat} (h : errS K s = 0) (hp : p ∈ s.segs) : errS K { s with segs := s.segs ++ List.replicate m p } = if 200 < s.segs.length + m then 3 else 0 := by
 obtain ⟨hm, ho⟩ := errS_zero h
 obtain ⟨f0, f1, f2, f3, f4, f5, f6⟩ := few_all hm
 split
 ·rename_i hn
  refine errS_many ?_
  simp only [manyL, Bool.or_eq_true, decide_eq_true_eq, List.length_append, List.length_replicate]
  exact .inl (.inl (.inl (.inr hn)))
 ·rename_i hn
  refine errS_ok (few_of f0 f1 f2 (by simp only [List.length_append, List.length_replicate]; omega) f4 f5 f6) ?_
  unfold okS at ho ⊢
  simp only [Bool.and_eq_true, List.all_eq_true] at ho ⊢
  obtain ⟨⟨⟨⟨⟨h1, h2⟩, h3⟩, h4⟩, h5⟩, h6⟩ := ho
  refine ⟨⟨⟨⟨⟨h1, h2⟩, fun g hg => ?_⟩, h4⟩, fun c hc => ?_⟩, h6⟩
  ·rcases List.mem_append.1 hg with hg | hg
   ·exact h3 g hg
   ·rw [List.eq_of_mem_replicate hg]; exact h3 p hp
  ·have := h5 c hc
   simp only [chainL, Bool.and_eq_true] at this ⊢
   exact ⟨chainFrom_more (s := s) (l := List.replicate m p) (by rfl) (by rfl) c none this.1, this.2⟩
/-- There and back along the first segment. -/
def zig (n : Nat) : List PcI := (List.range n).map fun i => ⟨false, 0, decide (i % 2 = 1)⟩
theorem zig_from {s : SkI} (h0 : 0 < s.segs.length) : ∀ (k i : Nat) (prev : Option Int), (prev = none ∨ prev = some (endsOf s ⟨false, 0, decide (i % 2 = 1)⟩).1) →
  chainFrom s prev ((List.range' i k).map fun i => ⟨false, 0, decide (i % 2 = 1)⟩) = true
 | 0, _, _, _ => rfl
 | k + 1, i, prev, hp => by
  rw [List.range'_succ, List.map_cons]
  simp only [chainFrom, Bool.and_eq_true]
  refine ⟨⟨?_, ?_⟩, zig_from h0 k (i + 1) _ (.inr ?_)⟩
  ·simp [okPc, hasL]; omega
  ·rcases hp with rfl | rfl
   ·rfl
   ·simp
  ·congr 1
   rcases Nat.mod_two_eq_zero_or_one i with h | h
   ·have h' : (i + 1) % 2 = 1 := by omega
    simp [endsOf, h, h']
   ·have h' : (i + 1) % 2 = 0 := by omega
    simp [endsOf, h, h']
theorem big_chain {K : Nat} {s : SkI} {n : Nat} (h : errS K s = 0) (h0 : 0 < s.segs.length) (hn : 0 < n) (hc : s.chains.length < 200) : errS K { s with chains := s.chains ++ [zig n] } = if 200 < n then 3 else 0 := by
 obtain ⟨hm, ho⟩ := errS_zero h
 obtain ⟨f0, f1, f2, f3, f4, f5, f6⟩ := few_all hm
 have hz : (zig n).length = n := by simp [zig]
 split
 ·rename_i h2
  refine errS_many ?_
  simp only [manyL, Bool.or_eq_true, List.any_append, List.any_cons, hz, decide_eq_true_eq]
  exact .inl (.inl (.inl (.inl (.inl (.inl (.inr (.inl h2)))))))
 ·rename_i h2
  refine errS_ok (few_of (fun c hc => ?_) f1 f2 f3 f4 (by simp only [List.length_append, List.length_singleton]; omega) f6) ?_
  ·rcases List.mem_append.1 hc with hc | hc
   ·exact f0 c hc
   ·rw [List.mem_singleton] at hc
    rw [hc, hz]; omega
  ·unfold okS at ho ⊢
   simp only [Bool.and_eq_true, List.all_eq_true] at ho ⊢
   obtain ⟨⟨⟨⟨⟨h1, h2⟩, h3⟩, h4⟩, h5⟩, h6⟩ := ho
   refine ⟨⟨⟨⟨⟨h1, h2⟩, h3⟩, h4⟩, fun c hc => ?_⟩, h6⟩
   refine (chainL_same (s := s) (by rfl) (by rfl) c).trans ?_
   rcases List.mem_append.1 hc with hc | hc
   ·exact h5 c hc
   ·rw [List.mem_singleton] at hc
    subst hc
    simp only [chainL, Bool.and_eq_true, decide_eq_true_eq]
    refine ⟨?_, by omega⟩
    unfold zig
    rw [List.range_eq_range']
    exact zig_from h0 n 0 none (.inl rfl)
theorem big_none {K : Nat} {s : SkI} {n : Nat} (h : errS K s = 0) (hn : 0 < n) : errS K { s with segs := List.replicate n ⟨0, 0⟩, chains := [] } = if 200 < n then 3 else 1 := by
 obtain ⟨hm, ho⟩ := errS_zero h
 obtain ⟨f0, f1, f2, f3, f4, f5, f6⟩ := few_all hm
 split
 ·rename_i h2
  refine errS_many ?_
  simp only [manyL, Bool.or_eq_true, decide_eq_true_eq, List.length_replicate]
  exact .inl (.inl (.inl (.inr h2)))
 ·rename_i h2
  refine errS_bad (few_of (fun c hc => by cases hc) f1 f2 (by rw [List.length_replicate]; omega) f4 (by simp) f6) ?_
  rw [Bool.eq_false_iff]
  intro h3
  unfold okS at h3
  simp only [Bool.and_eq_true, List.all_eq_true] at h3
  have := h3.1.1.1.2 ⟨0, 0⟩ (List.mem_replicate.2 ⟨by omega, rfl⟩)
  simp [okSg] at this
end Go.Proofs.YtonleohlplkglaaGreatDoor
namespace Go.Proofs.YtonleohlplkglaaGreatDoor
open Go Go.RowKit
theorem arr_of_own {α : Type} {T sz base : Nat} {R : World → List Value → α → Prop} {w : World} {v : Value} {l : List α} {xs : List Value} (ho : w.ownsRow base T sz v l.length xs) (hel : ∀ k x, l[k]? = some x → ∃ ds, ds.length = sz ∧ (∀ j u, ds[j]? = some u → xs[k * sz + j]? = some u) ∧ R w ds x) (hl : l.length ≤ 1000000) : ArrAt sz R w v l := by
 rcases ho.2 with ⟨rfl, hn⟩ | ⟨g, cap, cur, rfl, hb, hg, hcap, hcm, hcs, htk⟩
 ·obtain rfl := List.eq_nil_of_length_eq_zero hn
  exact ArrAt.nil
 ·refine ⟨some ⟨g, 0, none⟩, cap, rfl, hcap, by omega, fun _ => ⟨g, 0, rfl, (Array.getElem?_eq_some_iff.1 hg).1, fun k x hk => ?_⟩⟩
  obtain ⟨ds, h1, h2, h3⟩ := hel k x hk
  refine ⟨ds, h1, fun j u hj => ?_, h3⟩
  have h6 := h2 j u hj
  rw [← htk, List.getElem?_take] at h6
  split at h6
  ·rw [cell_of_row w g _ cur _ _ hg, Nat.zero_add]
   simpa using h6
  ·cases h6
/-- What lies behind a slice, as cells. -/
theorem arr_cells {α : Type} {sz : Nat} {R : World → List Value → α → Prop} {w : World} {A : Option Addr} {n c : Nat} {l : List α} (h : ArrAt sz R w (.slice A n c) l) :
  ∃ olds : List Value, olds.length = n * sz ∧ (∀ b, A = some b → ∀ j u, olds[j]? = some u → w.cell? (b.add j) = some u) ∧ (A = none → n = 0) ∧ (∀ u ∈ olds, ∃ (k : Nat) (x : α) (cs : List Value), l[k]? = some x ∧ R w cs x ∧ u ∈ cs) ∧ ∀ k x, l[k]? = some x → ∃ ds, ds.length = sz ∧ (∀ j u, ds[j]? = some u → olds[k * sz + j]? = some u) ∧ R w ds x := by
 obtain ⟨A', c', hv, -, -, hc⟩ := h
 obtain ⟨rfl, rfl, rfl⟩ : A = A' ∧ n = l.length ∧ c = c' := by injection hv with h1 h2 h3; exact ⟨h1, h2, h3⟩
 by_cases hne : l = []
 ·subst hne
  exact ⟨[], by simp, fun _ _ j u h => by simp at h, fun _ => rfl, fun u h => by simp at h, fun k x h => by simp at h⟩
 ·obtain ⟨b, off, rfl, -, hel⟩ := hc hne
  obtain ⟨olds, h1, h2, h3, h4⟩ := ArrAt.flat hel
  exact ⟨olds, h1, (fun b' e => by injection e with e; subst e; exact h2), (fun h => by cases h), h3, h4⟩
theorem run_append_full {P : Program} (w : World) (t ty e : TypeId) (i : TypeInfo) (z : Value) (size bytes : Nat) (ht : P.underlying t = some (.slice e)) (hi : P.info? e = some i) (hz : i.zero = some z) (hsize : i.size = size) (hby : i.bytes = bytes) (hzs : z.cells.size = size) (hsz : 0 < size)
  {α : Type} {R : World → List Value → α → Prop} (hR : Stable R) {A : Option Addr} {n : Nat} {l : List α} (hrow : ArrAt size R w (.slice A n n) l) {ad : Addr} {m c : Nat} {ys : List α} (hm : 0 < m) (hsrc : ArrAt size R w (.slice (some ad) m c) ys) (hone : ∀ w ds x, R w ds x → ∀ u ∈ ds, u.oneCell' = true)
  (h63 : n + m ≤ 1000000) (hbytes : (n + m) * bytes ≤ 140737488355328) :
  ∃ g c' w', (Builtin.append_ #[t, t] ty #[.slice A n n, .slice (some ad) m c]).run P w = .ok (.slice (some ⟨g, 0, none⟩) (n + m) c') w' ∧ w.heap.size ≤ g ∧ ArrAt size R w' (.slice (some ⟨g, 0, none⟩) (n + m) c') (l ++ ys) ∧ Ext w w' := by
 have hn := hrow.len.1
 have hm' := hsrc.len.1
 obtain ⟨olds, o1, o2, o3, o4, o5⟩ := arr_cells hrow
 obtain ⟨news, n1, n2, n3, n4, n5⟩ := arr_cells hsrc
 have key : ∃ v' w', (Builtin.append_ #[t, t] ty #[.slice A n n, .slice (some ad) m c]).run P w = .ok v' w' ∧ w'.ownsRow w.heap.size e size v' (n + m) (olds ++ news) ∧ w.grownBy w' none := by
  cases A with
  | some b =>
   exact run_append_arg_grows (P := P) w t ty e i z size bytes ht hi hz hsize hby hzs hsz b n n olds o1 (o2 b rfl) ad m c news n1 (n2 ad rfl) (by omega) (by unfold maxLen; omega) hbytes
  | none =>
   obtain rfl := o3 rfl
   obtain rfl : olds = [] := List.eq_nil_of_length_eq_zero (by simpa using o1)
   obtain ⟨v', w', hrun, r1, r2, _⟩ := run_append_own (P := P) w w.heap.size t ty e i z size bytes ht hi hz hsize hby hzs hsz (.slice none 0 0) 0 [] (World.ownsRow_nil w _ e size) ad m c news n1 (n2 ad rfl) (fun u hu => by
    obtain ⟨k, x, cs, _, h2, h3⟩ := n4 u hu
    exact hone _ _ _ h2 u h3) (by unfold maxLen; omega) hbytes (Nat.le_refl _)
   exact ⟨v', w', hrun, r1, r2⟩
 obtain ⟨v', w', hrun, hown, hg⟩ := key
 have hx : Ext w w' := Ext.grown hg
 obtain ⟨g, cap, rfl, hbg, -⟩ := hown.form (by omega)
 refine ⟨g, cap, w', hrun, hbg, ?_, hx⟩
 refine arr_of_own (xs := olds ++ news) (by rw [List.length_append, ← hn, ← hm']; exact hown) (fun k x hk => ?_) (by rw [List.length_append, ← hn, ← hm']; omega)
 rcases Nat.lt_or_ge k l.length with hlt | hge
 ·rw [List.getElem?_append_left hlt] at hk
  obtain ⟨ds, h1, h2, h3⟩ := o5 k x hk
  refine ⟨ds, h1, fun j u hj => ?_, hR _ _ _ _ hx h3⟩
  have := h2 j u hj
  rw [List.getElem?_append_left ((List.getElem?_eq_some_iff.1 this).1)]
  exact this
 ·rw [List.getElem?_append_right hge] at hk
  obtain ⟨ds, h1, h2, h3⟩ := n5 _ x hk
  refine ⟨ds, h1, fun j u hj => ?_, hR _ _ _ _ hx h3⟩
  have := h2 j u hj
  rw [List.getElem?_append_right (by rw [o1, hn]; have := Nat.mul_le_mul_right size hge; omega)]
  rw [show k * size + j - olds.length = (k - l.length) * size + j by rw [o1, hn, Nat.sub_mul]; have := Nat.mul_le_mul_right size hge; omega]
  exact this
theorem wp_append_full {P : Program} (w : World) {o : Oper} {a : Act} {K : Act → World → Prop} {Q : Exit → Act → World → Prop} (s x : Operand) (t : TypeId)
  (ho : o.op = .call { callee := .builtin .append, args := #[s, x], argTypes := #[t, t] })
  (e : TypeId) (i : TypeInfo) (z : Value) (size bytes : Nat) (ht : P.underlying t = some (.slice e)) (hi : P.info? e = some i) (hz : i.zero = some z) (hsize : i.size = size) (hby : i.bytes = bytes) (hzs : z.cells.size = size) (hsz : 0 < size)
  {α : Type} {R : World → List Value → α → Prop} (hR : Stable R) {A : Option Addr} {n : Nat} {l : List α} (hs : a.eval s = .slice A n n) (hrow : ArrAt size R w (.slice A n n) l) {ad : Addr} {m c : Nat} {ys : List α} (hx : a.eval x = .slice (some ad) m c) (hm : 0 < m) (hsrc : ArrAt size R w (.slice (some ad) m c) ys) (hone : ∀ w ds x, R w ds x → ∀ u ∈ ds, u.oneCell' = true)
  (h63 : n + m ≤ 1000000) (hbytes : (n + m) * bytes ≤ 140737488355328)
  (h : ∀ g c' w', w.heap.size ≤ g → ArrAt size R w' (.slice (some ⟨g, 0, none⟩) (n + m) c') (l ++ ys) → Ext w w' → K (a.put o.dst (.slice (some ⟨g, 0, none⟩) (n + m) c')) w') : o.wp P a w K Q := by
 obtain ⟨g, c', w', hr, hb, h2, h3⟩ := run_append_full (P := P) w t o.type e i z size bytes ht hi hz hsize hby hzs hsz hR hrow hm hsrc hone h63 hbytes
 unfold Oper.wp execOp
 simp only [ho, resolve, invoke, builtin, Sem.run_bind, Sem.run_pure, Result.andThen_ok, List.map_toArray, List.map_cons, List.map_nil, hs, hx, hr]
 exact h g c' w' hb h2 h3
theorem wpList_append_full {P : Program} (w : World) {ops : Array Oper} {rest : List Oper} {o : Oper} {a : Act} {Q : Exit → Act → World → Prop} (hgd : o.guard = none) (s x : Operand) (t : TypeId)
  (ho : o.op = .call { callee := .builtin .append, args := #[s, x], argTypes := #[t, t] })
  (e : TypeId) (i : TypeInfo) (z : Value) (size bytes : Nat) (ht : P.underlying t = some (.slice e)) (hi : P.info? e = some i) (hz : i.zero = some z) (hsize : i.size = size) (hby : i.bytes = bytes) (hzs : z.cells.size = size) (hsz : 0 < size)
  {α : Type} {R : World → List Value → α → Prop} (hR : Stable R) {A : Option Addr} {n : Nat} {l : List α} (hs : a.eval s = .slice A n n) (hrow : ArrAt size R w (.slice A n n) l) {ad : Addr} {m c : Nat} {ys : List α} (hx : a.eval x = .slice (some ad) m c) (hm : 0 < m) (hsrc : ArrAt size R w (.slice (some ad) m c) ys) (hone : ∀ w ds x, R w ds x → ∀ u ∈ ds, u.oneCell' = true)
  (h63 : n + m ≤ 1000000) (hbytes : (n + m) * bytes ≤ 140737488355328)
  (h : ∀ g c' w', w.heap.size ≤ g → ArrAt size R w' (.slice (some ⟨g, 0, none⟩) (n + m) c') (l ++ ys) → Ext w w' → wpList P ops Q rest (a.put o.dst (.slice (some ⟨g, 0, none⟩) (n + m) c')) w') : wpList P ops Q (o :: rest) a w :=
 wpList_plain hgd fun _ hK => wp_append_full w s x t ho e i z size bytes ht hi hz hsize hby hzs hsz hR hs hrow hx hm hsrc hone h63 hbytes fun g c' w' hb h2 h3 => hK _ _ (h g c' w' hb h2 h3)
theorem ArrAt.full {α : Type} {sz : Nat} {R : World → List Value → α → Prop} {w : World} {A : Option Addr} {n c : Nat} {xs : List α} (h : ArrAt sz R w (.slice A n c) xs) : ArrAt sz R w (.slice A n n) xs := by
 obtain ⟨A', c', hv, hl, hm, hc⟩ := h
 obtain ⟨rfl, rfl, rfl⟩ : A = A' ∧ n = xs.length ∧ c = c' := by injection hv with h1 h2 h3; exact ⟨h1, h2, h3⟩
 exact ⟨A, _, rfl, Nat.le_refl _, hm, hc⟩
theorem arr_far {α : Type} {sz : Nat} {S : List Value → α → Prop} {w : World} {a : Addr} {n c : Nat} {xs : List α} (h : ArrAt sz (fun _ => S) w (.slice (some a) n c) xs) {p : Addr} (hp : a.block ≠ p.block) (u : Value) : ArrAt sz (fun _ => S) (w.setCell p u) (.slice (some a) n c) xs := by
 obtain ⟨A', c', hv, hl, hm, hc⟩ := h
 refine ⟨A', c', hv, hl, hm, fun hne => ?_⟩
 obtain ⟨b, off, rfl, hb, hel⟩ := hc hne
 have e : a = ⟨b, off, none⟩ := by injection hv with h1 _ _; injection h1
 subst e
 refine ⟨b, off, rfl, by simpa [World.setCell] using hb, fun k x hk => ?_⟩
 obtain ⟨cs, h1, h2, h3⟩ := hel k x hk
 refine ⟨cs, h1, fun j u' hj => ?_, h3⟩
 rw [World.cell?_setCell_other _ _ _ _ (by intro e; exact hp (by rw [e]))]
 exact h2 j u' hj
/-- One element in a block of its own. -/
theorem arr_one {α : Type} {sz : Nat} {R : World → List Value → α → Prop} {w : World} {g c : Nat} {x : α} {cs : List Value} (hg : g < w.heap.size) (hl : cs.length = sz) (hc : ∀ j u, cs[j]? = some u → w.cell? ⟨g, j, none⟩ = some u) (hR : R w cs x) (h1 : 1 ≤ c) : ArrAt sz R w (.slice (some ⟨g, 0, none⟩) 1 c) [x] :=
 ⟨some ⟨g, 0, none⟩, c, rfl, h1, by simp, fun _ => ⟨g, 0, rfl, hg, fun k y hk => by
  match k, hk with
  | 0, hk =>
   simp only [List.getElem?_cons_zero, Option.some.injEq] at hk
   subst hk
   exact ⟨cs, hl, fun j u hj => by rw [Nat.zero_mul, Nat.zero_add, Nat.zero_add]; exact hc j u hj, hR⟩
  | k + 1, hk => simp at hk⟩⟩
end Go.Proofs.YtonleohlplkglaaGreatDoor
