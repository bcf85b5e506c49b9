/- A statement whose order is open: operations that only read, call and make memory come first, in whatever order; then come those that must wait for all others. One obligation for each of the first; one walk of the rest. -/
import Derived.RegionTactic
import Derived.Deep.LoopGhost
import Derived.Test.YtceobmnljdhkmaaGreatDoorYA
namespace Go.Proofs.YtceobmnljdhkmaaGreatDoor
open Go Go.RowKit
section
variable {P : Program} {ops : Array Oper} {Q : Exit → Act → World → Prop}
def dstOf (ops : Array Oper) (i : Nat) : Option Tmp := (ops[i]?).bind (·.dst)
def needs (ops : Array Oper) (i : Nat) : List Nat := match ops[i]? with | some o => (o.after.toList.filter (Region.binds .any)).map (·.on) | none => []
def reaches (ops : Array Oper) : Nat → Nat → Nat → Bool
 | 0, _, _ => false
 | f + 1, j, i => (needs ops j).any fun m => m == i || reaches ops f m i
/-- The frame with the first n results filled in. -/
def fill (ops : Array Oper) (a : Act) (vs : Nat → Value) : Nat → Act
 | 0 => a
 | n + 1 => (fill ops a vs n).put (dstOf ops n) (vs n)
def noSelect : Op → Bool | .select .. => false | _ => true
/-- The checks on a region's text, for the kernel. -/
def regOK (ops : Array Oper) (k N : Nat) : Bool :=
 decide (k ≤ ops.size) &&
 (List.range ops.size).all (fun i => (needs ops i).all (· < i)) &&
 (List.range k).all (fun i => match ops[i]? with
  | some o => o.guard.isNone && noSelect o.op && (match o.dst with | some d => decide (d < N) && (List.range i).all (fun j => dstOf ops j != some d) | none => false) &&
    (o.looksAt ops).all (fun t => (List.range k).all fun j => dstOf ops j != some t || (needs ops i).contains j)
  | none => false) &&
 (List.range ops.size).all (fun j => decide (j < k) || (List.range j).all (fun i => reaches ops ops.size j i))
theorem mem_needs {i m : Nat} {o : Oper} (ho : ops[i]? = some o) : m ∈ needs ops i ↔ ∃ e ∈ o.after, Region.binds .any e = true ∧ e.on = m := by
 unfold needs
 simp only [ho, List.mem_map, List.mem_filter, Array.mem_toList_iff]
 constructor
 ·rintro ⟨e, ⟨h1, h2⟩, h3⟩; exact ⟨e, h1, h2, h3⟩
 ·rintro ⟨e, h1, h2, h3⟩; exact ⟨e, ⟨h1, h2⟩, h3⟩
structure RegSpec (ops : Array Oper) (k N : Nat) : Prop where
 le : k ≤ ops.size
 lower : ∀ i, i < ops.size → ∀ m ∈ needs ops i, m < i
 pre : ∀ i, i < k → ∃ o d, ops[i]? = some o ∧ o.guard = none ∧ (∀ cs b, o.op ≠ .select cs b) ∧ o.dst = some d ∧ d < N ∧ (∀ j, j < i → dstOf ops j ≠ some d) ∧ ∀ t ∈ o.looksAt ops, ∀ j, j < k → dstOf ops j = some t → j ∈ needs ops i
 last : ∀ j, j < ops.size → k ≤ j → ∀ i, i < j → reaches ops ops.size j i = true
theorem regOK_spec {k N : Nat} (h : regOK ops k N = true) : RegSpec ops k N := by
 simp only [regOK, Bool.and_eq_true, decide_eq_true_eq, List.all_eq_true, List.mem_range, Bool.or_eq_true] at h
 obtain ⟨⟨⟨h1, h2⟩, h3⟩, h4⟩ := h
 refine ⟨h1, fun i hi m hm => h2 i hi m hm, fun i hi => ?_, fun j hj hk i hi => ?_⟩
 ·have := h3 i hi
  cases ho : ops[i]? with
  | none => rw [ho] at this; cases this
  | some o =>
   rw [ho] at this
   simp only [Bool.and_eq_true, List.all_eq_true, List.mem_range, Bool.or_eq_true, bne_iff_ne, ne_eq, List.contains_iff_mem, Option.isNone_iff_eq_none] at this
   obtain ⟨⟨⟨g1, g2⟩, g3⟩, g4⟩ := this
   cases hd : o.dst with
   | none => rw [hd] at g3; cases g3
   | some d =>
    rw [hd] at g3
    simp only [Bool.and_eq_true, decide_eq_true_eq, List.all_eq_true, List.mem_range, bne_iff_ne, ne_eq] at g3
    refine ⟨o, d, rfl, g1, fun cs b e => ?_, hd, g3.1, g3.2, fun t ht j hj hjt => ?_⟩
    ·rw [e] at g2; cases g2
    ·rcases g4 t ht j hj with h5 | h5
     ·exact absurd hjt h5
     ·exact h5
 ·rcases h4 j hj with h5 | h5
  ·omega
  ·exact h5 i hi
theorem fill_defers (a : Act) (vs : Nat → Value) (n : Nat) : (fill ops a vs n).defers = a.defers := by
 induction n with
 | zero => rfl
 | succ n ih =>
  show ((fill ops a vs n).put (dstOf ops n) (vs n)).defers = _
  cases dstOf ops n <;> exact ih
theorem fill_size (a : Act) (vs : Nat → Value) (n : Nat) : (fill ops a vs n).tmps.size = a.tmps.size := by
 induction n with
 | zero => rfl
 | succ n ih =>
  show ((fill ops a vs n).put (dstOf ops n) (vs n)).tmps.size = _
  cases dstOf ops n with
  | none => exact ih
  | some d => simpa [Act.put] using ih
theorem fill_other (a : Act) (vs : Nat → Value) {n t : Nat} (h : ∀ j, j < n → dstOf ops j ≠ some t) : (fill ops a vs n).tmps[t]? = a.tmps[t]? := by
 induction n with
 | zero => rfl
 | succ n ih =>
  have ih := ih fun j hj => h j (by omega)
  have hn := h n (by omega)
  show ((fill ops a vs n).put (dstOf ops n) (vs n)).tmps[t]? = _
  cases hd : dstOf ops n with
  | none => exact ih
  | some d =>
   have hne : d ≠ t := fun e => hn (by rw [hd, e])
   simp only [Act.put]
   rw [Array.getElem?_setIfInBounds_ne hne]; exact ih
theorem fill_at (a : Act) (vs : Nat → Value) {n j d : Nat} (hj : j < n) (hd : dstOf ops j = some d) (hlt : d < a.tmps.size) (hne : ∀ i, i < n → j < i → dstOf ops i ≠ some d) : (fill ops a vs n).tmps[d]? = some (vs j) := by
 induction n with
 | zero => omega
 | succ n ih =>
  show ((fill ops a vs n).put (dstOf ops n) (vs n)).tmps[d]? = _
  by_cases e : j = n
  ·subst e
   rw [hd]
   simp only [Act.put]
   rw [Array.getElem?_setIfInBounds_self_of_lt (by rw [fill_size]; exact hlt)]
  ·have ih := ih (by omega) (fun i hi hji => hne i (by omega) hji)
   have hn := hne n (by omega) (by omega)
   cases hd' : dstOf ops n with
   | none => exact ih
   | some d' =>
    have hne' : d' ≠ d := fun e' => hn (by rw [hd', e'])
    simp only [Act.put]
    rw [Array.getElem?_setIfInBounds_ne hne']; exact ih
/-- What holds of the frame and the world when the listed operations have come up, all of them among the first k. -/
structure RInv (ops : Array Oper) (k : Nat) (a : Act) (w0 : World) (Φ : Nat → Value → World → Prop) (Δ : Nat → Value → Nat → Value → Prop) (listed : Array Bool) (a' : Act) (w' : World) : Prop where
 size : listed.size = ops.size
 down : ∀ i, listed.getD i false = true → ∀ m ∈ needs ops i, listed.getD m false = true
 tail : ∀ i, k ≤ i → listed.getD i false = false
 ext : Ext w0 w'
 dfr : a'.defers = a.defers
 tsz : a'.tmps.size = a.tmps.size
 old : ∀ t, (∀ i, listed.getD i false = true → dstOf ops i ≠ some t) → a'.tmps[t]? = a.tmps[t]?
 phi : ∀ i d, listed.getD i false = true → dstOf ops i = some d → Φ i (a'.tmps.getD d undef) w'
 dis : ∀ i j di dj, listed.getD i false = true → listed.getD j false = true → i ≠ j → dstOf ops i = some di → dstOf ops j = some dj → Δ i (a'.tmps.getD di undef) j (a'.tmps.getD dj undef) ∨ Δ j (a'.tmps.getD dj undef) i (a'.tmps.getD di undef)
/-- What is asked of one of the first operations, in the frame that holds the results of those before it. -/
def PreOp (P : Program) (ops : Array Oper) (k : Nat) (a : Act) (w0 : World) (Φ : Nat → Value → World → Prop) (Δ : Nat → Value → Nat → Value → Prop) (i : Nat) : Prop :=
 ∀ (vs : Nat → Value) (w' : World), Ext w0 w' → (∀ j ∈ needs ops i, j < k → Φ j (vs j) w') → ∀ o d, ops[i]? = some o → o.dst = some d →
  o.wp P (fill ops a vs i) w' (fun a'' w'' => a''.defers = a.defers ∧ Ext w' w'' ∧ Φ i (a''.tmps.getD d undef) w'' ∧ ∀ j u, j ≠ i → Φ j u w' → Δ j u i (a''.tmps.getD d undef)) (fun _ _ _ => False)
theorem getD_set_listed {listed : Array Bool} {i j : Nat} (hi : i < listed.size) : (listed.setIfInBounds i true).getD j false = (if i = j then true else listed.getD j false) := by
 by_cases e : i = j
 ·subst e; simp [hi]
 ·rw [if_neg e, Go.getD_set_ne false e]
/-- One of the first operations comes up. -/
theorem preOp_step {k N : Nat} (hs : RegSpec ops k N) {a : Act} (hN : a.tmps.size = N) {w0 : World} {Φ : Nat → Value → World → Prop} {Δ : Nat → Value → Nat → Value → Prop} (hst : ∀ i v w1 w2, Ext w1 w2 → Φ i v w1 → Φ i v w2)
  {i : Nat} (hi : i < k) (hp : PreOp P ops k a w0 Φ Δ i) {listed : Array Bool} {a' : Act} {w' : World} (hI : RInv ops k a w0 Φ Δ listed a' w')  (hneed : ∀ m ∈ needs ops i, listed.getD m false = true)
  {K : Act → World → Prop} (hK : ∀ a'' w'', RInv ops k a w0 Φ Δ (listed.setIfInBounds i true) a'' w'' → K a'' w'') : wpOp P ops Q i K a' w' := by
 obtain ⟨o, d, ho, hg, hsel, hd, hdN, hdist, hlook⟩ := hs.pre i hi
 have hisz : i < ops.size := Nat.lt_of_lt_of_le hi hs.le
 have hdi : dstOf ops i = some d := by unfold dstOf; rw [ho]; exact hd
 -- the values that the frame holds
 let vs : Nat → Value := fun j => match dstOf ops j with | some t => a'.tmps.getD t undef | none => undef
 have hlk : ∀ j, listed.getD j false = true → j < k := fun j hj => by
  rcases Nat.lt_or_ge j k with h | h
  ·exact h
  ·rw [hI.tail j h] at hj; cases hj
 have hphi : ∀ j ∈ needs ops i, j < k → Φ j (vs j) w' := fun j hj hjk => by
  obtain ⟨oj, dj, hoj, _, _, hdj, _⟩ := hs.pre j hjk
  have hdj' : dstOf ops j = some dj := by unfold dstOf; rw [hoj]; exact hdj
  have := hI.phi j dj (hneed j hj) hdj'
  show Φ j (match dstOf ops j with | some t => a'.tmps.getD t undef | none => undef) w'
  rw [hdj']; exact this
 have hw := hp vs w' hI.ext hphi o d ho hd
 -- the operation sees the same operands
 have hev : execOp a'.eval o = execOp (fill ops a vs i).eval o := execOp_congr o hsel fun x hx => by
  cases x with
  | tmp t =>
   have hin : t ∈ o.looksAt ops := List.mem_append_left _ (List.mem_filterMap.2 ⟨.tmp t, by simpa using hx, rfl⟩)
   show a'.tmps.getD t undef = (fill ops a vs i).tmps.getD t undef
   by_cases hex : ∃ j, j < k ∧ dstOf ops j = some t
   ·obtain ⟨j, hjk, hjt⟩ := hex
    have hjn := hlook t hin j hjk hjt
    have hji := hs.lower i hisz j hjn
    obtain ⟨oj, dj, hoj, _, _, hdj, hdjN, _⟩ := hs.pre j hjk
    have hdj' : dstOf ops j = some dj := by unfold dstOf; rw [hoj]; exact hdj
    obtain rfl : dj = t := by rw [hdj'] at hjt; injection hjt
    have hf := fill_at (ops := ops) a vs hji hdj' (by rw [hN]; exact hdjN) (fun m hm hjm => by
     have hmk : m < k := by omega
     obtain ⟨om, dm, hom, _, _, hdm, _, hdm2, _⟩ := hs.pre m hmk
     have hdm' : dstOf ops m = some dm := by unfold dstOf; rw [hom]; exact hdm
     intro e
     have : dm = dj := by rw [hdm'] at e; injection e
     exact hdm2 j hjm (by rw [hdj', this]))
    have hv : vs j = a'.tmps.getD dj undef := by show (match dstOf ops j with | some t => a'.tmps.getD t undef | none => undef) = _; rw [hdj']
    have hfd : (fill ops a vs i).tmps.getD dj undef = vs j := by rw [Array.getD_eq_getD_getElem?, hf]; rfl
    rw [hfd, hv]
   ·have h1 := fill_other (ops := ops) a vs (n := i) (t := t) fun j hj hjt => hex ⟨j, by omega, hjt⟩
    have h2 := hI.old t fun j hj hjt => hex ⟨j, hlk j hj, hjt⟩
    rw [Array.getD_eq_getD_getElem?, Array.getD_eq_getD_getElem?, h1, h2]
  | _ => rfl
 -- what comes behind
 have hput : ∀ v w'', Ext w' w'' → (Φ i v w'' ∧ ∀ j u, j ≠ i → Φ j u w' → Δ j u i v) → K (a'.put o.dst v) w'' := fun v w'' hx ⟨hΦ, hΔ⟩ => by
  apply hK
  rw [hd]
  have hlt : d < a'.tmps.size := by rw [hI.tsz, hN]; exact hdN
  have hil : i < listed.size := by rw [hI.size]; exact hisz
  refine ⟨by simpa using hI.size, ?_, ?_, hI.ext.trans hx, hI.dfr, by simpa [Act.put] using hI.tsz, ?_, ?_, ?_⟩
  ·intro j hj m hm
   rw [getD_set_listed hil] at hj ⊢
   by_cases e : i = m
   ·rw [if_pos e]
   ·rw [if_neg e]
    by_cases e2 : i = j
    ·subst e2; exact hneed m hm
    ·rw [if_neg e2] at hj; exact hI.down j hj m hm
  ·intro j hj
   rw [getD_set_listed hil, if_neg (by omega)]; exact hI.tail j hj
  ·intro t ht
   have hne : d ≠ t := fun e => ht i (by rw [getD_set_listed hil, if_pos rfl]) (by rw [hdi, e])
   simp only [Act.put]
   rw [Array.getElem?_setIfInBounds_ne hne]
   exact hI.old t fun j hj => ht j (by rw [getD_set_listed hil]; split <;> first | rfl | exact hj)
  ·intro j dj hj hdj
   rw [getD_set_listed hil] at hj
   by_cases e : i = j
   ·subst e
    obtain rfl : d = dj := by rw [hdi] at hdj; injection hdj
    simp only [Act.put]
    rw [Array.getD_eq_getD_getElem?, Array.getElem?_setIfInBounds_self_of_lt hlt]
    exact hΦ
   ·rw [if_neg e] at hj
    have hjk := hlk j hj
    have hne : d ≠ dj := by
     intro ed
     subst ed
     rcases Nat.lt_or_ge i j with h | h
     ·obtain ⟨oj, dj', hoj, _, _, hdj', _, hdd, _⟩ := hs.pre j hjk
      have : dstOf ops j = some dj' := by unfold dstOf; rw [hoj]; exact hdj'
      rw [this] at hdj; injection hdj with hdj
      exact hdd i h (by rw [hdi, hdj])
     ·exact hdist j (by omega) hdj
    simp only [Act.put]
    rw [Array.getD_eq_getD_getElem?, Array.getElem?_setIfInBounds_ne hne, ← Array.getD_eq_getD_getElem?]
    exact hst _ _ _ _ hx (hI.phi j dj hj hdj)
  ·have hold : ∀ j dj, listed.getD j false = true → i ≠ j → dstOf ops j = some dj → (a'.put (some d) v).tmps.getD dj undef = a'.tmps.getD dj undef := fun j dj hj e hdj => by
    have hjk := hlk j hj
    have hne : d ≠ dj := by
     intro ed
     subst ed
     rcases Nat.lt_or_ge i j with h | h
     ·obtain ⟨oj, dj', hoj, _, _, hdj', _, hdd, _⟩ := hs.pre j hjk
      have : dstOf ops j = some dj' := by unfold dstOf; rw [hoj]; exact hdj'
      rw [this] at hdj; injection hdj with hdj
      exact hdd i h (by rw [hdi, hdj])
     ·exact hdist j (by omega) hdj
    simp only [Act.put]
    rw [Array.getD_eq_getD_getElem?, Array.getElem?_setIfInBounds_ne hne, ← Array.getD_eq_getD_getElem?]
   have hnew : (a'.put (some d) v).tmps.getD d undef = v := by
    simp only [Act.put]
    rw [Array.getD_eq_getD_getElem?, Array.getElem?_setIfInBounds_self_of_lt hlt]; rfl
   intro j m dj dm hj hm hne hdj hdm
   rw [getD_set_listed hil] at hj hm
   by_cases e1 : i = j
   ·subst e1
    obtain rfl : d = dj := by rw [hdi] at hdj; injection hdj
    rw [if_neg hne] at hm
    rw [hnew, hold m dm hm hne hdm]
    exact .inr (hΔ m _ (fun e => hne e.symm) (hI.phi m dm hm hdm))
   ·rw [if_neg e1] at hj
    by_cases e2 : i = m
    ·subst e2
     obtain rfl : d = dm := by rw [hdi] at hdm; injection hdm
     rw [hnew, hold j dj hj e1 hdj]
     exact .inl (hΔ j _ (fun e => e1 e.symm) (hI.phi j dj hj hdj))
    ·rw [if_neg e2] at hm
     rw [hold j dj hj e1 hdj, hold m dm hm e2 hdm]
     exact hI.dis j m dj dm hj hm hne hdj hdm
 have hfd : (fill ops a vs i).defers = a.defers := fill_defers a vs i
 have hfs : d < (fill ops a vs i).tmps.size := by rw [fill_size, hN]; exact hdN
 have hget : ∀ v, ((fill ops a vs i).put o.dst v).tmps.getD d undef = v := fun v => by
  rw [hd]; simp only [Act.put]
  rw [Array.getD_eq_getD_getElem?, Array.getElem?_setIfInBounds_self_of_lt hfs]; rfl
 unfold wpOp
 rw [ho]
 simp only [Region.wanted, hg, if_true]
 refine .inl ?_
 unfold Oper.wp at hw ⊢
 rw [hev]
 generalize (execOp (fill ops a vs i).eval o).run P w' = r at *
 cases r with
 | ok n w1 =>
  cases n with
  | value v =>
   simp only [Oper.upon] at hw ⊢
   rw [hget] at hw
   exact hput v w1 hw.2.1 hw.2.2
  | skip =>
   simp only [Oper.upon] at hw ⊢
   rw [hget] at hw
   exact hput undef w1 hw.2.1 hw.2.2
  | defer df =>
   simp only [Oper.upon] at hw
   have := hw.1
   rw [hd] at this
   simp only [Act.put, hfd] at this
   exact absurd this (by intro e; exact (List.cons_ne_self df _) e)
  | enter f args =>
   simp only [Oper.upon] at hw ⊢
   refine Calls.mono hw fun e w2 he => ?_
   cases e with
   | returned v =>
    simp only [] at he ⊢
    rw [hget] at he; exact hput v w2 he.2.1 he.2.2
   | panicked c => exact he.elim
   | outgrown => obtain ⟨_, _, hf⟩ := he; exact hf.elim
  | row row args =>
   simp only [Oper.upon] at hw ⊢
   exact Rows.mono hw fun v w2 he => by rw [hget] at he; exact hput v w2 he.2.1 he.2.2
  | _ => exact hw.elim
 | halt x w1 => cases x <;> exact hw.elim
theorem getD_true_false {listed : Array Bool} {i : Nat} (h : listed.getD i true = false) : listed.getD i false = false ∧ i < listed.size := by
 rw [Array.getD_eq_getD_getElem?] at h ⊢
 cases hh : listed[i]? with
 | none => rw [hh] at h; cases h
 | some b => rw [hh] at h; exact ⟨h, (Array.getElem?_eq_some_iff.1 hh).1⟩
theorem getD_false_true {listed : Array Bool} {i : Nat} (h : listed.getD i false = false) (hi : i < listed.size) : listed.getD i true = false := by
 rw [Array.getD_eq_getD_getElem?] at h ⊢
 rw [Array.getElem?_eq_getElem hi] at h ⊢
 exact h
theorem listed_of_reaches {listed : Array Bool} (hdown : ∀ i, listed.getD i false = true → ∀ m ∈ needs ops i, listed.getD m false = true) :
  ∀ (f j i : Nat), (∀ m ∈ needs ops j, listed.getD m false = true) → reaches ops f j i = true → listed.getD i false = true := by
 intro f
 induction f with
 | zero => intro j i _ h; cases h
 | succ f ih =>
  intro j i hn h
  simp only [reaches, List.any_eq_true, Bool.or_eq_true, beq_iff_eq] at h
  obtain ⟨m, hm, rfl | hr⟩ := h
  ·exact hn m hm
  ·exact ih m i (hdown m (hn m hm)) hr
theorem needs_listed {listed : Array Bool} {i : Nat} {o : Oper} (ho : ops[i]? = some o) (h : ∀ e ∈ o.after, Region.binds .any e = true → listed.getD e.on false = true) : ∀ m ∈ needs ops i, listed.getD m false = true := by
 intro m hm
 obtain ⟨e, he, hb, rfl⟩ := (mem_needs ho).1 hm
 exact h e he hb
/-- The last operations come up one behind the other. -/
theorem tail_any {k N : Nat} (hs : RegSpec ops k N) : ∀ (n j : Nat), n = ops.size - j → k ≤ j → j ≤ ops.size → ∀ (fuel : Nat) (listed : Array Bool) (a : Act) (w : World), listed.size = ops.size → (∀ i, listed.getD i false = decide (i < j)) → n ≤ fuel →
  wpList P ops Q (ops.toList.drop j) a w → wpAny P .any ops Q fuel listed a w := by
 intro n
 induction n with
 | zero =>
  intro j hn hk hj fuel listed a w hsz hl hf h
  have hjj : j = ops.size := by omega
  subst hjj
  rw [List.drop_of_length_le (by simp)] at h
  refine wpAny_done ?_ h fuel
  rw [List.eq_nil_iff_forall_not_mem]
  intro i hi
  obtain ⟨h0, o, ho, _⟩ := mem_ready.1 hi
  obtain ⟨h1, h2⟩ := getD_true_false h0
  rw [hl i] at h1
  simp at h1
  omega
 | succ n ih =>
  intro j hn hk hj fuel listed a w hsz hl hf h
  have hjlt : j < ops.size := by omega
  obtain ⟨fuel, rfl⟩ : ∃ f, fuel = f + 1 := ⟨fuel - 1, by omega⟩
  have hdown : ∀ i, listed.getD i false = true → ∀ m ∈ needs ops i, listed.getD m false = true := fun i hi m hm => by
   rw [hl i] at hi
   have hi' : i < j := by simpa using hi
   have := hs.lower i (by omega) m hm
   rw [hl m]; simp; omega
  have hdrop : ops.toList.drop j = ops[j] :: ops.toList.drop (j + 1) := by
   rw [List.drop_eq_getElem_cons (by simpa using hjlt)]; simp
  rw [hdrop] at h
  refine ⟨fun hr => ?_, fun i hi => ?_⟩
  ·exfalso
   have : j ∈ Region.ready .any ops listed := by
    rw [mem_ready]
    refine ⟨getD_false_true (by rw [hl j]; simp) (by omega), ops[j], Array.getElem?_eq_getElem hjlt, fun e he hb => ?_⟩
    have hm : e.on ∈ needs ops j := (mem_needs (Array.getElem?_eq_getElem hjlt)).2 ⟨e, he, hb, rfl⟩
    have := hs.lower j hjlt _ hm
    rw [hl e.on]; simpa using this
   rw [hr] at this
   cases this
  ·obtain ⟨h0, o, ho, hall⟩ := mem_ready.1 hi
   obtain ⟨h1, h2⟩ := getD_true_false h0
   have hji : j ≤ i := by rw [hl i] at h1; simpa using h1
   have hij : i = j := by
    rcases Nat.lt_or_ge j i with hlt | hge
    ·have hr := hs.last i (by omega) (by omega) j hlt
     have := listed_of_reaches hdown _ _ _ (needs_listed ho hall) hr
     rw [hl j] at this; simp at this
    ·omega
   subst hij
   have hoj : ops[i] = o := by rw [Array.getElem?_eq_getElem hjlt] at ho; injection ho
   rw [hoj] at h
   unfold wpList at h
   have hK : ∀ a' w', wpList P ops Q (ops.toList.drop (i + 1)) a' w' → wpAny P .any ops Q fuel (listed.setIfInBounds i true) a' w' := fun a' w' hh =>
    ih (i + 1) (by omega) (by omega) (by omega) fuel _ a' w' (by simpa using hsz) (fun m => by
     rw [getD_set_listed (by omega), hl m]
     by_cases e : i = m
     ·subst e; simp
     ·rw [if_neg e]
      apply decide_eq_decide.2; omega) (by omega) hh
   unfold wpOp
   rw [ho]
   simp only []
   split
   ·rename_i hw
    rw [if_pos hw] at h
    exact h.imp (Oper.wp_mono hK) id
   ·rename_i hw
    rw [if_neg hw] at h
    exact hK _ _ h
/-- How many operations have not come up. -/
def openOnes (listed : Array Bool) : Nat := (listed.toList.filter (fun b => !b)).length
theorem openOnes_set {listed : Array Bool} {i : Nat} (hi : i < listed.size) (h : listed.getD i false = false) : openOnes (listed.setIfInBounds i true) + 1 = openOnes listed := by
 unfold openOnes
 rw [Array.toList_setIfInBounds]
 obtain ⟨l⟩ := listed
 simp only [List.size_toArray] at hi
 have hget : l[i] = false := by
  rw [Array.getD_eq_getD_getElem?] at h
  simpa [List.getElem?_eq_getElem hi] using h
 clear h
 show ((l.set i true).filter (fun b => !b)).length + 1 = (l.filter (fun b => !b)).length
 induction l generalizing i with
 | nil => simp at hi
 | cons b l ih =>
  cases i with
  | zero =>
   simp only [List.getElem_cons_zero] at hget
   subst hget
   simp
  | succ i =>
   simp only [List.getElem_cons_succ] at hget
   have := ih (by simpa using hi) hget
   simp only [List.set_cons_succ, List.filter_cons]
   split
   ·simp only [List.length_cons]; omega
   ·exact this
theorem pre_any {k N : Nat} (hs : RegSpec ops k N) {a : Act} (hN : a.tmps.size = N) {w0 : World} {Φ : Nat → Value → World → Prop} {Δ : Nat → Value → Nat → Value → Prop} (hst : ∀ i v w1 w2, Ext w1 w2 → Φ i v w1 → Φ i v w2)
  (hpre : ∀ i, i < k → PreOp P ops k a w0 Φ Δ i)
  (htail : ∀ (vs : Nat → Value) (w' : World), Ext w0 w' → (∀ j, j < k → Φ j (vs j) w') → (∀ i j, i < k → j < k → i ≠ j → Δ i (vs i) j (vs j) ∨ Δ j (vs j) i (vs i)) → wpList P ops Q (ops.toList.drop k) (fill ops a vs k) w') :
  ∀ (fuel : Nat) (listed : Array Bool) (a' : Act) (w' : World), RInv ops k a w0 Φ Δ listed a' w' → openOnes listed ≤ fuel → wpAny P .any ops Q fuel listed a' w' := by
 -- all of the first ones have come up
 have hall : ∀ (fuel : Nat) (listed : Array Bool) (a' : Act) (w' : World), RInv ops k a w0 Φ Δ listed a' w' → (∀ i, i < k → listed.getD i false = true) → ops.size - k ≤ fuel → wpAny P .any ops Q fuel listed a' w' := by
  intro fuel listed a' w' hI hl hf
  let vs : Nat → Value := fun j => match dstOf ops j with | some t => a'.tmps.getD t undef | none => undef
  have hphi : ∀ j, j < k → Φ j (vs j) w' := fun j hjk => by
   obtain ⟨oj, dj, hoj, _, _, hdj, _⟩ := hs.pre j hjk
   have hdj' : dstOf ops j = some dj := by unfold dstOf; rw [hoj]; exact hdj
   show Φ j (match dstOf ops j with | some t => a'.tmps.getD t undef | none => undef) w'
   rw [hdj']; exact hI.phi j dj (hl j hjk) hdj'
  have hlk : ∀ j, listed.getD j false = true → j < k := fun j hj => by
   rcases Nat.lt_or_ge j k with h | h
   ·exact h
   ·rw [hI.tail j h] at hj; cases hj
  have hfill : fill ops a vs k = a' := by
   have ht : (fill ops a vs k).tmps = a'.tmps := by
    apply Array.ext_getElem?
    intro t
    by_cases hex : ∃ j, j < k ∧ dstOf ops j = some t
    ·obtain ⟨j, hjk, hjt⟩ := hex
     obtain ⟨oj, dj, hoj, _, _, hdj, hdjN, _⟩ := hs.pre j hjk
     have hdj' : dstOf ops j = some dj := by unfold dstOf; rw [hoj]; exact hdj
     obtain rfl : dj = t := by rw [hdj'] at hjt; injection hjt
     rw [fill_at (ops := ops) a vs hjk hdj' (by rw [hN]; exact hdjN) (fun m hm hjm => by
      obtain ⟨om, dm, hom, _, _, hdm, _, hdm2, _⟩ := hs.pre m hm
      have hdm' : dstOf ops m = some dm := by unfold dstOf; rw [hom]; exact hdm
      intro e
      have : dm = dj := by rw [hdm'] at e; injection e
      exact hdm2 j hjm (by rw [hdj', this]))]
     have hlt : dj < a'.tmps.size := by rw [hI.tsz, hN]; exact hdjN
     show some (match dstOf ops j with | some t => a'.tmps.getD t undef | none => undef) = _
     rw [hdj']
     show some (a'.tmps.getD dj undef) = _
     rw [Array.getD_eq_getD_getElem?, Array.getElem?_eq_getElem hlt]; rfl
    ·rw [fill_other (ops := ops) a vs (n := k) (t := t) fun j hj hjt => hex ⟨j, hj, hjt⟩]
     exact (hI.old t fun j hj hjt => hex ⟨j, hlk j hj, hjt⟩).symm
   have hd : (fill ops a vs k).defers = a'.defers := by rw [fill_defers, hI.dfr]
   cases hfa : fill ops a vs k
   cases a'
   rw [hfa] at ht hd
   simp only at ht hd
   rw [ht, hd]
  have hdis : ∀ i j, i < k → j < k → i ≠ j → Δ i (vs i) j (vs j) ∨ Δ j (vs j) i (vs i) := fun i j hik hjk hne => by
   obtain ⟨oi, di, hoi, _, _, hdi, _⟩ := hs.pre i hik
   have hdi' : dstOf ops i = some di := by unfold dstOf; rw [hoi]; exact hdi
   obtain ⟨oj, dj, hoj, _, _, hdj, _⟩ := hs.pre j hjk
   have hdj' : dstOf ops j = some dj := by unfold dstOf; rw [hoj]; exact hdj
   have e1 : vs i = a'.tmps.getD di undef := by show (match dstOf ops i with | some t => a'.tmps.getD t undef | none => undef) = _; rw [hdi']
   have e2 : vs j = a'.tmps.getD dj undef := by show (match dstOf ops j with | some t => a'.tmps.getD t undef | none => undef) = _; rw [hdj']
   rw [e1, e2]
   exact hI.dis i j di dj (hl i hik) (hl j hjk) hne hdi' hdj'
  have hw := htail vs w' hI.ext hphi hdis
  rw [hfill] at hw
  refine tail_any hs (ops.size - k) k rfl (Nat.le_refl _) hs.le fuel listed a' w' hI.size (fun i => ?_) hf hw
  rcases Nat.lt_or_ge i k with h | h
  ·rw [hl i h]; simpa using h
  ·rw [hI.tail i h]; symm; simpa using h
 intro fuel
 induction fuel with
 | zero =>
  intro listed a' w' hI ho
  have hnone : ∀ i, i < listed.size → listed.getD i false = true := fun i hi => by
   cases hh : listed.getD i false with
   | true => rfl
   | false => have := openOnes_set hi hh; omega
  refine hall 0 listed a' w' hI (fun i hi => hnone i (by rw [hI.size]; exact Nat.lt_of_lt_of_le hi hs.le)) ?_
  rcases Nat.lt_or_ge k ops.size with h | h
  ·have h1 := hnone k (by rw [hI.size]; exact h)
   rw [hI.tail k (Nat.le_refl _)] at h1; cases h1
  ·omega
 | succ fuel ih =>
  intro listed a' w' hI ho
  by_cases hfull : ∀ i, i < k → listed.getD i false = true
  ·refine hall _ listed a' w' hI hfull ?_
   have : ops.size - k ≤ openOnes listed := by
    have h1 : ∀ (l : List Bool) (k : Nat), (∀ i, k ≤ i → l.getD i false = false) → l.length - k ≤ (l.filter (fun b => !b)).length := by
     intro l
     induction l with
     | nil => intro k _; simp
     | cons b l ihl =>
      intro k hk
      cases k with
      | zero =>
       have h2 := ihl 0 fun i _ => by have := hk (i + 1) (by omega); simpa using this
       have h3 : b = false := by simpa using hk 0 (by omega)
       subst h3
       simp; omega
      | succ k =>
       have h2 := ihl k fun i hi => by have := hk (i + 1) (by omega); simpa using this
       simp only [List.length_cons, List.filter_cons]
       split <;> simp <;> omega
    have h4 := h1 listed.toList k fun i hi => by
     have := hI.tail i hi
     rw [Array.getD_eq_getD_getElem?] at this
     rw [List.getD_eq_getElem?_getD]
     simpa using this
    unfold openOnes
    have h5 : listed.toList.length = ops.size := by rw [Array.length_toList]; exact hI.size
    omega
   omega
  ·refine ⟨fun hr => ?_, fun i hi => ?_⟩
   ·exfalso
    -- the least that has not come up may come up
    obtain ⟨m, hm, hmin⟩ : ∃ m, (m < k ∧ listed.getD m false = false) ∧ ∀ j, (j < k ∧ listed.getD j false = false) → m ≤ j := by
     apply exists_least
     obtain ⟨i, hi⟩ := Classical.not_forall.1 hfull
     obtain ⟨hik, hi2⟩ := Classical.not_imp.1 hi
     exact ⟨i, hik, by simpa using hi2⟩
    have hmsz : m < ops.size := Nat.lt_of_lt_of_le hm.1 hs.le
    have : m ∈ Region.ready .any ops listed := by
     rw [mem_ready]
     refine ⟨getD_false_true hm.2 (by rw [hI.size]; exact hmsz), ops[m], Array.getElem?_eq_getElem hmsz, fun e he hb => ?_⟩
     have hmm : e.on ∈ needs ops m := (mem_needs (Array.getElem?_eq_getElem hmsz)).2 ⟨e, he, hb, rfl⟩
     have hlow := hs.lower m hmsz _ hmm
     cases hh : listed.getD e.on false with
     | true => rfl
     | false => have := hmin e.on ⟨by omega, hh⟩; omega
    rw [hr] at this
    cases this
   ·obtain ⟨h0, o, hoo, hal⟩ := mem_ready.1 hi
    obtain ⟨h1, h2⟩ := getD_true_false h0
    have hnl := needs_listed hoo hal
    have hisz : i < ops.size := by rw [← hI.size]; exact h2
    rcases Nat.lt_or_ge i k with hik | hik
    ·refine preOp_step hs hN hst hik (hpre i hik) hI hnl fun a'' w'' hI' => ih _ a'' w'' hI' ?_
     have := openOnes_set h2 h1
     omega
    ·exfalso
     apply hfull
     intro j hj
     exact listed_of_reaches hI.down _ _ _ hnl (hs.last i hisz hik j (by omega))
/-- THE RULE. The first k operations in whatever order, each by its own obligation; the rest walked behind them. -/
theorem wp_region_ext {id : Nat} {a : Act} {w : World} (k N : Nat) (Φ : Nat → Value → World → Prop) (Δ : Nat → Value → Nat → Value → Prop) (hmix : P.follows .mixedOrders = true) (hok : regOK ops k N = true) (hN : a.tmps.size = N)
  (hst : ∀ i v w1 w2, Ext w1 w2 → Φ i v w1 → Φ i v w2)
  (hpre : ∀ i, i < k → PreOp P ops k a w.drew Φ Δ i)
  (htail : ∀ (vs : Nat → Value) (w' : World), Ext w.drew w' → (∀ j, j < k → Φ j (vs j) w') → (∀ i j, i < k → j < k → i ≠ j → Δ i (vs i) j (vs j) ∨ Δ j (vs j) i (vs i)) → wpList P ops Q (ops.toList.drop k) (fill ops a vs k) w') :
  (Code.region id ops true).wp P Q a w := by
 have hs := regOK_spec hok
 refine wp_region_any hmix ?_
 refine pre_any hs hN (w0 := w.drew) hst hpre htail ops.size (Array.replicate ops.size false) a _ ⟨by simp, ?_, ?_, Ext.refl _, rfl, rfl, fun _ _ => rfl, ?_, ?_⟩ ?_
 ·intro i hi
  rw [Array.getD_eq_getD_getElem?, Array.getElem?_replicate] at hi
  split at hi <;> cases hi
 ·intro i _
  rw [Array.getD_eq_getD_getElem?, Array.getElem?_replicate]
  split <;> rfl
 ·intro i d hi
  rw [Array.getD_eq_getD_getElem?, Array.getElem?_replicate] at hi
  split at hi <;> cases hi
 ·intro i j _ _ hi
  rw [Array.getD_eq_getD_getElem?, Array.getElem?_replicate] at hi
  split at hi <;> cases hi
 ·unfold openOnes
  exact Nat.le_trans (List.length_filter_le _ _) (by simp)
end
end Go.Proofs.YtceobmnljdhkmaaGreatDoor
namespace Go.Proofs.YtceobmnljdhkmaaGreatDoor
open Go Go.RowKit
section
variable {P : Program} {ops : Array Oper} {Q : Exit → Act → World → Prop}
def One (ds : List Deferred) (d : Nat) (w : World) (φ : Value → World → Prop) (δ : Value → Prop) : Exit → Act → World → Prop
 | .normal, a, w' => a.defers = ds ∧ Ext w w' ∧ φ (a.tmps.getD d undef) w' ∧ δ (a.tmps.getD d undef)
 | _, _, _ => False
theorem oper_mono2 {o : Oper} {a : Act} {w : World} {K K' : Act → World → Prop} {Q Q' : Exit → Act → World → Prop} (h : ∀ a w, K a w → K' a w) (hq : ∀ c a w, Q (.panic c) a w → Q' (.panic c) a w) (ho : LetsOut Q → LetsOut Q')
  (hh : o.wp P a w K Q) : o.wp P a w K' Q' := by
 unfold Oper.wp at *
 generalize (execOp a.eval o).run P w = r at *
 cases r with
 | ok n w' =>
  cases n <;> simp only [Oper.upon] at hh ⊢ <;>
   first
    | exact h _ _ hh
    | exact Calls.mono hh (fun e w'' he => by cases e <;> first | exact h _ _ he | exact hq _ _ _ he | exact ho he)
    | exact Rows.mono hh (fun _ _ he => h _ _ he)
 | halt x w' => cases x <;> simp only [Oper.upon] at hh ⊢ <;> first | exact hq _ _ _ hh | exact hh
theorem PreOp.of {k : Nat} {a : Act} {w0 : World} {Φ : Nat → Value → World → Prop} {Δ : Nat → Value → Nat → Value → Prop} {i : Nat} (o : Oper) (d : Nat) (ho : ops[i]? = some o) (hd : o.dst = some d) (hg : o.guard = none)
  (h : ∀ (vs : Nat → Value) (w' : World), Ext w0 w' → (∀ j, (needs ops i).contains j = true → j < k → Φ j (vs j) w') → wpList P ops (One a.defers d w' (Φ i) (fun v => ∀ j u, j ≠ i → Φ j u w' → Δ j u i v)) [o] (fill ops a vs i) w') : PreOp P ops k a w0 Φ Δ i := by
 intro vs w' hx hn o' d' ho' hd'
 rw [ho] at ho'; cases ho'
 rw [hd] at hd'; cases hd'
 have := h vs w' hx (fun j hj => hn j (by simpa using hj))
 unfold wpList at this
 rw [if_pos (by simp [Region.wanted, hg])] at this
 rcases this with h1 | ⟨_, _, _, h1⟩
 ·refine oper_mono2 ?_ ?_ ?_ h1
  ·exact fun a w h => h
  ·exact fun c a w h => h.elim
  ·rintro ⟨a, w, h⟩; exact h.elim
 ·exact h1.elim
def AllLt (p : Nat → Prop) : Nat → Prop | 0 => True | n + 1 => AllLt p n ∧ p n
theorem AllLt.all {p : Nat → Prop} {k : Nat} (h : AllLt p k) : ∀ i, i < k → p i := by
 induction k with
 | zero => intro i hi; omega
 | succ k ih =>
  intro i hi
  rcases Nat.lt_or_ge i k with h1 | h1
  ·exact ih h.1 i h1
  ·have : i = k := by omega
   subst this; exact h.2
end
end Go.Proofs.YtceobmnljdhkmaaGreatDoor
