
import Derived.Test.YtceobmnljdhkmaaGreatDoorYP
import Derived.Lib.AppendZeros
/- operations: parts of slices, len, append -/
namespace Go.Proofs.YtceobmnljdhkmaaGreatDoor.Ev
open Go
variable {r : AV × St} {P : Program} {Γ : Map}
theorem optK_spec (hg : Glob Γ) {L V : Env} {a : Act} (hl : SlR Γ L V a.tmps) {x : Option Operand} {d : Nat} {k : Nat → OR} (h : optK x d L V k = some r) : ∃ n, k n = some r ∧ ((x = none ∧ n = d) ∨ ∃ o ki, x = some o ∧ a.eval o = .int ki (n : Int)) := by
  cases x with
  | none => exact ⟨d, h, .inl ⟨rfl, rfl⟩⟩
  | some o =>
    obtain ⟨v, hv, h⟩ := opd_spec hg hl (h : opd o L V (fun a => asN a k) = some r)
    obtain ⟨ki, n, rfl, h'⟩ := asN_spec h
    exact ⟨n, h', .inr ⟨o, ki, rfl, hv.inv_i⟩⟩
theorem run_bound (k : IntKind) (n y : Nat) (c : BoundsCode) (h : n ≤ y) (w : World) : (Instr.sliceBound (.int k (n : Int)) y c).run P w = .ok n w := by
  have h' : (0 : Int) ≤ (n : Int) ∧ (n : Int) ≤ (y : Int) := by omega
  simp only [Instr.sliceBound, asIntOf, Sem.run_bind, Sem.run_pure, Result.andThen_ok, Sem.run_ite, if_pos h', Int.toNat_natCast]
/-- The bounds of a part: low, high, and where its capacity ends. -/
def Bnd (ρ : Operand → Value) (x : Option Operand) (d n : Nat) : Prop := (x = none ∧ n = d) ∨ ∃ o ki, x = some o ∧ ρ o = .int ki (n : Int)
theorem run_bounds {ρ : Operand → Value} {lo hi mx : Option Operand} {len cap l h m : Nat} (hl : Bnd ρ lo 0 l) (hh : Bnd ρ hi len h) (hm : Bnd ρ mx cap m) (h1 : l ≤ h) (h2 : h ≤ m) (h3 : m ≤ cap) (hx : mx ≠ none → hi ≠ none) (w : World) :
    (Instr.sliceBounds true len cap (lo.map ρ) (hi.map ρ) (mx.map ρ)).run P w = .ok (l, h, m) w := by
  unfold Instr.sliceBounds
  rcases hm with ⟨rfl, rfl⟩ | ⟨om, km, rfl, em⟩
  · rcases hh with ⟨rfl, rfl⟩ | ⟨oh, kh, rfl, eh⟩
    · rcases hl with ⟨rfl, rfl⟩ | ⟨ol, kl, rfl, el⟩
      · simp
      · simp [el, run_bound _ _ _ _ h1]
    · rcases hl with ⟨rfl, rfl⟩ | ⟨ol, kl, rfl, el⟩
      · simp [eh, run_bound _ _ _ _ h2]
      · simp [eh, el, run_bound _ _ _ _ h2, run_bound _ _ _ _ h1]
  · rcases hh with ⟨rfl, rfl⟩ | ⟨oh, kh, rfl, eh⟩
    · exact absurd rfl (hx (by simp))
    · rcases hl with ⟨rfl, rfl⟩ | ⟨ol, kl, rfl, el⟩
      · simp [em, eh, run_bound _ _ _ _ h2, run_bound _ _ _ _ h3]
      · simp [em, eh, el, run_bound _ _ _ _ h2, run_bound _ _ _ _ h1, run_bound _ _ _ _ h3]
theorem run_slice {t e : TypeId} (hu : P.underlying t = some (.slice e)) (hk : known P e = true) {x : Value} {base : Option Addr} {len cap l h m : Nat} (hx : x = .slice base len cap) {lo hi mx : Option Value} {w : World}
    (hb : (Instr.sliceBounds true len cap lo hi mx).run P w = .ok (l, h, m) w) :
    (Instr.sliceAt t x lo hi mx).run P w = .ok (.slice (if m = l then base else base.map (·.add (l * szOf P e))) (h - l) (m - l)) w := by
  subst hx
  simp only [Instr.sliceAt, Instr.slice, Sem.run_bind, und_run hu, Result.andThen_ok, hb, run_sizeOf hk, Sem.run_pure]
theorem slK3_spec {id : Id} {off sz len : Nat} {cap : Option Nat} {l h : Nat} {k : KA} (hh : slK3 id off sz len cap l h k = some r) :
    h ≤ len ∧ l ≤ h ∧ ((l = h ∧ l = 0 ∧ k (.sl id off 0 cap sz) = some r) ∨ (l = h ∧ l ≠ 0 ∧ k .se = some r) ∨ (l ≠ h ∧ k (.sl id (off + l * sz) (h - l) (cap.map (· - l)) sz) = some r)) := by
  obtain ⟨h1, hh⟩ := ifK_yes hh
  obtain ⟨h2, hh⟩ := ifK_yes hh
  refine ⟨Nat.le_of_ble_eq_true h1, Nat.le_of_ble_eq_true h2, ?_⟩
  rcases ifK_spec hh with ⟨h3, hh⟩ | ⟨h3, hh⟩
  · have h3 := Nat.eq_of_beq_eq_true h3
    rcases ifK_spec hh with ⟨h4, hh⟩ | ⟨h4, hh⟩
    · exact .inl ⟨h3, Nat.eq_of_beq_eq_true h4, hh⟩
    · exact .inr (.inl ⟨h3, Nat.ne_of_beq_eq_false h4, hh⟩)
  · refine .inr (.inr ⟨Nat.ne_of_beq_eq_false h3, ?_⟩)
    cases cap <;> exact hh
/-- The part of a slice that reads as the evaluator's. -/
theorem slice_rel {id : Id} {off sz len p s c l h m : Nat} {cap : Option Nat} {k : KA} (hh : slK3 id off sz len cap l h k = some r) (hp : Γ id = some (p, s)) (hm : h ≤ m) (hmc : ∀ q, cap = some q → m = q) (hmc2 : m ≤ c) (hs : off + c * sz ≤ s) :
    l ≤ h ∧ h ≤ len ∧ ∃ av, k av = some r ∧ CR Γ av (.slice (if m = l then some ⟨p, off, none⟩ else (some (⟨p, off, none⟩ : Addr)).map (·.add (l * sz))) (h - l) (m - l)) := by
  obtain ⟨h1, h2, h3⟩ := slK3_spec hh
  refine ⟨h2, h1, ?_⟩
  have hms : off + m * sz ≤ s := by have := Nat.mul_le_mul_right sz hmc2; omega
  rcases h3 with ⟨rfl, rfl, h3⟩ | ⟨rfl, h0, h3⟩ | ⟨hne, h3⟩
  · refine ⟨_, h3, ?_⟩
    have e : (if m = 0 then some (⟨p, off, none⟩ : Addr) else (some (⟨p, off, none⟩ : Addr)).map (·.add (0 * sz))) = some ⟨p, off, none⟩ := by
      split
      · rfl
      · simp [add_at]
    rw [e]
    exact .sl hp (by omega) (fun q hq => by rw [hmc q hq]; omega) (by simpa using hms)
  · refine ⟨_, h3, ?_⟩
    have e : ∃ a, (if m = l then some (⟨p, off, none⟩ : Addr) else (some (⟨p, off, none⟩ : Addr)).map (·.add (l * sz))) = some a := by
      split
      · exact ⟨_, rfl⟩
      · exact ⟨_, rfl⟩
    obtain ⟨a, e⟩ := e
    rw [e, show l - l = 0 by omega]
    exact .se a _
  · refine ⟨_, h3, ?_⟩
    rw [if_neg (by omega)]
    simp only [Option.map_some, add_at]
    refine .sl hp (by omega) (fun q hq => ?_) ?_
    · cases cap with
      | none => cases hq
      | some q0 => simp only [Option.map_some, Option.some.injEq] at hq; rw [← hq, hmc q0 rfl]
    · have : l * sz + (m - l) * sz = m * sz := by rw [← Nat.add_mul]; congr 1; omega
      omega
theorem sliceK_ok (t : TypeId) (x : Operand) (lo hi mx : Option Operand) : OpOK P (sliceK P t x lo hi mx) (.slice t x lo hi mx) := fun {L V st k r Γ a w o} ho h hs hl => by
  obtain ⟨e, he, h⟩ := oR_spec h
  obtain ⟨hk, h⟩ := bR_spec h
  rw [Bool.and_eq_true] at hk
  obtain ⟨hk, hmx0⟩ := hk
  have hmx : mx ≠ none → hi ≠ none := fun h1 h2 => by
    subst h2
    cases mx with
    | none => exact h1 rfl
    | some _ => cases hmx0
  obtain ⟨vx, hx, h⟩ := opd_spec hs.glob hl h
  have hu := elemT_spec he
  have hexec : ∀ v, (Instr.sliceAt t (a.eval x) (lo.map a.eval) (hi.map a.eval) (mx.map a.eval)).run P w = .ok v w → (execOp a.eval o).run P w = .ok (.value v) w := fun v hv => by
    simp only [execOp, ho, Sem.run_bind, hv, Result.andThen_ok]; rfl
  rcases asS_spec h with ⟨rfl, h'⟩ | ⟨_, h'⟩ | ⟨id, off, len, cap, sz, rfl, h'⟩
  · obtain ⟨e1, _⟩ := hx.inv_v
    obtain ⟨n1, h', b1⟩ := optK_spec hs.glob hl h'
    obtain ⟨z1, h'⟩ := ifK_yes h'
    obtain ⟨n2, h', b2⟩ := optK_spec hs.glob hl h'
    obtain ⟨z2, h'⟩ := ifK_yes h'
    obtain ⟨n3, h', b3⟩ := optK_spec hs.glob hl h'
    obtain ⟨z3, h'⟩ := ifK_yes h'
    obtain rfl := Nat.eq_of_beq_eq_true z1
    obtain rfl := Nat.eq_of_beq_eq_true z2
    obtain rfl := Nat.eq_of_beq_eq_true z3
    have hb := run_bounds (P := P) (ρ := a.eval) (len := 0) (cap := 0) b1 b2 b3 (by omega) (by omega) (by omega) hmx w
    have := run_slice hu hk e1 hb
    refine ⟨_, st, h', .pure hs (hexec _ this) ?_⟩
    have e2 : (if (0 : Nat) = 0 then (none : Option Addr) else (none : Option Addr).map (·.add (0 * szOf P e))) = none := by simp
    rw [e2]; exact .v ⟨(fun _ e => by cases e), (fun _ e => by cases e)⟩
  · cases h'
  · obtain ⟨g0, h'⟩ := ifK_yes h'
    obtain rfl := Nat.eq_of_beq_eq_true g0
    obtain ⟨p, s, c, hp, e1, hlc, hcap, hsz⟩ := hx.inv_sl
    obtain ⟨l, h', b1⟩ := optK_spec hs.glob hl h'
    obtain ⟨hh, h', b2⟩ := optK_spec hs.glob hl h'
    cases mx with
    | none =>
      have h' : slK3 id off (szOf P e) len cap l hh (fun v => k v st) = some r := h'
      obtain ⟨hle, _, _⟩ := slK3_spec h'
      obtain ⟨g1, g2, av, g3, g4⟩ := slice_rel h' hp (m := c) (c := c) (by omega) hcap (Nat.le_refl _) hsz
      have hb := run_bounds (P := P) (ρ := a.eval) (len := len) (cap := c) b1 b2 (.inl ⟨rfl, rfl⟩ : Bnd a.eval none c c) g1 (by omega) (Nat.le_refl _) (fun h => absurd rfl h) w
      exact ⟨av, st, g3, .pure hs (hexec _ (run_slice hu hk e1 hb)) g4⟩
    | some om =>
      obtain ⟨vm, hvm, h'⟩ := opd_spec hs.glob hl (h' : opd om L V _ = some r)
      obtain ⟨km, m, rfl, h''⟩ := asN_spec h'
      obtain ⟨q1, h''⟩ := ifK_yes h''
      obtain ⟨q2, h''⟩ := ifK_yes h''
      have q1 := Nat.le_of_ble_eq_true q1
      have q2 := Nat.le_of_ble_eq_true q2
      obtain ⟨g1, g2, av, g3, g4⟩ := slice_rel h'' hp (m := m) (c := c) q2 (fun q hq => by injection hq) (by omega) hsz
      have hb := run_bounds (P := P) (ρ := a.eval) (len := len) (cap := c) b1 b2 (.inr ⟨om, km, rfl, hvm.inv_i⟩ : Bnd a.eval (some om) c m) g1 q2 (by omega) hmx w
      exact ⟨av, st, g3, .pure hs (hexec _ (run_slice hu hk e1 hb)) g4⟩
theorem isStr_spec {t : TypeId} (h : isStr P t = true) : P.underlying t = some .string := by unfold isStr at h; split at h <;> first | assumption | cases h
theorem lenS_spec {t : TypeId} {y : AV} {v : Value} (hy : CR Γ y v) {k : KA} (h : lenS P t y k = some r) : ∃ n : Nat, k (.i .i64 n) = some r ∧ ∀ (tys : Array TypeId) (ty : TypeId) w, tys[0]? = some t → (Builtin.len_ tys ty #[v]).run P w = .ok (.int .i64 (n : Int)) w := by
  unfold lenS at h
  cases he : elemT P t with
  | some e =>
    rw [he] at h
    have hu := elemT_spec he
    rcases asS_spec (h : asS y _ _ _ = some r) with ⟨rfl, h'⟩ | ⟨rfl, h'⟩ | ⟨id, off, len, cap, sz, rfl, h'⟩
    · obtain ⟨rfl, _⟩ := hy.inv_v
      exact ⟨0, h', fun tys ty w ht => by simp [Builtin.len_, ht, und_run hu, goInt]⟩
    · obtain ⟨a, c, rfl⟩ := hy.inv_se
      exact ⟨0, h', fun tys ty w ht => by simp [Builtin.len_, ht, und_run hu, goInt]⟩
    · obtain ⟨p, s, c, hp, rfl, _⟩ := hy.inv_sl
      exact ⟨len, h', fun tys ty w ht => by simp [Builtin.len_, ht, und_run hu, goInt]⟩
  | none =>
    rw [he] at h
    cases y with
    | v x =>
      cases x with
      | string s =>
        obtain ⟨h1, h2⟩ := ifK_yes (h : ifK (isStr P t) (k (.i .i64 s.size)) none = some r)
        obtain ⟨rfl, _⟩ := hy.inv_v
        exact ⟨s.size, h2, fun tys ty w ht => by simp [Builtin.len_, ht, und_run (isStr_spec h1), goInt]⟩
      | _ => cases h
    | _ => cases h
theorem capS_spec {t : TypeId} {y : AV} {v : Value} (hy : CR Γ y v) {k : KA} (h : capS P t y k = some r) : ∃ n : Nat, k (.i .i64 n) = some r ∧ ∀ (tys : Array TypeId) (ty : TypeId) w, tys[0]? = some t → (Builtin.cap_ tys ty #[v]).run P w = .ok (.int .i64 (n : Int)) w := by
  unfold capS at h
  cases he : elemT P t with
  | none => rw [he] at h; cases h
  | some e =>
    rw [he] at h
    have hu := elemT_spec he
    rcases asS_spec (h : asS y _ _ _ = some r) with ⟨rfl, h'⟩ | ⟨rfl, h'⟩ | ⟨id, off, len, cap, sz, rfl, h'⟩
    · obtain ⟨rfl, _⟩ := hy.inv_v
      exact ⟨0, h', fun tys ty w ht => by simp [Builtin.cap_, ht, und_run hu, goInt]⟩
    · cases h'
    · obtain ⟨p, s, c, hp, rfl, _, hc, _⟩ := hy.inv_sl
      cases cap with
      | none => cases h'
      | some c' =>
        obtain rfl := hc c' rfl
        exact ⟨c, h', fun tys ty w ht => by simp [Builtin.cap_, ht, und_run hu, goInt]⟩
end Go.Proofs.YtceobmnljdhkmaaGreatDoor.Ev
/- append; the functions of the language -/
namespace Go.Proofs.YtceobmnljdhkmaaGreatDoor.Ev
open Go
variable {r : AV × St} {P : Program} {Γ : Map}
/-- What a slice yields that is appended. -/
structure SrcR (P : Program) (Γ : Map) (w : World) (sz : Nat) (v : Value) (new : List AV) (n : Nat) (vs : List Value) : Prop where
  rel : CRL Γ new vs
  len : vs.length = n * sz
  val : ∃ b c, v = .slice b n c
  cells : 0 < n → ∃ p off c, v = .slice (some ⟨p, off, none⟩) n c ∧ ∀ j u, vs[j]? = some u → w.cell? ⟨p, off + j, none⟩ = some u
theorem srcK_spec {st : St} {w : World} (hs : Sim st Γ w) {sz : Nat} {y : AV} {v : Value} (hy : CR Γ y v) {k : List AV → Nat → OR} (h : srcK st sz y k = some r) : ∃ new n vs, k new n = some r ∧ SrcR P Γ w sz v new n vs := by
  rcases asS_spec h with ⟨rfl, h'⟩ | ⟨rfl, h'⟩ | ⟨id, off, len, cap, sz', rfl, h'⟩
  · obtain ⟨rfl, _⟩ := hy.inv_v
    exact ⟨[], 0, [], h', .nil, by simp, ⟨_, _, rfl⟩, fun h => absurd h (Nat.lt_irrefl 0)⟩
  · obtain ⟨a, c, rfl⟩ := hy.inv_se
    exact ⟨[], 0, [], h', .nil, by simp, ⟨_, _, rfl⟩, fun h => absurd h (Nat.lt_irrefl 0)⟩
  · obtain ⟨b, hlk, h'⟩ := getK_spec h'
    obtain ⟨hle, h'⟩ := cutC_spec _ _ _ _ h'
    obtain ⟨p, s, c, hp, rfl, _⟩ := hy.inv_sl
    obtain ⟨p', s', hp', hlt, cs, el, hw, hsz, hlen, hc, _⟩ := hs.blk id b hlk
    obtain ⟨rfl, rfl⟩ : p' = p ∧ s' = s := by rw [hp] at hp'; injection hp' with hp'; injection hp' with e1 e2; exact ⟨e1.symm, e2.symm⟩
    have hle : off + len * sz ≤ b.cells.length := hle
    refine ⟨_, len, ((cs.toList.take b.cells.length).drop off).take (len * sz), h', (hc.drop off).take _, by simp; omega, ⟨_, _, rfl⟩, fun _ => ⟨p', off, c, rfl, fun j u hj => ?_⟩⟩
    rw [cell_of hw]
    rw [List.getElem?_take] at hj
    split at hj
    · rw [List.getElem?_drop, List.getElem?_take] at hj
      split at hj
      · simpa using hj
      · cases hj
    · cases hj
theorem SrcR.src {w : World} {sz n : Nat} {v : Value} {new : List AV} {vs : List Value} (h : SrcR P Γ w sz v new n vs) (hn : 0 < n) {tx e' : TypeId} (hk : P.underlying tx = some (.slice e')) (h1 : onesB new = true) : Src P sz tx v n vs w := by
  obtain ⟨p, off, c, rfl, hc⟩ := h.cells hn
  exact Src.ofSlice w hk _ n c vs h.len (fun j u hj => by rw [add_at]; exact hc j u hj) (onesB_spec h.rel h1)
theorem run_append_zero {t tx e e' ty : TypeId} {i : TypeInfo} (ht : P.underlying t = some (.slice e)) (hx : P.underlying tx = some (.slice e')) (hi : P.info? e = some i) (base bx : Option Addr) (sLen sCap cx : Nat) (h : sLen ≤ sCap) (w : World) :
    (Builtin.append_ #[t, tx] ty #[.slice base sLen sCap, .slice bx 0 cx]).run P w = .ok (.slice base sLen sCap) w := by
  cases bx <;> cases base <;> simp [Builtin.append_, und_run ht, und_run hx, sizeOf, typeInfo, hi, Builtin.lenOf, h, Builtin.firstCells, loadCells, loadCellsFrom, storeCells]
theorem run_append_in {t tx e ty : TypeId} {i : TypeInfo} (ht : P.underlying t = some (.slice e)) (hi : P.info? e = some i) {w w' : World} {x : Value} {n : Nat} {vs : List Value} (hs : Src P i.size tx x n vs w) {p off sLen sCap : Nat} (hroom : sLen + n ≤ sCap)
    (hst : (storeCells ⟨p, off + sLen * i.size, none⟩ vs).run P w = .ok () w') :
    (Builtin.append_ #[t, tx] ty #[.slice (some ⟨p, off, none⟩) sLen sCap, x]).run P w = .ok (.slice (some ⟨p, off, none⟩) (sLen + n) sCap) w' := by
  rcases hs.kind with ⟨e', hk⟩ | hk <;> simp [Builtin.append_, und_run ht, und_run hk, sizeOf, typeInfo, hi, hs.len, hroom, hs.cells, add_at, hst]
/-- append makes a new row. -/
theorem app_grow {st : St} {w : World} (hs : Sim st Γ w) {t tx e ty : TypeId} {z : AV} {i : TypeInfo} {zv : Value} (ht : P.underlying t = some (.slice e)) (hc : CellT P e z i zv) {x : Value} {n : Nat} {new old : List AV} {vs olds : List Value} (hsrc : Src P i.size tx x n vs w) (hr : CRL Γ new vs) (hro : CRL Γ old olds)
    {base : Option Addr} {sLen sCap : Nat} (hol : olds.length = sLen * i.size) (hold : (Builtin.firstCells i.size sLen (.slice base sLen sCap)).run P w.drew = .ok olds.toArray w.drew) (hg : sCap < sLen + n) (h1 : sLen ≤ 100000) (h2 : n ≤ 100000) :
    ∃ v w' Γ', (Builtin.append_ #[t, tx] ty #[.slice base sLen sCap, x]).run P w = .ok v w' ∧ Grow st Γ w (st.new ⟨old ++ new, false⟩) Γ' w' ∧ CR Γ' (.sl st.nxt 0 (sLen + n) none i.size) v := by
  have hb : (sLen + n) * i.bytes ≤ 140737488355328 := by
    have := Nat.mul_le_mul (show sLen + n ≤ 200000 by omega) hc.bytes; omega
  have hrun := run_append_grow_src (P := P) w t tx ty e i zv ht hc.info hc.zero base sLen sCap olds hold x n vs hsrc hg (by omega) (growslice_fits hg hb)
  have hs' : Sim st Γ w.drew := hs.drew rfl
  have hzl : (Builtin.zeroCells zv.cells (grownCap w (sLen + n) sCap e - (sLen + n))).size = (grownCap w (sLen + n) sCap e - (sLen + n)) * i.size := by
    simp [Builtin.zeroCells, hc.size]
  have hge : sLen + n ≤ grownCap w (sLen + n) sCap e := by unfold grownCap; simp only [Question.cut]; omega
  have hrel : CRL Γ (old ++ new) (olds ++ vs) := hro.app hr
  have hcs : ((olds ++ vs).toArray ++ Builtin.zeroCells zv.cells (grownCap w (sLen + n) sCap e - (sLen + n))).size = grownCap w (sLen + n) sCap e * i.size := by
    rw [Array.size_append, hzl]
    simp only [List.size_toArray, List.length_append, hol, hsrc.newsLen]
    rw [← Nat.add_mul, ← Nat.add_mul]; congr 1; omega
  have hgrow : Grow st Γ w.drew (st.new ⟨old ++ new, false⟩) (Γ.add st.nxt w.heap.size ((olds ++ vs).toArray ++ Builtin.zeroCells zv.cells (grownCap w (sLen + n) sCap e - (sLen + n))).size)
      (w.drew.alloc (.cells ((olds ++ vs).toArray ++ Builtin.zeroCells zv.cells (grownCap w (sLen + n) sCap e - (sLen + n))) e)) :=
    Grow.new hs' (b := ⟨old ++ new, false⟩) (cs := (olds ++ vs).toArray ++ Builtin.zeroCells zv.cells (grownCap w (sLen + n) sCap e - (sLen + n))) e (by
      show CRL Γ (old ++ new) (List.take (old ++ new).length _)
      rw [hrel.length]
      simp only [Array.toList_append, List.take_left']
      simpa using hrel) (by rw [hrel.length]; simp) (fun h => by cases h)
  refine ⟨_, _, _, hrun, (Grow.drew (w' := w.drew) hs rfl rfl rfl rfl).trans hgrow, ?_⟩
  refine .sl (Map.add_self _ _ _ _) hge (fun k h => by cases h) ?_
  show 0 + _ ≤ _
  rw [hcs]; omega
theorem Grow.less {st st1 st2 : St} {w w1 : World} {Γ1 : Map} (h : Grow st Γ w st1 Γ1 w1) (hl : ∀ x c, st2.look x c → st1.look x c) (htop : ∀ id : Id, st2.nxt.nat ≤ id.nat → Tr.find id st2.heap = none) (hn : st2.nxt = st1.nxt) (hr : st2.ro = st1.ro) (hh : st2.hid = st1.hid)
    (hold : ∀ id, id.nat < st.nxt.nat → (id.nat < st.ro ∨ ¬ st.vis id) → Tr.find id st2.heap = Tr.find id st.heap) : Grow st Γ w st2 Γ1 w1 :=
  ⟨⟨fun id b hb => h.sim.blk id b (hl _ _ hb), fun id id' b b' p s s' h1 h2 => h.sim.inj id id' b b' p s s' (hl _ _ h1) (hl _ _ h2), fun id hi => h.sim.fresh id (by rw [← hn]; exact hi), htop, h.sim.glob⟩,
   h.sub, h.same, h.os, h.tape, h.output, h.size, hr.trans h.ro, hh.trans h.hid, by rw [hn]; exact h.nxt, h.frame, fun q id b s hq hb => h.wr q id b s hq (hl _ _ hb), hold⟩
theorem nilCells (size : Nat) (w : World) : (Builtin.firstCells size 0 (.slice none 0 0)).run P w = .ok ([] : List Value).toArray w := by simp [Builtin.firstCells]
/-- What append does, as the evaluator foretells it. -/
def AppPost (P : Program) (t tx : TypeId) (st : St) (Γ : Map) (w : World) (vs vx : Value) (av : AV) (st' : St) : Prop :=
  ∀ ty, ∃ v w' Γ', (Builtin.append_ #[t, tx] ty #[vs, vx]).run P w = .ok v w' ∧ Grow st Γ w st' Γ' w' ∧ CR Γ' av v
section
variable {st : St} {w : World} (hs : Sim st Γ w) {t tx e e' : TypeId} {z : AV} {i : TypeInfo} {zv : Value} (ht : P.underlying t = some (.slice e)) (hc : CellT P e z i zv) (hx : P.underlying tx = some (.slice e')) {vx : Value} {n : Nat} {new : List AV} {vs : List Value}
  (hsr : SrcR P Γ w i.size vx new n vs) (hn : 0 < n) (hn2 : n ≤ 100000) (h1 : onesB new = true)
include hs ht hc hx hsr hn hn2 h1
theorem appN_spec {k : KS} (h : appN st i.size new n k = some r) : ∃ av st', k av st' = some r ∧ AppPost P t tx st Γ w (.slice none 0 0) vx av st' := by
  refine ⟨_, _, h, fun ty => ?_⟩
  have := app_grow hs ht hc (ty := ty) (hsr.src hn hx h1) hsr.rel (.nil : CRL Γ [] []) (base := none) (sLen := 0) (sCap := 0) (by simp) (nilCells _ _) (by omega) (by omega) hn2
  simpa using this
theorem appG_spec {id : Id} {off len p s c : Nat} (hp : Γ id = some (p, s)) (hlen : len ≤ 100000) (hg : c < len + n) {k : KS} (h : appG st i.size id off len n new k = some r) :
    ∃ av st', k av st' = some r ∧ AppPost P t tx st Γ w (.slice (some ⟨p, off, none⟩) len c) vx av st' := by
  obtain ⟨b, hlk, h⟩ := getK_spec h
  obtain ⟨hle, h⟩ := cutC_spec _ _ _ _ h
  have hle : off + len * i.size ≤ b.cells.length := hle
  obtain ⟨p', s', hp', hlt, cs, el, hw, hsz, hblen, hcr, _⟩ := hs.blk id b hlk
  obtain ⟨rfl, rfl⟩ : p' = p ∧ s' = s := by rw [hp] at hp'; injection hp' with hp'; injection hp' with e1 e2; exact ⟨e1.symm, e2.symm⟩
  rw [appL_eq] at h
  refine ⟨_, _, h, fun ty => ?_⟩
  have hol : (((cs.toList.take b.cells.length).drop off).take (len * i.size)).length = len * i.size := by simp; omega
  have hcell : ∀ j u, (((cs.toList.take b.cells.length).drop off).take (len * i.size))[j]? = some u → w.drew.cell? ((⟨p', off, none⟩ : Addr).add j) = some u := fun j u hj => by
    rw [add_at]
    show w.cell? _ = _
    rw [cell_of hw]
    rw [List.getElem?_take] at hj
    split at hj
    · rw [List.getElem?_drop, List.getElem?_take] at hj
      split at hj
      · simpa using hj
      · cases hj
    · cases hj
  exact app_grow hs ht hc (ty := ty) (hsr.src hn hx h1) hsr.rel ((hcr.drop off).take (len * i.size)) hol (run_firstCells_some w.drew i.size len ⟨p', off, none⟩ len c _ hol hcell) hg hlen hn2
theorem appE_spec {id : Id} {off len p s c : Nat} (hp : Γ id = some (p, s)) (hlen : len ≤ 100000) (_ : len ≤ c) (hsz : off + c * i.size ≤ s) {k : KS} (h : appE st i.size id off len n c new k = some r) :
    ∃ av st', k av st' = some r ∧ AppPost P t tx st Γ w (.slice (some ⟨p, off, none⟩) len c) vx av st' := by
  rcases ifK_spec h with ⟨g, h⟩ | ⟨g, h⟩
  · have hroom : len + n ≤ c := Nat.le_of_ble_eq_true g
    obtain ⟨b, hlk, h⟩ := getK_spec h
    obtain ⟨g2, h⟩ := putC_spec _ _ _ _ h
    obtain ⟨g3, h⟩ := setB_spec h
    obtain ⟨w', hr, _, hgr⟩ := run_write (P := P) hs hlk g3 hp hsr.rel h1 g2
    refine ⟨_, _, h, fun ty => ⟨_, w', Γ, run_append_in ht hc.info (hsr.src hn hx h1) hroom hr, hgr, ?_⟩⟩
    exact .sl hp hroom (fun k h => by injection h) hsz
  · have hg : c < len + n := by
      rcases Nat.lt_or_ge c (len + n) with h | h
      · exact h
      · have : Nat.ble (Nat.add len n) c = true := Nat.ble_eq_true_of_le h
        rw [this] at g; cases g
    exact appG_spec hs ht hc hx hsr hn hn2 h1 hp hlen hg h
theorem appU_spec {id : Id} {off len p s c : Nat} (hp : Γ id = some (p, s)) (hlen : len ≤ 100000) (_ : len ≤ c) (hsz : off + c * i.size ≤ s) {k : KS} (h : appU st i.size id off len n new k = some r) :
    ∃ av st', k av st' = some r ∧ AppPost P t tx st Γ w (.slice (some ⟨p, off, none⟩) len c) vx av st' := by
  obtain ⟨g, h⟩ := ifK_yes h
  obtain rfl := Nat.eq_of_beq_eq_true g
  obtain ⟨b, hlk, h⟩ := getK_spec h
  obtain ⟨hle, h⟩ := cutC_spec _ _ _ _ h
  have hle : 0 + len * i.size ≤ b.cells.length := hle
  obtain ⟨hro, h⟩ := wrK_spec h
  obtain ⟨p', s', hp', hlt, cs, el, hw, hcs, hblen, hcr, _⟩ := hs.blk id b hlk
  obtain ⟨rfl, rfl⟩ : p' = p ∧ s' = s := by rw [hp] at hp'; injection hp' with hp'; injection hp' with e1 e2; exact ⟨e1.symm, e2.symm⟩
  rw [appL_eq] at h
  refine ⟨_, _, h, fun ty => ?_⟩
  have hol : (((cs.toList.take b.cells.length).drop 0).take (len * i.size)).length = len * i.size := by simp; omega
  have holds : CRL Γ ((b.cells.drop 0).take (len * i.size)) (((cs.toList.take b.cells.length).drop 0).take (len * i.size)) := (hcr.drop 0).take _
  by_cases hroom : len + n ≤ c
  · have hmul : (len + n) * i.size ≤ c * i.size := Nat.mul_le_mul_right _ hroom
    have hvl := hsr.len
    have hadd : (len + n) * i.size = len * i.size + n * i.size := Nat.add_mul _ _ _
    have hrun := run_storeCells_at P p' (0 + len * i.size) el vs 0 cs w hw (by omega) (onesB_spec hsr.rel h1)
    have hnl : new.length = vs.length := hsr.rel.length
    have e1 : (cs.toList.take (0 + len * i.size) ++ vs ++ cs.toList.drop (0 + len * i.size + vs.length)).take ((b.cells.drop 0).take (len * i.size) ++ new).length = ((cs.toList.take b.cells.length).drop 0).take (len * i.size) ++ vs := by
      have e2 : ((b.cells.drop 0).take (len * i.size) ++ new).length = (cs.toList.take (0 + len * i.size) ++ vs).length := by simp; omega
      rw [e2, List.take_left']
      · simp only [List.drop_zero, Nat.zero_add, List.take_take]; rw [Nat.min_eq_left (by omega)]
      · rfl
    have hmove := Grow.move hs hlk hro hp (b' := ⟨(b.cells.drop 0).take (len * i.size) ++ new, false⟩) (cs := (cs.toList.take (0 + len * i.size) ++ vs ++ cs.toList.drop (0 + len * i.size + vs.length)).toArray) (turned_setRow hw) (by simp; omega) (by show List.length _ ≤ _; simp; omega) (by
        show CRL Γ _ (List.take _ (List.toArray _).toList)
        rw [List.toList_toArray, e1]
        exact holds.app hsr.rel) (fun h => by cases h)
    exact ⟨_, _, _, run_append_in ht hc.info (hsr.src hn hx h1) hroom hrun, hmove, .sl (Map.add_self _ _ _ _) hroom (fun k h => by cases h) (by omega)⟩
  · have hcell : ∀ j u, (((cs.toList.take b.cells.length).drop 0).take (len * i.size))[j]? = some u → w.drew.cell? ((⟨p', 0, none⟩ : Addr).add j) = some u := fun j u hj => by
      rw [add_at]
      show w.cell? _ = _
      rw [cell_of hw]
      rw [List.getElem?_take] at hj
      split at hj
      · rw [List.getElem?_drop, List.getElem?_take] at hj
        split at hj
        · simpa using hj
        · cases hj
      · cases hj
    obtain ⟨v, w', Γ', g1, g2, g3⟩ := app_grow hs ht hc (ty := ty) (hsr.src hn hx h1) hsr.rel holds hol (run_firstCells_some w.drew i.size len ⟨p', 0, none⟩ len c _ hol hcell) (by omega) hlen hn2
    have hidne : id ≠ st.nxt := fun e => by rw [e, hs.fresh _ (Nat.le_refl _)] at hp; cases hp
    refine ⟨v, w', Γ', g1, g2.less ?_ ?_ rfl rfl rfl ?_, g3⟩
    · intro x c hx
      obtain ⟨q1, q2⟩ := hx
      refine ⟨q1, ?_⟩
      have q2 : Tr.find x (Tr.put (some ⟨_, false⟩) st.nxt (Tr.put none id st.heap)) = some c := q2
      show Tr.find x (Tr.put _ st.nxt st.heap) = some c
      by_cases e1 : x = st.nxt
      · subst e1; rw [Tr.put_same] at q2 ⊢; exact q2
      · rw [Tr.put_other _ _ _ _ (fun e => e1 e.symm)] at q2 ⊢
        by_cases e2 : x = id
        · subst e2; rw [Tr.put_same] at q2; cases q2
        · rw [Tr.put_other _ _ _ _ (fun e => e2 e.symm)] at q2; exact q2
    · intro x hx
      have hx' : (Id.succ st.nxt).nat ≤ x.nat := hx
      rw [Id.nat_succ] at hx'
      have hidlt : id.nat < st.nxt.nat := by
        rcases Nat.lt_or_ge id.nat st.nxt.nat with h1 | h1
        · exact h1
        · have := hs.top id h1; rw [hlk.2] at this; cases this
      show Tr.find x (Tr.put (some _) st.nxt (Tr.put none id st.heap)) = none
      rw [Tr.put_other _ _ _ _ (fun e => by rw [← e] at hx'; omega), Tr.put_other _ _ _ _ (fun e => by rw [← e] at hx'; omega)]
      exact hs.top x (by omega)
    · intro x hx hr
      have hne : x ≠ id := fun e => by
        subst e
        rcases hr with hr | hr
        · omega
        · exact hr hlk.1
      show Tr.find x (Tr.put (some _) st.nxt (Tr.put none id st.heap)) = _
      rw [Tr.put_other _ _ _ _ (fun e => by rw [← e] at hx; omega), Tr.put_other _ _ _ _ (fun e => hne e.symm)]
end
theorem appK2_spec {st : St} {w : World} (hs : Sim st Γ w) {t tx e e' : TypeId} {z : AV} {i : TypeInfo} {zv : Value} (ht : P.underlying t = some (.slice e)) (hc : CellT P e z i zv) (hx : P.underlying tx = some (.slice e')) {s x : AV} {vs vx : Value} (hrs : CR Γ s vs) (hrx : CR Γ x vx) {k : KS} (h : appK2 i.size s x st k = some r) :
    ∃ av st', k av st' = some r ∧ AppPost P t tx st Γ w vs vx av st' := by
  obtain ⟨new, n, news, h, hsr⟩ := srcK_spec (P := P) hs hrx h
  rcases ifK_spec h with ⟨g, h⟩ | ⟨g, h⟩
  · obtain rfl := Nat.eq_of_beq_eq_true g
    obtain ⟨bx, cx, rfl⟩ := hsr.val
    have hz : ∀ base sLen sCap, vs = .slice base sLen sCap → sLen ≤ sCap → AppPost P t tx st Γ w vs (.slice bx 0 cx) s st := fun base sLen sCap e hle ty => by
      refine ⟨vs, w, Γ, ?_, .refl hs, hrs⟩
      rw [e]; exact run_append_zero ht hx hc.info base bx sLen sCap cx hle w
    rcases asS_spec h with ⟨e0, h'⟩ | ⟨e0, h'⟩ | ⟨id, off, len, cap, sz, e0, h'⟩
    · rw [e0] at hrs; exact ⟨_, _, h', hz none 0 0 (hrs.inv_v).1 (Nat.le_refl _)⟩
    · rw [e0] at hrs; obtain ⟨a, c, e1⟩ := hrs.inv_se; exact ⟨_, _, h', hz _ _ _ e1 (Nat.zero_le _)⟩
    · rw [e0] at hrs; obtain ⟨p, q, c, _, e1, hle, _⟩ := hrs.inv_sl; exact ⟨_, _, h', hz _ _ _ e1 hle⟩
  · have hn : 0 < n := by have := Nat.ne_of_beq_eq_false g; omega
    obtain ⟨g2, h⟩ := ifK_yes h
    rw [Bool.and_eq_true] at g2
    have hn2 := Nat.le_of_ble_eq_true g2.1
    rcases asS_spec h with ⟨rfl, h'⟩ | ⟨_, h'⟩ | ⟨id, off, len, cap, sz, rfl, h'⟩
    · rw [(hrs.inv_v).1]
      exact appN_spec hs ht hc hx hsr hn hn2 g2.2 h'
    · cases h'
    · obtain ⟨g3, h2⟩ := ifK_yes h'
      clear h'
      rw [Bool.and_eq_true] at g3
      obtain rfl := Nat.eq_of_beq_eq_true g3.1
      have hlen := Nat.le_of_ble_eq_true g3.2
      obtain ⟨p, q, c, hp, rfl, hle, hcap, hsz⟩ := hrs.inv_sl
      cases cap with
      | none => exact appU_spec hs ht hc hx hsr hn hn2 g2.2 hp hlen hle hsz h2
      | some c0 =>
        obtain rfl := hcap c0 rfl
        exact appE_spec hs ht hc hx hsr hn hn2 g2.2 hp hlen hle hsz h2
theorem isIntT_spec {t : TypeId} (h : isIntT P t = true) : ∃ k, P.underlying t = some (.int k) := by unfold isIntT at h; split at h <;> first | exact ⟨_, by assumption⟩ | cases h
theorem run_append_zeros_none {t tn ty e : TypeId} {i : TypeInfo} {kn : IntKind} (ht : P.underlying t = some (.slice e)) (htn : P.underlying tn = some (.int kn)) (hi : P.info? e = some i) (w : World) :
    (Builtin.append_ #[t, tn] ty #[.slice none 0 0, .int .i64 ((0 : Nat) : Int)]).run P w = .ok (.slice none 0 0) w := by
  have hw : IntKind.i64.wrap 0 = 0 := by rw [IntKind.wrap_i64]; omega
  simp [Builtin.append_, und_run ht, und_run htn, sizeOf, typeInfo, hi, asInt, asIntOf, hw]
theorem zapK2_spec {st : St} {w : World} (hs : Sim st Γ w) {t tx e : TypeId} {kn : IntKind} {z : AV} {i : TypeInfo} {zv : Value} (ht : P.underlying t = some (.slice e)) (hc : CellT P e z i zv) (hx : P.underlying tx = some (.int kn)) {s x : AV} {vs vx : Value} (hrs : CR Γ s vs) (hrx : CR Γ x vx) {k : KS} (h : zapK2 i.size z.cells s x st k = some r) :
    ∃ av st', k av st' = some r ∧ AppPost P t tx st Γ w vs vx av st' := by
  obtain ⟨n, rfl, h⟩ := asK_spec h
  rw [hrx.inv_i]
  rcases asS_spec h with ⟨rfl, h'⟩ | ⟨_, h'⟩ | ⟨_, _, _, _, _, _, h'⟩
  · rw [(hrs.inv_v).1]
    rcases ifK_spec h' with ⟨g, h'⟩ | ⟨g, h'⟩
    · obtain rfl := Nat.eq_of_beq_eq_true g
      exact ⟨_, _, h', fun ty => ⟨_, w, Γ, run_append_zeros_none ht hx hc.info w, .refl hs, .v ⟨fun _ => by simp, fun _ => by simp⟩⟩⟩
    · have hn : 0 < n := by have := Nat.ne_of_beq_eq_false g; omega
      obtain ⟨g2, h'⟩ := ifK_yes h'
      have hn2 := Nat.le_of_ble_eq_true g2
      refine ⟨_, _, h', fun ty => ?_⟩
      have hpos : 0 < zv.cells.size := by have := hc.pos; have := hc.size; omega
      have hb : n * i.bytes ≤ 281474976710656 := by
        have := Nat.mul_le_mul hn2 hc.bytes; omega
      have hrun := Lib.run_append_nil_zeros (P := P) w t tx ty e i zv .i64 kn ht hx hc.info hc.zero n hn hc.pos (by omega) hb
      have hrel : CRL Γ (repL n z.cells) (Builtin.zeroCells zv.cells n).toList := zrow_rel (hc.rel Γ).cells hpos n
      have hsz : ∀ m, (Builtin.zeroCells zv.cells m).size = m * i.size := fun m => by simp [Builtin.zeroCells, hc.size]
      have hlen : (repL n z.cells).length = n * i.size := by rw [hrel.length, Array.length_toList, hsz]
      have hge : n ≤ grownCap w n 0 e := by unfold grownCap; simp only [Question.cut]; omega
      have hs' : Sim st Γ w.drew := hs.drew rfl
      have hcs : (Builtin.zeroCells zv.cells n ++ Builtin.zeroCells zv.cells (grownCap w n 0 e - n)).size = grownCap w n 0 e * i.size := by
        rw [Array.size_append, hsz, hsz, ← Nat.add_mul]; congr 1; omega
      have hgrow : Grow st Γ w.drew (st.new ⟨repL n z.cells, false⟩) (Γ.add st.nxt w.heap.size (Builtin.zeroCells zv.cells n ++ Builtin.zeroCells zv.cells (grownCap w n 0 e - n)).size)
          (w.drew.alloc (.cells (Builtin.zeroCells zv.cells n ++ Builtin.zeroCells zv.cells (grownCap w n 0 e - n)) e)) :=
        Grow.new hs' (b := ⟨repL n z.cells, false⟩) (cs := Builtin.zeroCells zv.cells n ++ Builtin.zeroCells zv.cells (grownCap w n 0 e - n)) e (by
          show CRL Γ (repL n z.cells) (List.take (repL n z.cells).length _)
          rw [hrel.length, Array.toList_append, List.take_left']
          · exact hrel
          · rfl) (by show (repL n z.cells).length ≤ _; rw [hlen, Array.size_append, hsz]; omega) (fun h => by cases h)
      refine ⟨_, _, _, hrun, (Grow.drew (w' := w.drew) hs rfl rfl rfl rfl).trans hgrow, ?_⟩
      refine .sl (Map.add_self _ _ _ _) hge (fun k h => by cases h) ?_
      show 0 + _ ≤ _
      rw [hcs]; omega
  · cases h'
  · cases h'
theorem clrK_spec {st : St} {w : World} (hs : Sim st Γ w) {t : TypeId} {y : AV} {v : Value} (hy : CR Γ y v) {k : KS} (h : clrK P t y st k = some r) :
    ∃ st', k (.tup []) st' = some r ∧ ∃ w', (∀ (tys : Array TypeId) (ty : TypeId), tys[0]? = some t → (Builtin.clear_ tys ty #[v]).run P w = .ok (.tuple #[]) w') ∧ Grow st Γ w st' Γ w' := by
  unfold clrK at h
  cases ht : elemT P t with
  | none => rw [ht] at h; cases h
  | some e =>
    rw [ht] at h
    have h : (Bool.rec (motive := fun _ => AV → St → KS → OR) (fun _ _ _ => none) (Option.rec (motive := fun _ => AV → St → KS → OR) (fun _ _ _ => none) (fun z => clrK2 z.cells) (zeroA P e)) (cellT P e)) y st k = some r := h
    cases hct : cellT P e with
    | false => rw [hct] at h; cases h
    | true =>
      rw [hct] at h
      have h : (Option.rec (motive := fun _ => AV → St → KS → OR) (fun _ _ _ => none) (fun z => clrK2 z.cells) (zeroA P e)) y st k = some r := h
      cases hz : zeroA P e with
      | none => rw [hz] at h; cases h
      | some z =>
        rw [hz] at h
        obtain ⟨i, zv, hc⟩ := cellT_spec hct hz
        have h : clrK2 z.cells y st k = some r := h
        have hu := elemT_spec ht
        rcases asS_spec h with ⟨rfl, h'⟩ | ⟨rfl, h'⟩ | ⟨id, off, len, cap, sz, rfl, h'⟩
        · obtain ⟨rfl, _⟩ := hy.inv_v
          exact ⟨_, h', w, fun tys ty h0 => by simp [Builtin.clear_, h0, und_run hu], .refl hs⟩
        · obtain ⟨a, c, rfl⟩ := hy.inv_se
          exact ⟨_, h', w, fun tys ty h0 => by simp [Builtin.clear_, h0, und_run hu], .refl hs⟩
        · obtain ⟨p, s, c, hp, rfl, hle, _, hsz⟩ := hy.inv_sl
          rcases ifK_spec h' with ⟨g, h'⟩ | ⟨g, h'⟩
          · obtain rfl := Nat.eq_of_beq_eq_true g
            exact ⟨_, h', w, fun tys ty h0 => by simp [Builtin.clear_, h0, und_run hu], .refl hs⟩
          · have hn : 0 < len := by have := Nat.ne_of_beq_eq_false g; omega
            obtain ⟨g2, h'⟩ := ifK_yes h'
            rw [Bool.and_eq_true] at g2
            obtain ⟨b, hlk, h'⟩ := getK_spec h'
            obtain ⟨g3, h'⟩ := putC_spec _ _ _ _ h'
            obtain ⟨g4, h'⟩ := setB_spec h'
            have hpos : 0 < zv.cells.size := by have := hc.pos; have := hc.size; omega
            have hrel : CRL Γ (repL len z.cells) (Builtin.zeroCells zv.cells len).toList := zrow_rel (hc.rel Γ).cells hpos len
            obtain ⟨w', hr, _, hg⟩ := run_write (P := P) hs hlk g4 hp hrel g2.2 g3
            refine ⟨_, h', w', fun tys ty h0 => ?_, hg⟩
            obtain ⟨m, rfl⟩ : ∃ m, len = m + 1 := ⟨len - 1, by omega⟩
            simp [Builtin.clear_, h0, und_run hu, zeroValue, typeInfo, hc.info, hc.zero, hr]
theorem lenA_spec {y : AV} {v : Value} (hy : CR Γ y v) {k : Nat → OR} (h : lenA y k = some r) : ∃ n b c, k n = some r ∧ v = .slice b n c ∧ (0 < n → ∃ id off cap sz, y = .sl id off n cap sz) := by
  rcases asS_spec h with ⟨rfl, h'⟩ | ⟨rfl, h'⟩ | ⟨id, off, len, cap, sz, rfl, h'⟩
  · obtain ⟨rfl, _⟩ := hy.inv_v
    exact ⟨0, _, _, h', rfl, fun h => absurd h (Nat.lt_irrefl 0)⟩
  · obtain ⟨a, c, rfl⟩ := hy.inv_se
    exact ⟨0, _, _, h', rfl, fun h => absurd h (Nat.lt_irrefl 0)⟩
  · obtain ⟨p, s, c, hp, rfl, _⟩ := hy.inv_sl
    exact ⟨len, _, _, h', rfl, fun _ => ⟨_, _, _, _, rfl⟩⟩
theorem copK_spec {st : St} {w : World} (hs : Sim st Γ w) {t : TypeId} {d s : AV} {vd vs : Value} (hd : CR Γ d vd) (hsv : CR Γ s vs) {k : KS} (h : copK P t d s st k = some r) :
    ∃ n st', k (.i .i64 n) st' = some r ∧ ∃ w', (∀ (tys : Array TypeId) (ty : TypeId), tys[0]? = some t → (Builtin.copy_ tys ty #[vd, vs]).run P w = .ok (.int .i64 ((n : Nat) : Int)) w') ∧ Grow st Γ w st' Γ w' := by
  unfold copK at h
  cases ht : elemT P t with
  | none => rw [ht] at h; cases h
  | some e =>
    rw [ht] at h
    have h : (Bool.rec (motive := fun _ => AV → AV → St → KS → OR) (fun _ _ _ _ => none) (copK2 (szOf P e)) (cellT P e)) d s st k = some r := h
    cases hct : cellT P e with
    | false => rw [hct] at h; cases h
    | true =>
      rw [hct] at h
      have hz : ∃ z, zeroA P e = some z := by
        unfold cellT at hct
        split at hct
        · exact ⟨_, by assumption⟩
        · cases hct
      obtain ⟨z, hz⟩ := hz
      obtain ⟨i, zv, hc⟩ := cellT_spec hct hz
      have h : copK2 (szOf P e) d s st k = some r := h
      rw [hc.szOf] at h
      have hu := elemT_spec ht
      obtain ⟨ld, bd, cd, h1, rfl, hd2⟩ := lenA_spec hd h
      obtain ⟨ls, bs, cs, h2, rfl, hs2⟩ := lenA_spec hsv h1
      clear h h1
      have hmin : (Bool.rec (motive := fun _ => Nat) ld ls (Nat.ble ls ld)) = Nat.min ls ld := by
        cases hb : Nat.ble ls ld with
        | true =>
          have := Nat.le_of_ble_eq_true hb
          exact (Nat.min_eq_left this).symm
        | false =>
          have : ¬ ls ≤ ld := fun h => by rw [Nat.ble_eq_true_of_le h] at hb; cases hb
          show ld = Nat.min ls ld
          exact (Nat.min_eq_right (by omega)).symm
      rw [hmin] at h2
      have hns : Nat.min ls ld ≤ ls := Nat.min_le_left _ _
      have hnd : Nat.min ls ld ≤ ld := Nat.min_le_right _ _
      have hzero : Nat.min ls ld = 0 → ∀ (tys : Array TypeId) (ty : TypeId), tys[0]? = some t → (Builtin.copy_ tys ty #[.slice bd ld cd, .slice bs ls cs]).run P w = .ok (.int .i64 ((0 : Nat) : Int)) w := fun h0 tys ty ht0 => by
        have h0' : min ls ld = 0 := h0
        cases bd <;> cases bs <;> simp [Builtin.copy_, ht0, und_run hu, Builtin.lenOf, h0', sizeOf, typeInfo, hc.info, Builtin.firstCells, loadCells, loadCellsFrom, storeCells, goInt]
      rcases ifK_spec h2 with ⟨g, h3⟩ | ⟨g, h3⟩
      · exact ⟨0, _, h3, w, hzero (Nat.eq_of_beq_eq_true g), .refl hs⟩
      · have hn : 0 < Nat.min ls ld := by have := Nat.ne_of_beq_eq_false g; omega
        generalize hN : Nat.min ls ld = n at *
        clear hzero hmin
        obtain ⟨g2, h3⟩ := ifK_yes h3
        obtain ⟨is, os, cap1, sz1, rfl⟩ := hs2 (by omega)
        obtain ⟨id, od, cap2, sz2, rfl⟩ := hd2 (by omega)
        have h3 : getK st is (fun b => cutC (Nat.mul n i.size) os b.cells fun new => ifK (onesB new) (getK st id fun b2 => putC new od b2.cells fun cs => setB st id ⟨cs, b2.exact⟩ fun st => k (.i .i64 n) st) none) = some r := h3
        obtain ⟨b, hlk, h3⟩ := getK_spec h3
        obtain ⟨hle, h3⟩ := cutC_spec _ _ _ _ h3
        obtain ⟨g3, h3⟩ := ifK_yes h3
        obtain ⟨b2, hlk2, h3⟩ := getK_spec h3
        obtain ⟨g4, h3⟩ := putC_spec _ _ _ _ h3
        obtain ⟨g5, h3⟩ := setB_spec h3
        obtain ⟨p, q, c, hp, e1, hlc, _⟩ := hsv.inv_sl
        obtain ⟨p2, q2, c2, hp2, e2, hlc2, _⟩ := hd.inv_sl
        injection e1 with e11 e12 e13
        injection e2 with e21 e22 e23
        subst e11 e13 e21 e23
        obtain ⟨p', s', hp', hlt, cells, el, hw, hsz, hlen, hcr, _⟩ := hs.blk is b hlk
        obtain ⟨rfl, rfl⟩ : p' = p ∧ s' = q := by rw [hp] at hp'; injection hp' with hp'; injection hp' with e1 e2; exact ⟨e1.symm, e2.symm⟩
        have hle : os + n * i.size ≤ b.cells.length := hle
        have hrel := (hcr.drop os).take (n * i.size)
        have hol : (((cells.toList.take b.cells.length).drop os).take (n * i.size)).length = n * i.size := by simp; omega
        have hcell : ∀ j u, (((cells.toList.take b.cells.length).drop os).take (n * i.size))[j]? = some u → w.cell? ((⟨p', os, none⟩ : Addr).add j) = some u := fun j u hj => by
          rw [add_at, cell_of hw]
          rw [List.getElem?_take] at hj
          split at hj
          · rw [List.getElem?_drop, List.getElem?_take] at hj
            split at hj
            · simpa using hj
            · cases hj
          · cases hj
        have hfc := run_firstCells_some (P := P) w i.size n ⟨p', os, none⟩ ls cs _ hol hcell
        obtain ⟨w', hr, _, hg⟩ := run_write (P := P) hs hlk2 g5 hp2 hrel g3 g4
        refine ⟨n, _, h3, w', fun tys ty ht0 => ?_, hg⟩
        have hN' : min ls ld = n := hN
        simp [Builtin.copy_, ht0, und_run hu, Builtin.lenOf, hN', sizeOf, typeInfo, hc.info, hfc, goInt]
        rw [hr]; rfl
end Go.Proofs.YtceobmnljdhkmaaGreatDoor.Ev
/- the evaluator of code -/
namespace Go.Proofs.YtceobmnljdhkmaaGreatDoor.Ev
open Go
/-- Of a function: the slots that outlive their statement, and the number of its slots. -/
abbrev FI := List Nat × Nat
abbrev CdS := Env → St → (Out → Env → St → OR) → OR
abbrev IH := FI → Code → CdS
abbrev Prims := Nat → Option (List AV → St → KS → OR)
-- which slots outlive their statement
def opTmps (o : Oper) : List Nat := o.op.operands.toList.filterMap fun | .tmp t => some t | _ => none
def expo : List Oper → List Nat → List Nat → List Nat
  | [], _, out => out
  | o :: l, wr, out => expo l (match o.dst with | some d => d :: wr | none => wr) ((opTmps o).foldl (fun out t => if wr.elem t || out.elem t then out else t :: out) out)
def liveC : Code → List Nat → List Nat
  | .region _ ops _, out => expo ops.toList [] out
  | .seq a b, out => liveC b (liveC a out)
  | .cond x a b, out => liveC b (liveC a (match x with | .tmp t => if out.elem t then out else t :: out | _ => out))
  | .block _ c, out => liveC c out
  | .loop c, out => liveC c out
  | .scope c, out => liveC c out
  | _, out => out
def liveF (fn : Func) (c : Code) : List Nat := fn.results.toList.foldl (fun out r => match r with | .tmp t => t :: out | .cell t _ => t :: out) (liveC c (List.range 16))
def keepL (U : List Nat) : List Oper → List Nat
  | [] => []
  | o :: l => match o.dst with | some d => if U.elem d then d :: keepL U l else keepL U l | none => keepL U l
def dstsOK (N : Nat) : List Oper → Bool
  | [] => true
  | o :: l => match o.dst with | some d => Nat.ble (Nat.succ d) N && dstsOK N l | none => dstsOK N l
section
variable (P : Program) (pr : Prims)
noncomputable def initE : List AV → Nat → Env := List.rec (fun _ => .nil) (fun a _ ih n => .cons n a (ih (Nat.succ n)))
noncomputable def resV (t : TypeId) (st : St) (y : AV) (k : KA) : OR := asP y fun id off => getK st id fun b => rdK P t off b.cells k
noncomputable def res1 : ResultVar → Env → St → KA → OR := ResultVar.rec (fun t V _ k => V.vget t k) (fun a t => Bool.rec (fun _ _ _ => none) (fun V st k => V.vget a fun y => resV P t st y k) (known P t))
noncomputable def resL : List ResultVar → Env → St → (List AV → OR) → OR :=
  List.rec (fun _ _ k => k []) (fun x _ ih V st k => res1 P x V st fun a => ih V st fun l => k (a :: l))
noncomputable def tup1 (l : List AV) : AV := List.rec (.tup []) (fun a m _ => List.rec a (fun b n _ => .tup (a :: b :: n)) m) l
noncomputable def outK (rs : List ResultVar) (k : KS) : Out → Env → St → OR := Out.rec (fun V st => resL P rs V st fun l => k (tup1 l) st) (fun _ _ _ => none) (fun V st => resL P rs V st fun l => k (tup1 l) st)
noncomputable def runK (U : FI) (c : Code) (rs : List ResultVar) : IH → List AV → St → KS → OR := fun ih args st k => ifK (Nat.ble (lenL args) 16) (ifK (Nat.ble (lenL args) U.2) (ih U c (initE args 0) st (outK P rs k)) none) none
noncomputable def fnK : Option Func → IH → List AV → St → KS → OR :=
  Option.rec (fun _ _ _ _ => none) (fun fn => Option.rec (fun _ _ _ _ => none) (fun c => runK P (liveF fn c, fn.ntmps) c fn.results.toList) fn.body)
noncomputable def callK (f : Nat) : IH → List AV → St → KS → OR := Option.rec (fnK P (P.funcs[f]?)) (fun p _ => p) (pr f)
noncomputable def callV (args : Array Operand) (g : Operand) : IH → OpS := fun ih L V st k => opd g L V fun g => opdL args.toList L V fun aa => asF g fun f first cap => callK P pr f ih (appL (appL first aa) cap) st k
noncomputable def bltV (b : Builtin) (args : Array Operand) (tys : Array TypeId) : OpS := fun L V st k => opdL args.toList L V fun l => bltK P b tys l st k
noncomputable def clK (c : Call) : IH → OpS := Callee.rec (fun g => callV P pr c.args g) (fun _ _ _ _ _ _ _ => none) (fun b _ => bltV P b c.args c.argTypes) c.callee
noncomputable def noK : IH → OpS := fun _ _ _ _ _ => none
noncomputable def pu (s : OpS) : IH → OpS := fun _ => s
noncomputable def opK : Op → IH → OpS :=
  Op.rec (fun x => pu (moveK x)) (fun x => pu (moveK x)) (fun c a b => pu (pickK c a b)) (fun e => pu (allocK P e)) (fun _ x => pu (boxK x)) (fun t ps => pu (buildK P t ps)) (fun t n ps => pu (bslK P t n ps))
    (fun _ _ _ _ => noK) (fun t a => pu (loadK P t a)) (fun t a x => pu (storeK P t a x)) (fun _ => noK) (fun _ => noK) (fun x => pu (nilK x)) (fun op t x y _ => pu (binOpK P op t x y)) (fun op _ x => pu (unOpK op x)) (fun s d x => pu (convK P s d x))
    (fun _ _ => noK) (fun _ _ => noK) (fun f a b => pu (mfK f a b)) (fun _ _ => noK) (fun _ _ => noK) (fun t l c => pu (mksK P t l c)) (fun t x lo hi mx => pu (sliceK P t x lo hi mx)) (fun s x f => pu (fadK P s x f)) (fun t x f => pu (fldK P t x f)) (fun t x ix => pu (iadK P t x ix)) (fun t x ix => pu (idxK P t x ix))
    (fun _ _ _ _ => noK) (fun _ _ _ _ => noK) (fun _ _ _ => noK) (fun _ _ _ _ => noK) (fun _ _ => noK) (fun _ _ => noK) (fun _ => noK) (fun _ _ _ _ => noK) (fun x i => pu (extK x i)) (fun c => clK P pr c)
    (fun _ => noK) (fun _ => noK) (fun _ => noK) (fun _ _ => noK) (fun _ _ _ => noK) (fun _ _ => noK)
-- regions in the text's order
abbrev RgS := Env → Env → St → (Env → St → OR) → OR
noncomputable def dstK : Option Tmp → AV → Env → Env := Option.rec (fun _ L => L) (fun d a L => .cons d a L)
/-- Is the operation wanted? (a guard's slot; what it must hold) -/
noncomputable def grdK (d : Option Tmp) (want : Bool) : Env → Env → OR → OR → OR := Option.rec (fun _ _ _ _ => none) (fun d L V y n => L.lget V d fun a => asG0 a n fun x => Bool.rec n y (beqB x want)) d
noncomputable def stepK (o : Oper) (s : IH → OpS) (rest : IH → RgS) : IH → RgS := fun ih L V st k => s ih L V st fun a st => rest ih (dstK o.dst a L) V st k
noncomputable def skipK (o : Oper) (rest : IH → RgS) : IH → RgS := fun ih L V st k => rest ih (dstK o.dst .u L) V st k
noncomputable def gstepK (all : Array Oper) (o : Oper) (s rest : IH → RgS) : IH → RgS := Option.rec s (fun p ih L V st k => grdK ((all[p.1]?).bind (·.dst)) p.2 L V (s ih L V st k) (skipK o rest ih L V st k)) o.guard
noncomputable def regK (all : Array Oper) : List Oper → IH → RgS := List.rec (fun _ L _ st k => k L st) (fun o _ rest => gstepK all o (stepK o (opK P pr o.op) rest) rest)
noncomputable def flushK : List Nat → Env → Env → (Env → OR) → OR := List.rec (fun _ V k => k V) (fun t _ ih L V k => L.lget .nil t fun a => ih L (Env.vset t a V) k)
noncomputable def endK (keep : List Nat) (V : Env) (k : Out → Env → St → OR) (L : Env) (st : St) : OR := flushK keep L V fun V => k .normal V st
noncomputable def plainK (U : FI) (ops : Array Oper) : IH → CdS := Bool.rec (fun _ _ _ _ => none) (fun ih V st k => regK P pr ops ops.toList ih .nil V st (endK (keepL U.1 ops.toList) V k)) (dstsOK U.2 ops.toList)
end
end Go.Proofs.YtceobmnljdhkmaaGreatDoor.Ev
/- what the evaluator of operations foretells comes true -/
namespace Go.Proofs.YtceobmnljdhkmaaGreatDoor.Ev
open Go
variable {r : AV × St} {P : Program} {Γ : Map}
theorem one1_spec {l : List AV} {k : KA} (h : one1 l k = some r) : ∃ a, l = [a] ∧ k a = some r := by
  cases l with
  | nil => cases h
  | cons a l => cases l with
    | nil => exact ⟨a, rfl, h⟩
    | cons => cases h
theorem two2_spec {l : List AV} {k : AV → AV → OR} (h : two2 l k = some r) : ∃ a b, l = [a, b] ∧ k a b = some r := by
  cases l with
  | nil => cases h
  | cons a l => cases l with
    | nil => cases h
    | cons b l => cases l with
      | nil => exact ⟨a, b, rfl, h⟩
      | cons => cases h
theorem CRL.inv1 {a : AV} {vs : List Value} (h : CRL Γ [a] vs) : ∃ v, vs = [v] ∧ CR Γ a v := by
  cases h with | cons h t => cases t; exact ⟨_, rfl, h⟩
theorem CRL.inv2 {a b : AV} {vs : List Value} (h : CRL Γ [a, b] vs) : ∃ v u, vs = [v, u] ∧ CR Γ a v ∧ CR Γ b u := by
  cases h with | cons h t => cases t with | cons h2 t => cases t; exact ⟨_, _, rfl, h, h2⟩
theorem cmpK_two {k : IntKind} {x y : AV} {vx vy : Value} (hk : IsInt k x) (hx : CR Γ x vx) (hy : CR Γ y vy) {c : KA} {f g : Nat → Nat → Bool} {pm mp : Bool} {q : Int → Int → Bool}
    (h1 : ∀ a b : Nat, q a b = f a b) (h2 : ∀ a b : Nat, q a (Int.negSucc b) = pm) (h3 : ∀ a b : Nat, q (Int.negSucc a) b = mp) (h4 : ∀ a b : Nat, q (Int.negSucc a) (Int.negSucc b) = g a b)
    (h : cmpK f g pm mp k x y c = some r) : ∃ m n, vx = .int k m ∧ vy = .int k n ∧ c (.b (q m n)) = some r := by
  obtain ⟨m, n, rfl, rfl, h⟩ := two_ints hk hx hy h
  refine ⟨m, n, rfl, rfl, ?_⟩
  rcases h with ⟨a, b, rfl, rfl, h⟩ | ⟨a, b, rfl, rfl, h⟩ | ⟨a, b, rfl, rfl, h⟩ | ⟨a, b, rfl, rfl, h⟩
  · rw [h1]; exact h
  · rw [h2]; exact h
  · rw [h3]; exact h
  · rw [h4]; exact h
theorem hle_neg (a b : Nat) : decide (Int.negSucc a ≤ Int.negSucc b) = Nat.ble b a := by rw [Bool.eq_iff_iff]; simp; omega
theorem geq_two {ki : IntKind} {x y : AV} {vx vy : Value} (hk : IsInt ki x) (hx : CR Γ x vx) (hy : CR Γ y vy) {c : KA} (h : iOp .geq ki x y c = some r) : ∃ m n, vx = .int ki m ∧ vy = .int ki n ∧ c (.b (decide (m ≥ n))) = some r :=
  cmpK_two hk hx hy (q := fun m n => decide (m ≥ n)) (fun a b => ble_nat b a) (fun a b => by simp; omega) (fun a b => by simp; omega) (fun a b => hle_neg b a) h
theorem leq_two {ki : IntKind} {x y : AV} {vx vy : Value} (hk : IsInt ki x) (hx : CR Γ x vx) (hy : CR Γ y vy) {c : KA} (h : iOp .leq ki x y c = some r) : ∃ m n, vx = .int ki m ∧ vy = .int ki n ∧ c (.b (decide (m ≤ n))) = some r :=
  cmpK_two hk hx hy (q := fun m n => decide (m ≤ n)) ble_nat (fun a b => by simp; omega) (fun a b => by simp; omega) hle_neg h
theorem mmK_spec {op : BinOp} {l : List AV} {k : KA} {vs : List Value} (hc : CRL Γ l vs) (h : mmK op l k = some r) :
    ∃ ki x y vx vy, l = [x, y] ∧ vs = [vx, vy] ∧ IsInt ki x ∧ CR Γ x vx ∧ CR Γ y vy ∧ iOp op ki x y (fun t => asB t fun t => k (Bool.rec y x t)) = some r := by
  unfold mmK at h
  split at h
  · rename_i x y
    obtain ⟨v, u, rfl, h1, h2⟩ := hc.inv2
    rcases asZ_spec h with ⟨ki, n, rfl, h'⟩ | ⟨ki, n, rfl, h'⟩
    · exact ⟨ki, _, _, _, _, rfl, rfl, .inl ⟨n, rfl⟩, h1, h2, h'⟩
    · exact ⟨ki, _, _, _, _, rfl, rfl, .inr ⟨n, rfl⟩, h1, h2, h'⟩
  · cases h
theorem bltK_ok (b : Builtin) (args : Array Operand) (tys : Array TypeId) (_at : Array TypeId) : OpOK P (bltV P b args tys) (.call ⟨.builtin b, args, tys⟩) := fun {L V st k r Γ a w o} ho h hs hl => by
  obtain ⟨l, hc, h⟩ := opdL_spec hs.glob hl h
  have hargs : (args.map a.eval) = ((args.toList.map a.eval)).toArray := by apply Array.ext'; simp
  have hexec : ∀ v w', (∀ ty cs, (builtin b tys ty cs (args.map a.eval)).run P w = .ok (.value v) w') → (execOp a.eval o).run P w = .ok (.value v) w' := fun v w' hv => by
    simp only [execOp, ho, resolve, Sem.run_bind, Sem.run_pure, Result.andThen_ok, invoke, hv]
  cases b with
  | len =>
    cases ht : tys[0]? with
    | none => unfold bltK at h; rw [ht] at h; cases h
    | some t =>
      unfold bltK at h; rw [ht] at h
      obtain ⟨y, rfl, h2⟩ := one1_spec (h : one1 l (fun y => lenS P t y fun v => k v st) = some r)
      obtain ⟨v, hv, hy⟩ := hc.inv1
      obtain ⟨n, h3, hr⟩ := lenS_spec (P := P) hy h2
      refine ⟨_, st, h3, .pure hs (hexec (.int .i64 n) w fun ty cs => ?_) (.i _ _)⟩
      rw [hargs, hv]
      simp only [builtin, Sem.run_bind, hr tys ty w ht, Result.andThen_ok]; rfl
  | cap =>
    cases ht : tys[0]? with
    | none => unfold bltK at h; rw [ht] at h; cases h
    | some t =>
      unfold bltK at h; rw [ht] at h
      obtain ⟨y, rfl, h2⟩ := one1_spec (h : one1 l (fun y => capS P t y fun v => k v st) = some r)
      obtain ⟨v, hv, hy⟩ := hc.inv1
      obtain ⟨n, h3, hr⟩ := capS_spec (P := P) hy h2
      refine ⟨_, st, h3, .pure hs (hexec (.int .i64 n) w fun ty cs => ?_) (.i _ _)⟩
      rw [hargs, hv]
      simp only [builtin, Sem.run_bind, hr tys ty w ht, Result.andThen_ok]; rfl
  | clear =>
    cases ht : tys[0]? with
    | none => unfold bltK at h; rw [ht] at h; cases h
    | some t =>
      unfold bltK at h; rw [ht] at h
      obtain ⟨y, rfl, h2⟩ := one1_spec (h : one1 l (fun y => clrK P t y st k) = some r)
      obtain ⟨v, hv, hy⟩ := hc.inv1
      obtain ⟨st', h3, w', hr, hg⟩ := clrK_spec (P := P) hs hy h2
      refine ⟨_, st', h3, fun Q K hK => ?_⟩
      have hx := hexec (.tuple #[]) w' fun ty cs => by
        rw [hargs, hv]
        simp only [builtin, Sem.run_bind, hr tys ty ht, Result.andThen_ok]; rfl
      unfold Oper.wp
      rw [hx]
      exact hK _ w' Γ hg (.tup .nil)
  | copy =>
    cases ht : tys[0]? with
    | none => unfold bltK at h; rw [ht] at h; cases h
    | some t =>
      unfold bltK at h; rw [ht] at h
      obtain ⟨d, s, rfl, h2⟩ := two2_spec (h : two2 l (fun d s => copK P t d s st k) = some r)
      obtain ⟨vd, vs, hv, hd, hs'⟩ := hc.inv2
      obtain ⟨n, st', h3, w', hr, hg⟩ := copK_spec (P := P) hs hd hs' h2
      refine ⟨_, st', h3, fun Q K hK => ?_⟩
      have hx := hexec (.int .i64 n) w' fun ty cs => by
        rw [hargs, hv]
        simp only [builtin, Sem.run_bind, hr tys ty ht, Result.andThen_ok]; rfl
      unfold Oper.wp
      rw [hx]
      exact hK _ w' Γ hg (.i _ _)
  | append =>
    obtain ⟨s, x, rfl, h0⟩ := two2_spec (h : two2 l (fun s x => appT P tys.toList s x st k) = some r)
    clear h
    have h := h0
    clear h0
    obtain ⟨vs, vx, hv, h1, h2⟩ := hc.inv2
    cases htl : tys.toList with
    | nil => rw [htl] at h; cases h
    | cons t l1 => cases l1 with
      | nil => rw [htl] at h; cases h
      | cons u l2 => cases l2 with
        | cons => rw [htl] at h; cases h
        | nil =>
          rw [htl] at h
          have h : (Option.rec (motive := fun _ => AV → AV → St → KS → OR) (Bool.rec (motive := fun _ => AV → AV → St → KS → OR) (fun _ _ _ _ => none) (zapK P t) (isIntT P u)) (fun _ => appK P t) (elemT P u)) s x st k = some r := h
          cases hu : elemT P u with
          | none =>
            rw [hu] at h
            have h : (Bool.rec (motive := fun _ => AV → AV → St → KS → OR) (fun _ _ _ _ => none) (zapK P t) (isIntT P u)) s x st k = some r := h
            cases hi : isIntT P u with
            | false => rw [hi] at h; cases h
            | true =>
              rw [hi] at h
              obtain ⟨kn, hkn⟩ := isIntT_spec hi
              have h : (Option.rec (motive := fun _ => AV → AV → St → KS → OR) (fun _ _ _ _ => none) (fun e => Bool.rec (motive := fun _ => AV → AV → St → KS → OR) (fun _ _ _ _ => none) (Option.rec (motive := fun _ => AV → AV → St → KS → OR) (fun _ _ _ _ => none) (fun z => zapK2 (szOf P e) z.cells) (zeroA P e)) (cellT P e)) (elemT P t)) s x st k = some r := h
              cases ht : elemT P t with
              | none => rw [ht] at h; cases h
              | some e =>
                rw [ht] at h
                have h : (Bool.rec (motive := fun _ => AV → AV → St → KS → OR) (fun _ _ _ _ => none) (Option.rec (motive := fun _ => AV → AV → St → KS → OR) (fun _ _ _ _ => none) (fun z => zapK2 (szOf P e) z.cells) (zeroA P e)) (cellT P e)) s x st k = some r := h
                cases hct : cellT P e with
                | false => rw [hct] at h; cases h
                | true =>
                  rw [hct] at h
                  have h : (Option.rec (motive := fun _ => AV → AV → St → KS → OR) (fun _ _ _ _ => none) (fun z => zapK2 (szOf P e) z.cells) (zeroA P e)) s x st k = some r := h
                  cases hz : zeroA P e with
                  | none => rw [hz] at h; cases h
                  | some z =>
                    rw [hz] at h
                    obtain ⟨i, zv, hcell⟩ := cellT_spec hct hz
                    have h : zapK2 (szOf P e) z.cells s x st k = some r := h
                    rw [hcell.szOf] at h
                    obtain ⟨av, st', h, hp⟩ := zapK2_spec hs (elemT_spec ht) hcell hkn h1 h2 h
                    refine ⟨av, st', h, fun Q K hK => ?_⟩
                    obtain ⟨v, w', Γ', g1, g2, g3⟩ := hp o.type
                    have hte : tys = #[t, u] := by apply Array.ext'; simpa using htl
                    unfold Oper.wp
                    have : (execOp a.eval o).run P w = .ok (.value v) w' := by
                      simp only [execOp, ho, resolve, Sem.run_bind, Sem.run_pure, Result.andThen_ok, invoke, builtin]
                      rw [hargs, hv, hte, g1]; rfl
                    rw [this]
                    exact hK v w' Γ' g2 g3
          | some e' =>
            rw [hu] at h
            have h : (Option.rec (motive := fun _ => AV → AV → St → KS → OR) (fun _ _ _ _ => none) (fun e => Bool.rec (motive := fun _ => AV → AV → St → KS → OR) (fun _ _ _ _ => none) (appK2 (szOf P e)) (cellT P e)) (elemT P t)) s x st k = some r := h
            cases ht : elemT P t with
            | none => rw [ht] at h; cases h
            | some e =>
              rw [ht] at h
              have h : (Bool.rec (motive := fun _ => AV → AV → St → KS → OR) (fun _ _ _ _ => none) (appK2 (szOf P e)) (cellT P e)) s x st k = some r := h
              cases hct : cellT P e with
              | false => rw [hct] at h; cases h
              | true =>
                rw [hct] at h
                have hz : ∃ z, zeroA P e = some z := by
                  unfold cellT at hct
                  split at hct
                  · exact ⟨_, by assumption⟩
                  · cases hct
                obtain ⟨z, hz⟩ := hz
                obtain ⟨i, zv, hcell⟩ := cellT_spec hct hz
                have h : appK2 (szOf P e) s x st k = some r := h
                rw [hcell.szOf] at h
                obtain ⟨av, st', h, hp⟩ := appK2_spec hs (elemT_spec ht) hcell (elemT_spec hu) h1 h2 h
                refine ⟨av, st', h, fun Q K hK => ?_⟩
                obtain ⟨v, w', Γ', g1, g2, g3⟩ := hp o.type
                have hte : tys = #[t, u] := by apply Array.ext'; simpa using htl
                unfold Oper.wp
                have : (execOp a.eval o).run P w = .ok (.value v) w' := by
                  simp only [execOp, ho, resolve, Sem.run_bind, Sem.run_pure, Result.andThen_ok, invoke, builtin]
                  rw [hargs, hv, hte, g1]; rfl
                rw [this]
                exact hK v w' Γ' g2 g3
  | max =>
    obtain ⟨ki, x, y, vx, vy, rfl, hv, hk, hx, hy, h0⟩ := mmK_spec (op := .geq) (k := fun v => k v st) (r := r) hc h
    obtain ⟨m, n, rfl, rfl, h1⟩ := geq_two hk hx hy h0
    clear h h0
    have h : k (Bool.rec (motive := fun _ => AV) y x (decide (m ≥ n))) st = some r := h1
    refine ⟨_, st, h, .pure hs (hexec (.int ki (if n > m then n else m)) w fun ty cs => ?_) ?_⟩
    · rw [hargs, hv]
      simp [builtin, Builtin.max_, Builtin.max2]
    · by_cases hmn : m ≥ n
      · rw [decide_eq_true hmn, if_neg (by omega)]; exact hx
      · rw [decide_eq_false hmn, if_pos (by omega)]; exact hy
  | min =>
    obtain ⟨ki, x, y, vx, vy, rfl, hv, hk, hx, hy, h0⟩ := mmK_spec (op := .leq) (k := fun v => k v st) (r := r) hc h
    obtain ⟨m, n, rfl, rfl, h1⟩ := leq_two hk hx hy h0
    clear h h0
    have h : k (Bool.rec (motive := fun _ => AV) y x (decide (m ≤ n))) st = some r := h1
    refine ⟨_, st, h, .pure hs (hexec (.int ki (if n < m then n else m)) w fun ty cs => ?_) ?_⟩
    · rw [hargs, hv]
      simp [builtin, Builtin.min_, Builtin.min2]
    · by_cases hmn : m ≤ n
      · rw [decide_eq_true hmn, if_neg (by omega)]; exact hx
      · rw [decide_eq_false hmn, if_pos (by omega)]; exact hy
  | _ => cases h
-- calls
/-- The program's functions are entered when they are called. -/
def FunsOK (P : Program) : Prop := ∀ f fn, P.funcs[f]? = some fn → fn.body ≠ none → ∀ args w, (callFunc f args).run P w = .ok (.enter f args) w
/-- A call, as the evaluator foretells it. -/
def CallPost (P : Program) (f : FuncId) (vs : Array Value) (st : St) (Γ : Map) (w : World) (k : KS) (r : AV × St) : Prop :=
  ∀ R : Ending → World → Prop, (∀ av st' v w' Γ', k av st' = some r → Grow st Γ w st' Γ' w' → CR Γ' av v → R (.returned v) w') → Calls P f vs w R
def CallOK (P : Program) (f : FuncId) (s : List AV → St → KS → OR) : Prop :=
  ∀ {args : List AV} {st : St} {k : KS} {r : AV × St} {Γ : Map} {w : World} {vs : List Value}, s args st k = some r → Sim st Γ w → CRL Γ args vs → CallPost P f vs.toArray st Γ w k r
def PrimsOK (P : Program) (pr : Prims) : Prop := ∀ f p, pr f = some p → (∃ fn, P.funcs[f]? = some fn ∧ fn.body ≠ none) ∧ CallOK P f p
/-- The operation does what the evaluator has foretold, whatever comes behind. -/
def OpOK2 (P : Program) (s : OpS) (op : Op) : Prop :=
  ∀ {L V : Env} {st : St} {k : KS} {r : AV × St} {Γ : Map} {a : Act} {w : World} {o : Oper}, o.op = op → s L V st k = some r → Sim st Γ w → SlR Γ L V a.tmps →
    ∀ (Q : Exit → Act → World → Prop) (K : Act → World → Prop), (∀ av st' v w' Γ', k av st' = some r → Grow st Γ w st' Γ' w' → CR Γ' av v → K (a.put o.dst v) w') → o.wp P a w K Q
theorem up2 {s : OpS} {op : Op} (h : OpOK P s op) : OpOK2 P s op := fun ho hk hs hl Q K hK => by
  obtain ⟨av, st', h1, h2⟩ := h ho hk hs hl
  exact h2 Q K fun v w' Γ' hg hc => hK av st' v w' Γ' h1 hg hc
def outX : Out → Exit
  | .normal => .normal
  | .exit id => .exit id
  | .ret => .ret
/-- The slots that the evaluator keeps are among those that outlive their statement. -/
def Within (V : Env) (U : List Nat) : Prop := ∀ t a, V.find t = some a → t ∈ U
def CodePost (P : Program) (c : Code) (U : FI) (a : Act) (st : St) (Γ : Map) (w : World) (k : Out → Env → St → OR) (r : AV × St) : Prop :=
  ∀ Q : Exit → Act → World → Prop, (∀ o V' st' a' w' Γ', k o V' st' = some r → Within V' U.1 → Grow st Γ w st' Γ' w' → SlR Γ' .nil V' a'.tmps → a'.tmps.size = a.tmps.size → a'.defers = a.defers → Q (outX o) a' w') → c.wp P Q a w
def CodeOK (P : Program) (U : FI) (c : Code) (s : CdS) : Prop :=
  ∀ {V : Env} {st : St} {k : Out → Env → St → OR} {r : AV × St} {Γ : Map} {a : Act} {w : World}, s V st k = some r → Sim st Γ w → SlR Γ .nil V a.tmps → Within V U.1 → U.2 ≤ a.tmps.size → CodePost P c U a st Γ w k r
def IHOK (P : Program) (ih : IH) : Prop := ∀ U c, CodeOK P U c (ih U c)
theorem find_nil {V : Env} {tmps : Array Value} (h : SlR Γ .nil V tmps) {t : Nat} {a : AV} (ht : V.find t = some a) : t < tmps.size ∧ CR Γ a (tmps.getD t undef) := h t a ht
/-- One result of a function. -/
def resultOf (tmps : Array Value) : ResultVar → Sem Value
  | .tmp t => pure (tmps.getD t undef)
  | .cell a t => do loadVar t (← asAddr (tmps.getD a undef))
theorem res1_spec {st : St} {V : Env} (x : ResultVar) {k : KA} (h : res1 P x V st k = some r) :
    ∃ av, k av = some r ∧ ∀ (Γ : Map) (w : World) (tmps : Array Value), Sim st Γ w → SlR Γ .nil V tmps → ∃ u, CR Γ av u ∧ (resultOf tmps x).run P w = .ok u w := by
  cases x with
  | tmp t =>
    obtain ⟨y, h1, h2⟩ := Env.vget_spec V t (h : V.vget t k = some r)
    exact ⟨y, h2, fun Γ w tmps hs hl => ⟨_, (find_nil hl h1).2, rfl⟩⟩
  | cell a t =>
    have h : (Bool.rec (motive := fun _ => Env → St → KA → OR) (fun _ _ _ => none) (fun V st k => V.vget a fun y => resV P t st y k) (known P t)) V st k = some r := h
    cases hk : known P t with
    | false => rw [hk] at h; cases h
    | true =>
      rw [hk] at h
      obtain ⟨y, h1, h2⟩ := Env.vget_spec V a (h : V.vget a (fun y => resV P t st y k) = some r)
      obtain ⟨id, off, rfl, h3⟩ := asP_spec h2
      obtain ⟨b, hlk, h3⟩ := getK_spec h3
      obtain ⟨av, h3, h4⟩ := rdK_spec h3
      refine ⟨av, h3, fun Γ w tmps hs hl => ?_⟩
      obtain ⟨p, s, hp, e⟩ := ((find_nil hl h1).2).inv_ptr
      obtain ⟨p', s', hp', hlt, cs, el, hw, hsz, hlen, hc, _⟩ := hs.blk id b hlk
      obtain ⟨rfl, rfl⟩ : p' = p ∧ s' = s := by rw [hp] at hp'; injection hp' with hp'; injection hp' with e1 e2; exact ⟨e1.symm, e2.symm⟩
      obtain ⟨u, g1, g3⟩ := run_loadVar2 (P := P) hk hw (by omega) hc h4
      exact ⟨u, g1, by simp only [resultOf, e, asAddr, Sem.run_bind, Sem.run_pure, Result.andThen_ok, g3]⟩
theorem resL_spec {st : St} {V : Env} : ∀ (l : List ResultVar) {k : List AV → OR}, resL P l V st k = some r →
    ∃ as, k as = some r ∧ ∀ (Γ : Map) (w : World) (tmps : Array Value), Sim st Γ w → SlR Γ .nil V tmps → ∃ us, CRL Γ as us ∧ (l.mapM (resultOf tmps)).run P w = .ok us w := by
  intro l
  induction l with
  | nil => intro k h; exact ⟨[], h, fun Γ w tmps hs hl => ⟨[], .nil, by simp⟩⟩
  | cons x l ih =>
    intro k h
    obtain ⟨av, h1, h2⟩ := res1_spec x (h : res1 P x V st (fun a => resL P l V st fun l => k (a :: l)) = some r)
    obtain ⟨as, h3, h4⟩ := ih h1
    refine ⟨av :: as, h3, fun Γ w tmps hs hl => ?_⟩
    obtain ⟨u, g1, g2⟩ := h2 Γ w tmps hs hl
    obtain ⟨us, g3, g4⟩ := h4 Γ w tmps hs hl
    exact ⟨u :: us, .cons g1 g3, by simp [List.mapM_cons, g2, g4]⟩
theorem run_results {fn : Func} {tmps : Array Value} {us : List Value} {w : World} (h : (fn.results.toList.mapM (resultOf tmps)).run P w = .ok us w) : (results fn tmps).run P w = .ok (if h : us.toArray.size = 1 then us.toArray[0] else .tuple us.toArray) w := by
  have e : results fn tmps = (do let vs ← fn.results.mapM (resultOf tmps); pure (if h : vs.size = 1 then vs[0] else .tuple vs)) := by
    unfold results
    congr 1
  rw [e]
  simp [Array.mapM_eq_mapM_toList, h]
theorem tup1_spec {as : List AV} {us : List Value} (h : CRL Γ as us) : CR Γ (tup1 as) (if h : us.toArray.size = 1 then us.toArray[0] else .tuple us.toArray) := by
  cases h with
  | nil => exact .tup .nil
  | cons h1 t => cases t with
    | nil => exact h1
    | cons h2 t => exact .tup (.cons h1 (.cons h2 t))
theorem initE_find : ∀ (l : List AV) (n t : Nat) (a : AV), (initE l n).find t = some a → n ≤ t ∧ l[t - n]? = some a := by
  intro l
  induction l with
  | nil => intro n t a h; cases h
  | cons b l ih =>
    intro n t a h
    have h0 : (if n = t then some b else (initE l (n + 1)).find t) = some a := h
    clear h
    split at h0
    · rename_i e; subst e; exact ⟨Nat.le_refl _, by simpa using h0⟩
    · obtain ⟨h1, h2⟩ := ih (n + 1) t a h0
      refine ⟨by omega, ?_⟩
      rw [show t - n = (t - (n + 1)) + 1 by omega]; simpa using h2
theorem fnK_ok {ih : IH} (hih : IHOK P ih) {f : FuncId} {fn : Func} (hf : P.funcs[f]? = some fn) : CallOK P f (fnK P (some fn) ih) := fun {args st k r Γ w vs} h hs hc => by
  have h : (Option.rec (motive := fun _ => IH → List AV → St → KS → OR) (fun _ _ _ _ => none) (fun c => runK P (liveF fn c, fn.ntmps) c fn.results.toList) fn.body) ih args st k = some r := h
  cases hb : fn.body with
  | none => rw [hb] at h; cases h
  | some c =>
    rw [hb] at h
    obtain ⟨g1, h⟩ := ifK_yes (h : ifK (Nat.ble (lenL args) 16) (ifK (Nat.ble (lenL args) fn.ntmps) (ih (liveF fn c, fn.ntmps) c (initE args 0) st (outK P fn.results.toList k)) none) none = some r)
    obtain ⟨g2, h⟩ := ifK_yes h
    have g1 := Nat.le_of_ble_eq_true g1
    have g2 := Nat.le_of_ble_eq_true g2
    rw [lenL_eq] at g1 g2
    have hlen : args.length = vs.length := hc.length
    have hsl : SlR Γ .nil (initE args 0) (vs.toArray ++ Array.replicate (fn.ntmps - vs.toArray.size) undef) := fun t y hy => by
      obtain ⟨_, h2⟩ := initE_find args 0 t y hy
      obtain ⟨v, hv, hcv⟩ := hc.get (by simpa using h2)
      have hlt : t < vs.length := (List.getElem?_eq_some_iff.1 hv).1
      refine ⟨by simp; omega, ?_⟩
      rw [Array.getD_eq_getD_getElem?, Array.getElem?_append_left (by simpa using hlt)]
      simp only [List.getElem?_toArray, hv, Option.getD_some]; exact hcv
    have hmem : ∀ (l : List ResultVar) (out : List Nat) (t : Nat), t ∈ out → t ∈ l.foldl (fun out r => match r with | .tmp t => t :: out | .cell t _ => t :: out) out := by
      intro l
      induction l with
      | nil => intro out t h; exact h
      | cons x l ih => intro out t h; exact ih _ t (by cases x <;> exact List.mem_cons_of_mem _ h)
    have hexpo : ∀ (l : List Oper) (wr out : List Nat) (t : Nat), t ∈ out → t ∈ expo l wr out := by
      intro l
      induction l with
      | nil => intro wr out t h; exact h
      | cons x l ih =>
        intro wr out t h
        refine ih _ _ t ?_
        have : ∀ (m : List Nat) (out : List Nat), t ∈ out → t ∈ m.foldl (fun out t => if wr.elem t || out.elem t then out else t :: out) out := by
          intro m
          induction m with
          | nil => intro out h; exact h
          | cons y m ih => intro out h; exact ih _ (by dsimp only; split <;> first | exact h | exact List.mem_cons_of_mem _ h)
        exact this _ _ h
    have hlive : ∀ (c : Code) (out : List Nat) (t : Nat), t ∈ out → t ∈ liveC c out := by
      intro c
      induction c with
      | region id ops d => intro out t h; exact hexpo _ _ _ _ h
      | seq a b iha ihb => intro out t h; exact ihb _ _ (iha _ _ h)
      | cond x a b iha ihb =>
        intro out t h
        refine ihb _ _ (iha _ _ ?_)
        cases x <;> first | exact h | (dsimp only; split <;> first | exact h | exact List.mem_cons_of_mem _ h)
      | block id c ih => intro out t h; exact ih _ _ h
      | loop c ih => intro out t h; exact ih _ _ h
      | scope c ih => intro out t h; exact ih _ _ h
      | _ => intro out t h; exact h
    have hw : Within (initE args 0) (liveF fn c) := fun t y hy => by
      obtain ⟨_, h2⟩ := initE_find args 0 t y hy
      have hlt : t < args.length := by simpa using (List.getElem?_eq_some_iff.1 h2).1
      exact hmem _ _ _ (hlive _ _ _ (List.mem_range.2 (by omega)))
    intro R hR
    refine calls_of_wp hf hb (hih (liveF fn c, fn.ntmps) c (a := { tmps := vs.toArray ++ Array.replicate (fn.ntmps - vs.toArray.size) undef, defers := [] }) h hs hsl hw (by simp; omega) _ fun o V' st' a' w' Γ' hk hw' hg hl' _ hd => ?_)
    have hend : (o = .normal ∨ o = .ret) ∧ resL P fn.results.toList V' st' (fun l => k (tup1 l) st') = some r := by
      cases o with
      | normal => exact ⟨.inl rfl, hk⟩
      | exit id => cases hk
      | ret => exact ⟨.inr rfl, hk⟩
    obtain ⟨ho, hk⟩ := hend
    obtain ⟨as, q1, q2⟩ := resL_spec _ hk
    obtain ⟨us, q3, q4⟩ := q2 Γ' w' a'.tmps hg.sim hl'
    have hb' : a'.defers = [] ∧ ∃ v, (results fn a'.tmps).run P w' = .ok v w' ∧ R (.returned v) w' := ⟨hd, _, run_results q4, hR _ _ _ _ _ q1 hg (tup1_spec q3)⟩
    rcases ho with rfl | rfl
    · exact hb'
    · exact hb'
theorem callK_ok {pr : Prims} (hpr : PrimsOK P pr) {ih : IH} (hih : IHOK P ih) (hfu : FunsOK P) {f : FuncId} {args : List AV} {st : St} {k : KS} (h : callK P pr f ih args st k = some r) {w : World} (hs : Sim st Γ w) {vs : List Value} (hc : CRL Γ args vs) :
    CallPost P f vs.toArray st Γ w k r ∧ ∀ xs w, (callFunc f xs).run P w = .ok (.enter f xs) w := by
  have h : (Option.rec (motive := fun _ => IH → List AV → St → KS → OR) (fnK P (P.funcs[f]?)) (fun p _ => p) (pr f)) ih args st k = some r := h
  cases hp : pr f with
  | some p =>
    rw [hp] at h
    obtain ⟨⟨fn, hf, hb⟩, hok⟩ := hpr f p hp
    exact ⟨hok h hs hc, hfu f fn hf hb⟩
  | none =>
    rw [hp] at h
    have h : fnK P (P.funcs[f]?) ih args st k = some r := h
    cases hf : P.funcs[f]? with
    | none => rw [hf] at h; cases h
    | some fn =>
      rw [hf] at h
      have hb : fn.body ≠ none := fun e => by
        have h : (Option.rec (motive := fun _ => IH → List AV → St → KS → OR) (fun _ _ _ _ => none) (fun c => runK P (liveF fn c, fn.ntmps) c fn.results.toList) fn.body) ih args st k = some r := h
        rw [e] at h; cases h
      exact ⟨fnK_ok hih hf h hs hc, hfu f fn hf hb⟩
theorem clK_ok {pr : Prims} (hpr : PrimsOK P pr) {ih : IH} (hih : IHOK P ih) (hfu : FunsOK P) (c : Call) : OpOK2 P (clK P pr c ih) (.call c) := by
  obtain ⟨callee, args, tys⟩ := c
  cases callee with
  | value g =>
    intro L V st k r Γ a w o ho h hs hl Q K hK
    obtain ⟨vg, hg, h⟩ := opd_spec hs.glob hl (h : opd g L V _ = some r)
    obtain ⟨l, hc, h⟩ := opdL_spec hs.glob hl h
    obtain ⟨f, first, cap, rfl, h'⟩ := asF_spec h
    obtain ⟨va, vb, e, hca, hcb⟩ := hg.inv_fn
    rw [appL_eq, appL_eq] at h'
    obtain ⟨h2, h3⟩ := callK_ok hpr hih hfu h' hs ((hca.app hc).app hcb)
    have hx : (execOp a.eval o).run P w = .ok (.enter f (va.toArray ++ args.map a.eval ++ vb.toArray)) w := by
      simp only [execOp, ho, resolve, Deferred.ofValue, e, Sem.run_bind, Sem.run_pure, Result.andThen_ok, invoke, h3]
    have harr : va.toArray ++ args.map a.eval ++ vb.toArray = (va ++ args.toList.map a.eval ++ vb).toArray := by apply Array.ext'; simp
    unfold Oper.wp
    rw [hx, harr]
    exact h2 _ fun av st' v w' Γ' hk hgr hcr => hK av st' v w' Γ' hk hgr hcr
  | invoke => intro L V st k r Γ a w o ho h; cases h
  | builtin b => exact up2 (bltK_ok b args tys tys)
end Go.Proofs.YtceobmnljdhkmaaGreatDoor.Ev
/- statements whose order is the text's -/
namespace Go.Proofs.YtceobmnljdhkmaaGreatDoor.Ev
open Go
variable {r : AV × St} {P : Program} {Γ : Map}
theorem opK_ok {pr : Prims} (hpr : PrimsOK P pr) {ih : IH} (hih : IHOK P ih) (hfu : FunsOK P) (op : Op) : OpOK2 P (opK P pr op ih) op := by
  cases op with
  | move x => exact up2 (moveK_ok x)
  | assign x => exact up2 (assignK_ok x)
  | pick c a b => exact up2 (pickK_ok c a b)
  | alloc e => exact up2 (allocK_ok e)
  | box t x => exact up2 (boxK_ok t x)
  | build t ps => exact up2 (buildK_ok t ps)
  | buildSlice t n ps => exact up2 (bslK_ok t n ps)
  | load t a => exact up2 (loadK_ok t a)
  | store t a x => exact up2 (storeK_ok t a x)
  | nilCheck x => exact up2 (nilK_ok x)
  | binOp op t x y u => exact up2 (binOpK_ok op t x y u)
  | unOp op t x => exact up2 (unOpK_ok op t x)
  | convert s d x => exact up2 (convK_ok s d x)
  | makeFunc f a b => exact up2 (mfK_ok f a b)
  | makeSlice t l c => exact up2 (mksK_ok t l c)
  | slice t x lo hi mx => exact up2 (sliceK_ok t x lo hi mx)
  | fieldAddr s x f => exact up2 (fadK_ok s x f)
  | field t x f => exact up2 (fldK_ok t x f)
  | indexAddr t x ix => exact up2 (iadK_ok t x ix)
  | index t x ix => exact up2 (idxK_ok t x ix)
  | extract x i => exact up2 (extK_ok x i)
  | call c => exact clK_ok hpr hih hfu c
  | _ => intro L V st k r Γ a w o ho h; cases h
theorem getD_set_self {tmps : Array Value} {d : Nat} (v : Value) (h : d < tmps.size) : (tmps.setIfInBounds d v).getD d undef = v := by
  rw [Array.getD_eq_getD_getElem?, Array.getElem?_setIfInBounds_self_of_lt h]; rfl
theorem getD_set_other {tmps : Array Value} {d t : Nat} (v : Value) (h : d ≠ t) : (tmps.setIfInBounds d v).getD t undef = tmps.getD t undef := by
  rw [Array.getD_eq_getD_getElem?, Array.getElem?_setIfInBounds_ne h, ← Array.getD_eq_getD_getElem?]
theorem SlR.put {L V : Env} {a : Act} (h : SlR Γ L V a.tmps) {dst : Option Tmp} {av : AV} {v : Value} (hd : ∀ d, dst = some d → d < a.tmps.size) (hc : CR Γ av v) : SlR Γ (dstK dst av L) V (a.put dst v).tmps := by
  cases dst with
  | none => exact h
  | some d =>
    intro t b ht
    have ht : (if d = t then some av else L.look V t) = some b := ht
    have hlt := hd d rfl
    rename_i ht0
    clear ht0
    split at ht
    · rename_i e
      injection ht with ht; subst e ht
      exact ⟨by simpa [Act.put] using hlt, by simp only [Act.put]; rw [getD_set_self v hlt]; exact hc⟩
    · rename_i e
      obtain ⟨h1, h2⟩ := h t b ht
      exact ⟨by simpa [Act.put] using h1, by simp only [Act.put]; rw [getD_set_other v e]; exact h2⟩
theorem put_size (a : Act) (dst : Option Tmp) (v : Value) : (a.put dst v).tmps.size = a.tmps.size := by cases dst <;> simp [Act.put]
theorem put_defers (a : Act) (dst : Option Tmp) (v : Value) : (a.put dst v).defers = a.defers := by cases dst <;> rfl
/-- Is an operation wanted? -/
theorem grdK_spec {L V : Env} {all : Array Oper} {o : Oper} {g : Nat} {want : Bool} (ho : o.guard = some (g, want)) {y n : OR} (h : grdK ((all[g]?).bind (·.dst)) want L V y n = some r) :
    ∃ b : Bool, (if b then y else n) = some r ∧ ∀ (Γ : Map) (a : Act), SlR Γ L V a.tmps → Region.wanted o (yielded all a.tmps) = b := by
  cases hd : (all[g]?).bind (·.dst) with
  | none => rw [hd] at h; cases h
  | some d =>
    rw [hd] at h
    obtain ⟨x, h1, h2⟩ := Env.lget_spec L d (h : L.lget V d (fun a => asG0 a n fun x => Bool.rec n y (beqB x want)) = some r)
    have hy : ∀ (Γ : Map) (a : Act), SlR Γ L V a.tmps → ∃ v, a.tmps[d]? = some v ∧ CR Γ x v := fun Γ a hl => by
      obtain ⟨q1, q2⟩ := hl d x h1
      refine ⟨a.tmps[d], by simp [q1], ?_⟩
      have : a.tmps.getD d undef = a.tmps[d] := by simp [Array.getD, q1]
      rw [← this]; exact q2
    cases x with
    | b t =>
      have h2 : Bool.rec (motive := fun _ => OR) n y (beqB t want) = some r := h2
      rw [beqB_eq] at h2
      refine ⟨t == want, by cases hh : (t == want) <;> (rw [hh] at h2; simpa using h2), fun Γ a hl => ?_⟩
      obtain ⟨v, hv, hc⟩ := hy Γ a hl
      rw [hc.inv_b] at hv
      unfold Region.wanted
      rw [ho]
      show (yielded all a.tmps g == some want) = _
      unfold yielded
      rw [hd]
      simp [hv]
    | u =>
      refine ⟨false, h2, fun Γ a hl => ?_⟩
      obtain ⟨v, hv, hc⟩ := hy Γ a hl
      have : v = undef := by cases hc; rfl
      rw [this] at hv
      unfold Region.wanted
      rw [ho]
      show (yielded all a.tmps g == some want) = _
      unfold yielded
      rw [hd]
      simp [hv, undef]
    | _ => cases h2
theorem dstsOK_cons {N : Nat} {o : Oper} {l : List Oper} (h : dstsOK N (o :: l) = true) : (∀ d, o.dst = some d → d < N) ∧ dstsOK N l = true := by
  unfold dstsOK at h
  split at h
  · rename_i d hd
    rw [Bool.and_eq_true] at h
    exact ⟨fun d' e => by rw [hd] at e; injection e with e; subst e; exact Nat.le_of_ble_eq_true h.1, h.2⟩
  · rename_i hd
    exact ⟨(fun d' e => by rw [hd] at e; cases e), h⟩
/-- The slots that operations write. -/
def dstsOf (l : List Oper) : List Nat := l.filterMap (·.dst)
theorem dstK_look {dst : Option Tmp} {av : AV} {L V : Env} {n : Nat} (h : ∀ d, dst = some d → d ≠ n) : (dstK dst av L).look V n = L.look V n := by
  cases dst with
  | none => rfl
  | some d =>
    show (if d = n then some av else L.look V n) = _
    rw [if_neg (h d rfl)]
theorem regK_ok {pr : Prims} (hpr : PrimsOK P pr) {ih : IH} (hih : IHOK P ih) (hfu : FunsOK P) {V : Env} {N : Nat} (all : Array Oper) : ∀ (l : List Oper) {L : Env} {st : St} {k : Env → St → OR} {Γ : Map} {a : Act} {w : World}, dstsOK N l = true → N ≤ a.tmps.size → regK P pr all l ih L V st k = some r → Sim st Γ w → SlR Γ L V a.tmps →
    ∀ Q : Exit → Act → World → Prop, (∀ L' st' a' w' Γ', k L' st' = some r → (∀ n, n ∉ dstsOf l → ∀ V', L'.look V' n = L.look V' n) → Grow st Γ w st' Γ' w' → SlR Γ' L' V a'.tmps → a'.tmps.size = a.tmps.size → a'.defers = a.defers → Q .normal a' w') → wpList P all Q l a w := by
  intro l
  induction l with
  | nil => intro L st k Γ a w _ _ h hs hl Q hQ; exact hQ L st a w Γ h (fun _ _ _ => rfl) (.refl hs) hl rfl rfl
  | cons o l ihl =>
    intro L st k Γ a w hd hN h hs hl Q hQ
    obtain ⟨hd1, hd2⟩ := dstsOK_cons hd
    have hdl : ∀ d, o.dst = some d → d < a.tmps.size := fun d e => Nat.lt_of_lt_of_le (hd1 d e) hN
    have hnot : ∀ n, n ∉ dstsOf (o :: l) → (∀ d, o.dst = some d → d ≠ n) ∧ n ∉ dstsOf l := fun n hn => by
      refine ⟨fun d e e2 => hn ?_, fun e => hn ?_⟩
      · subst e2; exact List.mem_filterMap.2 ⟨o, by simp, e⟩
      · obtain ⟨x, hx, hxd⟩ := List.mem_filterMap.1 e
        exact List.mem_filterMap.2 ⟨x, by simp [hx], hxd⟩
    -- what comes behind
    have hrest : ∀ av st1 v w' Γ', regK P pr all l ih (dstK o.dst av L) V st1 k = some r → Grow st Γ w st1 Γ' w' → CR Γ' av v → wpList P all Q l (a.put o.dst v) w' := fun av st1 v w' Γ' h1 hg hc =>
      ihl hd2 (by rw [put_size]; exact hN) h1 hg.sim ((hl.mono hg.sub).put hdl hc) Q fun L' st' a' w'' Γ'' q1 q2 q3 q4 q5 q6 => hQ L' st' a' w'' Γ'' q1 (fun n hn V' => by
        obtain ⟨n1, n2⟩ := hnot n hn
        rw [q2 n n2 V', dstK_look n1]) (hg.trans q3) q4 (by rw [q5, put_size]) (by rw [q6, put_defers])
    have hdo : stepK o (opK P pr o.op) (regK P pr all l) ih L V st k = some r → Region.wanted o (yielded all a.tmps) = true → wpList P all Q (o :: l) a w := fun h hw => by
      unfold wpList
      rw [if_pos hw]
      exact .inl (opK_ok hpr hih hfu o.op rfl (h : opK P pr o.op ih L V st (fun a st => regK P pr all l ih (dstK o.dst a L) V st k) = some r) hs hl _ _ fun av st' v w' Γ' q1 q2 q3 => hrest av st' v w' Γ' q1 q2 q3)
    have hskip : skipK o (regK P pr all l) ih L V st k = some r → Region.wanted o (yielded all a.tmps) = false → wpList P all Q (o :: l) a w := fun h hw => by
      unfold wpList
      rw [if_neg (by rw [hw]; simp)]
      exact hrest .u st undef w Γ h (.refl hs) .u
    have h : (Option.rec (motive := fun _ => IH → RgS) (stepK o (opK P pr o.op) (regK P pr all l)) (fun p ih L V st k => grdK ((all[p.1]?).bind (·.dst)) p.2 L V (stepK o (opK P pr o.op) (regK P pr all l) ih L V st k) (skipK o (regK P pr all l) ih L V st k)) o.guard) ih L V st k = some r := h
    cases hg : o.guard with
    | none => rw [hg] at h; exact hdo h (by unfold Region.wanted; rw [hg])
    | some p =>
      rw [hg] at h
      obtain ⟨b, h1, h2⟩ := grdK_spec hg h
      have h2 := h2 Γ a hl
      cases b with
      | true => exact hdo h1 h2
      | false => exact hskip h1 h2
theorem keepL_mem {U : List Nat} : ∀ {l : List Oper} {t : Nat}, t ∈ keepL U l ↔ t ∈ dstsOf l ∧ t ∈ U := by
  intro l
  induction l with
  | nil => intro t; simp [keepL, dstsOf]
  | cons o l ih =>
    intro t
    unfold keepL dstsOf
    cases hd : o.dst with
    | none => simp only [List.filterMap_cons, hd]; exact ih
    | some d =>
      simp only [List.filterMap_cons, hd]
      split
      · rename_i hu
        have hu : d ∈ U := by simpa using hu
        rw [List.mem_cons, List.mem_cons, ih]
        constructor
        · rintro (rfl | ⟨h1, h2⟩)
          · exact ⟨.inl rfl, hu⟩
          · exact ⟨.inr h1, h2⟩
        · rintro ⟨rfl | h1, h2⟩
          · exact .inl rfl
          · exact .inr ⟨h1, h2⟩
      · rename_i hu
        have hu : d ∉ U := by simpa using hu
        rw [List.mem_cons, ih]
        constructor
        · rintro ⟨h1, h2⟩; exact ⟨.inr h1, h2⟩
        · rintro ⟨rfl | h1, h2⟩
          · exact absurd h2 hu
          · exact ⟨h1, h2⟩
theorem look_nil {n : Nat} {a : AV} : ∀ {L : Env}, L.look .nil n = some a → ∀ V, L.look V n = some a := by
  intro L
  induction L with
  | nil => intro h; cases h
  | cons t b e ih => intro h V; simp only [Env.look] at h ⊢; split <;> rename_i hh <;> simp only [hh, if_true, if_false] at h <;> first | exact h | exact ih h V
  | del t e ih => intro h V; simp only [Env.look] at h ⊢; split <;> rename_i hh <;> simp only [hh, if_true, if_false] at h <;> first | cases h | exact ih h V
theorem flushK_spec {L : Env} : ∀ (ts : List Nat) (V : Env) (k : Env → OR), flushK ts L V k = some r →
    ∃ V', k V' = some r ∧ ∀ n b, V'.find n = some b → (n ∈ ts ∧ L.look .nil n = some b) ∨ (n ∉ ts ∧ V.find n = some b) := by
  intro ts
  induction ts with
  | nil => intro V k h; exact ⟨V, h, fun n b hb => .inr ⟨by simp, hb⟩⟩
  | cons t ts ih =>
    intro V k h
    obtain ⟨a, h1, h2⟩ := Env.lget_spec L t (h : L.lget .nil t (fun a => flushK ts L (Env.vset t a V) k) = some r)
    obtain ⟨V', h3, h4⟩ := ih _ k h2
    refine ⟨V', h3, fun n b hb => ?_⟩
    rcases h4 n b hb with ⟨g1, g2⟩ | ⟨g1, g2⟩
    · exact .inl ⟨by simp [g1], g2⟩
    · rcases Env.find_vset t a V n b g2 with ⟨rfl, rfl⟩ | ⟨g3, g4⟩
      · exact .inl ⟨by simp, h1⟩
      · exact .inr ⟨by simp only [List.mem_cons, not_or]; exact ⟨fun e => g3 e.symm, g1⟩, g4⟩
/-- The end of a statement: what outlives it is kept. -/
theorem endK_spec {U : FI} {l : List Oper} {V L : Env} {st : St} {k : Out → Env → St → OR} (h : endK (keepL U.1 l) V k L st = some r) (hw : Within V U.1) (hL : ∀ n, n ∉ dstsOf l → ∀ V', L.look V' n = Env.nil.look V' n) :
    ∃ V', k .normal V' st = some r ∧ Within V' U.1 ∧ ∀ Γ tmps, SlR Γ L V tmps → SlR Γ .nil V' tmps := by
  obtain ⟨V', h1, h2⟩ := flushK_spec _ _ _ h
  refine ⟨V', h1, fun t b hb => ?_, fun Γ tmps hl t b hb => ?_⟩
  · rcases h2 t b hb with ⟨g1, _⟩ | ⟨_, g2⟩
    · exact (keepL_mem.1 g1).2
    · exact hw t b g2
  · rcases h2 t b hb with ⟨g1, g2⟩ | ⟨g1, g2⟩
    · exact hl t b (look_nil g2 V)
    · have : t ∉ dstsOf l := fun hd => g1 (keepL_mem.2 ⟨hd, hw t b g2⟩)
      exact hl t b (by rw [hL t this V]; exact g2)
theorem plainK_ok {pr : Prims} (hpr : PrimsOK P pr) {ih : IH} (hih : IHOK P ih) (hfu : FunsOK P) (U : FI) (id : Nat) (ops : Array Oper) : CodeOK P U (.region id ops false) (plainK P pr U ops ih) := fun {V st k r Γ a w} h hs hl hw hN Q hQ => by
  have h : (Bool.rec (motive := fun _ => IH → CdS) (fun _ _ _ _ => none) (fun ih V st k => regK P pr ops ops.toList ih .nil V st (endK (keepL U.1 ops.toList) V k)) (dstsOK U.2 ops.toList)) ih V st k = some r := h
  cases hd : dstsOK U.2 ops.toList with
  | false => rw [hd] at h; cases h
  | true =>
    rw [hd] at h
    refine wp_region_list (regK_ok hpr hih hfu ops ops.toList hd hN h hs hl Q fun L' st' a' w' Γ' q1 q2 q3 q4 q5 q6 => ?_)
    obtain ⟨V', g1, g2, g3⟩ := endK_spec q1 hw q2
    exact hQ .normal V' st' a' w' Γ' g1 g2 q3 (g3 Γ' _ q4) q5 q6
end Go.Proofs.YtceobmnljdhkmaaGreatDoor.Ev
