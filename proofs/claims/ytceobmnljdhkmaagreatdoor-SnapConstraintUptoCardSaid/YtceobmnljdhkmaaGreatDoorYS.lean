
import Derived.Test.YtceobmnljdhkmaaGreatDoorYR
/- functions with proved contracts: a truth about two rows of words and their signs -/
namespace Go.Proofs.YtceobmnljdhkmaaGreatDoor.Ev
open Go Go.RowKit
variable {r : AV × St} {P : Program}
def agg4 : AV → Option (Bool × AV × Bool × AV)
  | .agg [.b n, y, .b d, z] => some (n, y, d, z)
  | _ => none
theorem agg4_spec {a : AV} {q : Bool × AV × Bool × AV} (h : agg4 a = some q) : a = .agg [.b q.1, q.2.1, .b q.2.2.1, q.2.2.2] := by
  unfold agg4 at h
  split at h
  · injection h with h; subst h; rfl
  · cases h
/-- rational.Valid -/
noncomputable def ratK (okf : Bool → List Nat → Bool → List Nat → Bool) (m : Nat) : List AV → St → KS → OR := fun args st k => one1 args fun a => Option.rec none (fun q => wordsK m q.2.1 st fun xs => wordsK m q.2.2.2 st fun ys => k (.b (okf q.1 xs q.2.2.1 ys)) st) (agg4 a)
theorem ratK_ok {f : FuncId} {okf : Bool → List Nat → Bool → List Nat → Bool} {m : Nat}
    (hU : ∀ (w : World) (n d : Bool) (v v' : Value) (xs ys : List Nat), SlW w v xs → SlW w v' ys → xs.length ≤ m → ys.length ≤ m → Calls P f #[.agg #[.bool n, v, .bool d, v']] w fun e w' => e = .returned (.bool (okf n xs d ys)) ∧ Below w.heap.size w w') : CallOK P f (ratK okf m) := fun {args st k r Γ w vs} h hs hc => by
  obtain ⟨a, rfl, h0⟩ := one1_spec h
  obtain ⟨v, rfl, hv⟩ := hc.inv1
  cases ha : agg4 a with
  | none => rw [ha] at h0; cases h0
  | some q =>
    rw [ha] at h0
    have e := agg4_spec ha
    subst e
    obtain ⟨vs, rfl, hcs⟩ := hv.inv_agg
    cases hcs with
    | cons c1 hcs => cases hcs with
      | cons c2 hcs => cases hcs with
        | cons c3 hcs => cases hcs with
          | cons c4 hcs =>
            cases hcs
            obtain ⟨xs, h1, h2, h3⟩ := wordsK_spec (h0 : wordsK m q.2.1 st _ = some r) hs c2
            obtain ⟨ys, h4, h5, h6⟩ := wordsK_spec h1 hs c4
            rw [c1.inv_b, c3.inv_b]
            intro R hR
            refine Calls.mono (hU w q.1 q.2.2.1 _ _ xs ys h2 h5 h3 h6) ?_
            rintro e w' ⟨rfl, hx⟩
            exact hR _ _ _ w' Γ h4 (Grow.ext hs hx) (.b _)
end Go.Proofs.YtceobmnljdhkmaaGreatDoor.Ev
/- functions with proved contracts: words -/
namespace Go.Proofs.YtceobmnljdhkmaaGreatDoor.Ev
open Go Go.RowKit
variable {r : AV × St} {P : Program} {Γ : Map}
/-- A block that has been made since. -/
theorem Grow.own {st : St} {w w' : World} (h : Sim st Γ w) (hx : Below w.heap.size w w') {b : Blk} {g : Nat} {cs : Array Value} {el : TypeId} (hg : w.heap.size ≤ g) (ho : w'.heap[g]? = some (.cells cs el (0, 0))) (hc : CRL Γ b.cells (cs.toList.take b.cells.length)) (hlen : b.cells.length ≤ cs.size) (he : b.exact = true → cs.size = b.cells.length) :
    Grow st Γ w (st.new b) (Γ.add st.nxt g cs.size) w' := by
  have hn : Γ st.nxt = none := h.fresh _ (Nat.le_refl _)
  have hle : Map.le Γ (Γ.add st.nxt g cs.size) := Map.add_le hn _ _
  have hgl : g < w'.heap.size := by
    rcases Nat.lt_or_ge g w'.heap.size with h1 | h1
    · exact h1
    · rw [Array.getElem?_eq_none h1] at ho; cases ho
  have hsucc : (st.new b).nxt.nat = st.nxt.nat + 1 := Id.nat_succ _
  refine ⟨⟨?_, ?_, ?_, ?_, h.glob.mono hle⟩, hle, fun id hi => Map.add_ne _ (fun e => by rw [e] at hi; omega) _ _, hx.os, hx.tape, hx.output, hx.size, rfl, rfl, by rw [hsucc]; omega, ?_, ?_, ?_⟩
  · intro id c hl
    by_cases e : id = st.nxt
    · subst e
      obtain rfl := St.new_look_self hl
      exact ⟨g, cs.size, Map.add_self _ _ _ _, hgl, ⟨cs, el, ho, rfl, hlen, hc.mono hle, he⟩⟩
    · obtain ⟨p, s, hp, hlt, hb⟩ := h.blk id c (St.new_look hl e)
      exact ⟨p, s, hle _ _ hp, Nat.lt_of_lt_of_le hlt hx.size, by rw [hx.block p hlt]; exact hb.mono hle⟩
  · intro id id' c c' p s s' hl hl' hp hp'
    by_cases e : id = st.nxt
    · by_cases e' : id' = st.nxt
      · rw [e, e']
      · subst e
        rw [Map.add_self] at hp; injection hp with hp; injection hp with hp1 hp2
        rw [Map.add_ne _ e'] at hp'
        obtain ⟨p2, s2, hp2, hlt, _⟩ := h.blk id' c' (St.new_look hl' e')
        rw [hp'] at hp2; injection hp2 with hp2; injection hp2 with hp2 _; omega
    · rw [Map.add_ne _ e] at hp
      by_cases e' : id' = st.nxt
      · subst e'
        rw [Map.add_self] at hp'; injection hp' with hp'; injection hp' with hp1 hp2
        obtain ⟨p2, s2, hp2, hlt, _⟩ := h.blk id c (St.new_look hl e)
        rw [hp] at hp2; injection hp2 with hp2; injection hp2 with hp2 _; omega
      · rw [Map.add_ne _ e'] at hp'
        exact h.inj id id' c c' p s s' (St.new_look hl e) (St.new_look hl' e') hp hp'
  · intro id hi
    rw [hsucc] at hi
    have : id ≠ st.nxt := fun e => by rw [e] at hi; omega
    rw [Map.add_ne _ this]; exact h.fresh id (by omega)
  · intro id hi
    rw [hsucc] at hi
    exact (Tr.put_other _ _ _ _ (fun e => by rw [← e] at hi; omega)).trans (h.top id (by omega))
  · intro q hq _
    exact hx.block q hq
  · intro q id c s hq hl hr hp
    by_cases e : id = st.nxt
    · subst e; rw [Map.add_self] at hp; injection hp with hp; injection hp with hp _; omega
    · rw [Map.add_ne _ e] at hp; exact ⟨id, c, s, St.new_look hl e, hr, hp⟩
  · intro id hi _
    exact Tr.put_other _ _ _ _ (fun e => by rw [← e] at hi; omega)
/-- How many words are left without the zeros at the end. -/
noncomputable def tl1 (x n : Nat) : Nat := Nat.rec (Bool.rec 1 0 (Nat.beq x 0)) (fun m _ => Nat.succ (Nat.succ m)) n
noncomputable def tlenK (l : List Nat) : Nat := List.rec 0 (fun x _ n => tl1 x n) l
theorem tlenK_le : ∀ l : List Nat, tlenK l ≤ l.length
  | [] => Nat.le_refl _
  | x :: l => by
    have ih := tlenK_le l
    show tl1 x (tlenK l) ≤ l.length + 1
    generalize tlenK l = n at *
    cases n with
    | zero => show (Bool.rec (motive := fun _ => Nat) 1 0 (Nat.beq x 0)) ≤ _; cases Nat.beq x 0 <;> simp
    | succ n => show n + 2 ≤ _; omega
noncomputable def lenN (xs : List Nat) : Nat := List.rec 0 (fun _ _ n => Nat.succ n) xs
theorem lenN_eq : ∀ l : List Nat, lenN l = l.length
  | [] => rfl
  | _ :: l => congrArg Nat.succ (lenN_eq l)
/-- A slice cut to n elements. -/
noncomputable def cutS (y : AV) (n : Nat) (k : KA) : OR := asS y (k y) (k y) fun id off _ cap sz => k (.sl id off n cap sz)
theorem cutS_spec {y : AV} {n m c : Nat} {A : Option Addr} {k : KA} (h : cutS y n k = some r) (hc : CR Γ y (.slice A m c)) (hn : n ≤ m) : ∃ av, k av = some r ∧ CR Γ av (.slice A n c) := by
  rcases asS_spec h with ⟨rfl, h⟩ | ⟨rfl, h⟩ | ⟨id, off, len, cap, sz, rfl, h⟩
  · obtain ⟨e, _⟩ := hc.inv_v
    injection e with e1 e2 e3
    obtain rfl : n = m := by omega
    exact ⟨_, h, hc⟩
  · obtain ⟨a, c', e⟩ := hc.inv_se
    injection e with e1 e2 e3
    obtain rfl : n = m := by omega
    exact ⟨_, h, hc⟩
  · obtain ⟨p, s, c', hp, e, h1, h2, h3⟩ := hc.inv_sl
    injection e with e1 e2 e3
    subst e1 e2 e3
    exact ⟨_, h, .sl hp (by omega) h2 h3⟩
/-- integer.trim -/
noncomputable def trimK (m : Nat) : List AV → St → KS → OR := fun args st k => one1 args fun y => wordsK m y st fun xs => cutS y (tlenK xs) fun v => k v st
theorem trimK_ok {f : FuncId} {m : Nat} (hU : ∀ (w : World) (A : Option Addr) (c : Nat) (xs : List Nat), SlW w (.slice A xs.length c) xs → xs.length ≤ m → Calls P f #[.slice A xs.length c] w fun e w' => e = .returned (.slice A (tlenK xs) c) ∧ Below w.heap.size w w') : CallOK P f (trimK m) := fun {args st k r Γ w vs} h hs hc => by
  obtain ⟨y, rfl, h0⟩ := one1_spec h
  obtain ⟨v, rfl, hv⟩ := hc.inv1
  obtain ⟨xs, h1, h2, h3⟩ := wordsK_spec h0 hs hv
  have h2' := h2
  obtain ⟨A, c, rfl, _⟩ := h2'
  obtain ⟨av, h4, h5⟩ := cutS_spec h1 hv (tlenK_le xs)
  intro R hR
  refine Calls.mono (hU w A c xs h2 h3) ?_
  rintro e w' ⟨rfl, hx⟩
  exact hR _ _ _ w' Γ h4 (Grow.ext hs hx) h5
noncomputable def zI : AV := .agg [.b false, .v (.slice none 0 0)]
theorem zI_ok : CR Γ zI (.agg #[.bool false, .slice none 0 0]) := .agg (.cons (.b _) (.cons (.v ⟨fun _ => by simp, fun _ => by simp⟩) .nil))
/-- integer.signed -/
noncomputable def signedK (m : Nat) : List AV → St → KS → OR := fun args st k => two2 args fun s y => asB s fun s => wordsK m y st fun xs => ifK (Nat.beq (tlenK xs) 0) (k zI st) (cutS y (tlenK xs) fun v => k (.agg [.b s, v]) st)
def sgnV (s : Bool) (A : Option Addr) (n c : Nat) : Value := if n = 0 then .agg #[.bool false, .slice none 0 0] else .agg #[.bool s, .slice A n c]
theorem signedK_ok {f : FuncId} {m : Nat} (hU : ∀ (w : World) (s : Bool) (A : Option Addr) (c : Nat) (xs : List Nat), SlW w (.slice A xs.length c) xs → xs.length ≤ m → Calls P f #[.bool s, .slice A xs.length c] w fun e w' => e = .returned (sgnV s A (tlenK xs) c) ∧ Below w.heap.size w w') : CallOK P f (signedK m) := fun {args st k r Γ w vs} h hs hc => by
  obtain ⟨s, y, rfl, h0⟩ := two2_spec h
  obtain ⟨vs, v, rfl, hs', hv⟩ := hc.inv2
  obtain ⟨s, rfl, h00⟩ := asB_spec h0
  rw [hs'.inv_b]
  obtain ⟨xs, h1, h2, h3⟩ := wordsK_spec h00 hs hv
  have h2' := h2
  obtain ⟨A, c, rfl, _⟩ := h2'
  intro R hR
  refine Calls.mono (hU w s A c xs h2 h3) ?_
  rintro e w' ⟨rfl, hx⟩
  cases hb : Nat.beq (tlenK xs) 0 with
  | true =>
    rw [hb] at h1
    have e0 := Nat.eq_of_beq_eq_true hb
    exact hR _ _ _ w' Γ h1 (Grow.ext hs hx) (by rw [sgnV, if_pos e0]; exact zI_ok)
  | false =>
    rw [hb] at h1
    have e0 := Nat.ne_of_beq_eq_false hb
    have h1' : cutS y (tlenK xs) (fun v => k (.agg [.b s, v]) st) = some r := h1
    obtain ⟨av, h4, h5⟩ := cutS_spec h1' hv (tlenK_le xs)
    exact hR _ _ _ w' Γ h4 (Grow.ext hs hx) (by rw [sgnV, if_neg e0]; exact .agg (.cons (.b _) (.cons h5 .nil)))
-- truths and numbers about an integer
noncomputable def agg2K (a : AV) (k : Bool → AV → OR) : OR := asG a fun cs => two2 cs fun s y => asB s fun s => k s y
theorem agg2K_spec {a : AV} {k : Bool → AV → OR} (h : agg2K a k = some r) : ∃ s y, a = .agg [.b s, y] ∧ k s y = some r := by
  obtain ⟨cs, rfl, h⟩ := asG_spec h
  obtain ⟨s, y, rfl, h⟩ := two2_spec h
  obtain ⟨s, rfl, h2⟩ := asB_spec h
  exact ⟨s, y, rfl, h2⟩
theorem agg2_inv {s : Bool} {y : AV} {v : Value} (h : CR Γ (.agg [.b s, y]) v) : ∃ u, v = .agg #[.bool s, u] ∧ CR Γ y u := by
  obtain ⟨vs, rfl, hcs⟩ := h.inv_agg
  obtain ⟨a, b, rfl, h1, h2⟩ := hcs.inv2
  exact ⟨b, by rw [h1.inv_b], h2⟩
/-- A number or a truth that is read off an integer. -/
noncomputable def ofIntK (m : Nat) (g : Bool → List Nat → AV) : List AV → St → KS → OR := fun args st k => one1 args fun a => agg2K a fun s y => wordsK m y st fun xs => k (g s xs) st
theorem ofIntK_ok {f : FuncId} {m : Nat} {g : Bool → List Nat → AV} (gv : Bool → List Nat → Value) (hg : ∀ s xs Γ, CR Γ (g s xs) (gv s xs))
    (hU : ∀ (w : World) (s : Bool) (v : Value) (xs : List Nat), SlW w v xs → xs.length ≤ m → Calls P f #[.agg #[.bool s, v]] w fun e w' => e = .returned (gv s xs) ∧ Below w.heap.size w w') : CallOK P f (ofIntK m g) := fun {args st k r Γ w vs} h hs hc => by
  obtain ⟨a, rfl, h0⟩ := one1_spec h
  obtain ⟨v, rfl, hv⟩ := hc.inv1
  obtain ⟨s, y, rfl, h00⟩ := agg2K_spec h0
  obtain ⟨u, rfl, hu⟩ := agg2_inv hv
  obtain ⟨xs, h1, h2, h3⟩ := wordsK_spec h00 hs hu
  intro R hR
  refine Calls.mono (hU w s u xs h2 h3) ?_
  rintro e w' ⟨rfl, hx⟩
  exact hR _ _ _ w' Γ h1 (Grow.ext hs hx) (hg s xs Γ)
noncomputable def validB (s : Bool) (xs : List Nat) : Bool := Bool.rec false (Bool.rec true (bnot (Nat.beq (lenN xs) 0)) s) (Nat.beq (tlenK xs) (lenN xs))
noncomputable def signA (s : Bool) (xs : List Nat) : AV := Bool.rec (Bool.rec (.i .i64 1) (.m .i64 0) s) (.i .i64 0) (Nat.beq (tlenK xs) 0)
def signZ (s : Bool) (n : Nat) : Int := if n = 0 then 0 else if s then -1 else 1
theorem signA_ok (s : Bool) (xs : List Nat) (Γ : Map) : CR Γ (signA s xs) (.int .i64 (signZ s (tlenK xs))) := by
  unfold signA signZ
  cases hb : Nat.beq (tlenK xs) 0 with
  | true => rw [if_pos (Nat.eq_of_beq_eq_true hb)]; exact .i _ _
  | false =>
    rw [if_neg (Nat.ne_of_beq_eq_false hb)]
    cases s
    · exact .i _ _
    · exact .m _ _
noncomputable def oneB (s : Bool) (xs : List Nat) : Bool := Bool.rec (List.rec false (fun x l _ => List.rec (Nat.beq x 1) (fun _ _ _ => false) l) xs) false s
-- new words
noncomputable def uLen (n : Nat) : Nat := Bool.rec (Bool.rec 2 1 (Nat.ble n 4294967295)) 0 (Nat.beq n 0)
theorem uLen_le (n : Nat) : uLen n ≤ 2 := by
  unfold uLen
  cases Nat.beq n 0
  · cases Nat.ble n 4294967295 <;> simp
  · simp
/-- Two words of a block of one's own. -/
def OwnU (w w' : World) (n : Nat) (v : Value) : Prop := ∃ g el, w.heap.size ≤ g ∧ w'.heap[g]? = some (.cells #[.int .u32 ((n % 4294967296 : Nat) : Int), .int .u32 ((n / 4294967296 : Nat) : Int)] el (0, 0)) ∧ v = .slice (some ⟨g, 0, none⟩) (uLen n) 2
noncomputable def newW (n : Nat) (st : St) (k : KS) : OR := k (.sl st.nxt 0 (uLen n) (some 2) 1) (st.new ⟨[.i .u32 (Nat.mod n 4294967296), .i .u32 (Nat.div n 4294967296)], true⟩)
theorem newW_spec {n : Nat} {st : St} {k : KS} (h : newW n st k = some r) {w w' : World} (hs : Sim st Γ w) (hx : Below w.heap.size w w') {v : Value} (ho : OwnU w w' n v) : ∃ av st' Γ', k av st' = some r ∧ Grow st Γ w st' Γ' w' ∧ CR Γ' av v := by
  obtain ⟨g, el, hg, hb, rfl⟩ := ho
  refine ⟨_, _, _, h, Grow.own hs hx hg hb (.cons (.i _ _) (.cons (.i _ _) .nil)) (Nat.le_refl 2) (fun _ => rfl), .sl (Map.add_self _ _ _ _) (uLen_le n) (fun k e => by injection e) (Nat.le_refl 2)⟩
/-- integer.fromUint -/
noncomputable def fromUintK : List AV → St → KS → OR := fun args st k => one1 args fun a => asK .u64 a fun n => ifK (Nat.ble n 18446744073709551615) (newW n st k) none
theorem fromUintK_ok {f : FuncId} (hU : ∀ (w : World) (n : Nat), n < 18446744073709551616 → Calls P f #[.int .u64 (n : Int)] w fun e w' => Below w.heap.size w w' ∧ ∃ v, e = .returned v ∧ OwnU w w' n v) : CallOK P f fromUintK := fun {args st k r Γ w vs} h hs hc => by
  obtain ⟨a, rfl, h0⟩ := one1_spec h
  obtain ⟨v, rfl, hv⟩ := hc.inv1
  obtain ⟨n, rfl, h0⟩ := asK_spec h0
  rw [hv.inv_i]
  obtain ⟨g1, h0⟩ := ifK_yes h0
  intro R hR
  refine Calls.mono (hU w n (Nat.lt_succ_of_le (Nat.le_of_ble_eq_true g1))) ?_
  rintro e w' ⟨hx, v, rfl, ho⟩
  obtain ⟨av, st', Γ', h1, h2, h3⟩ := newW_spec h0 hs hx ho
  exact hR _ _ _ w' Γ' h1 h2 h3
/-- An integer of at most two words. -/
def OwnI (w w' : World) (s : Bool) (n : Nat) (v : Value) : Prop := if n = 0 then v = .agg #[.bool false, .slice none 0 0] else ∃ u, v = .agg #[.bool s, u] ∧ OwnU w w' n u
noncomputable def sgW (s : Bool) (n : Nat) (st : St) (k : KS) : OR := Bool.rec (newW n st fun v st => k (.agg [.b s, v]) st) (k zI st) (Nat.beq n 0)
theorem sgW_spec {s : Bool} {n : Nat} {st : St} {k : KS} (h : sgW s n st k = some r) {w w' : World} (hs : Sim st Γ w) (hx : Below w.heap.size w w') {v : Value} (ho : OwnI w w' s n v) : ∃ av st' Γ', k av st' = some r ∧ Grow st Γ w st' Γ' w' ∧ CR Γ' av v := by
  unfold sgW at h
  unfold OwnI at ho
  cases hb : Nat.beq n 0 with
  | true =>
    rw [hb] at h
    rw [if_pos (Nat.eq_of_beq_eq_true hb)] at ho
    subst ho
    exact ⟨_, _, Γ, h, Grow.ext hs hx, zI_ok⟩
  | false =>
    rw [hb] at h
    rw [if_neg (Nat.ne_of_beq_eq_false hb)] at ho
    obtain ⟨u, rfl, ho⟩ := ho
    obtain ⟨av, st', Γ', h1, h2, h3⟩ := newW_spec (h : newW n st (fun v st => k (.agg [.b s, v]) st) = some r) hs hx ho
    exact ⟨_, _, Γ', h1, h2, .agg (.cons (.b _) (.cons h3 .nil))⟩
/-- integer.GCD of at most two words -/
noncomputable def gcdK : List AV → St → KS → OR := fun args st k => two2 args fun a b => agg2K a fun _ y => agg2K b fun _ z => wordsK 2 y st fun xs => wordsK 2 z st fun ys => ifK (Nat.beq (valN ys) 0) none (sgW false (Nat.gcd (valN xs) (valN ys)) st k)
theorem gcdK_ok {f : FuncId} (hU : ∀ (w : World) (s t : Bool) (v v' : Value) (xs ys : List Nat), SlW w v xs → SlW w v' ys → xs.length ≤ 2 → ys.length ≤ 2 → 0 < valN ys → Calls P f #[.agg #[.bool s, v], .agg #[.bool t, v']] w fun e w' => Below w.heap.size w w' ∧ ∃ v, e = .returned v ∧ OwnI w w' false (Nat.gcd (valN xs) (valN ys)) v) : CallOK P f gcdK := fun {args st k r Γ w vs} h hs hc => by
  obtain ⟨a, b, rfl, h0⟩ := two2_spec h
  obtain ⟨va, vb, rfl, hva, hvb⟩ := hc.inv2
  obtain ⟨s, y, rfl, h00⟩ := agg2K_spec h0
  obtain ⟨t, z, rfl, h01⟩ := agg2K_spec h00
  obtain ⟨u, rfl, hu⟩ := agg2_inv hva
  obtain ⟨u', rfl, hu'⟩ := agg2_inv hvb
  obtain ⟨xs, h1, h2, h3⟩ := wordsK_spec h01 hs hu
  obtain ⟨ys, h4, h5, h6⟩ := wordsK_spec h1 hs hu'
  cases hb : Nat.beq (valN ys) 0 with
  | true => rw [hb] at h4; cases h4
  | false =>
    rw [hb] at h4
    have e0 := Nat.ne_of_beq_eq_false hb
    intro R hR
    refine Calls.mono (hU w s t u u' xs ys h2 h5 h3 h6 (by omega)) ?_
    rintro e w' ⟨hx, v, rfl, ho⟩
    obtain ⟨av, st', Γ', g1, g2, g3⟩ := sgW_spec h4 hs hx ho
    exact hR _ _ _ w' Γ' g1 g2 g3
end Go.Proofs.YtceobmnljdhkmaaGreatDoor.Ev
/- the evaluator with its closed parts in boxes (the kernel keeps what it has found in a box) -/
namespace Go.Proofs.YtceobmnljdhkmaaGreatDoor.Ev
open Go
structure Wr (α : Type) where
  f : α
noncomputable def valW : Option AV → Wr OpdS := Option.rec ⟨fun _ _ _ => none⟩ (fun a => ⟨fun _ _ k => k a⟩)
theorem valW_f (o : Option AV) : (valW o).f = valK o := by cases o <;> rfl
noncomputable def opdW : Operand → Wr OpdS := Operand.rec (fun t => ⟨fun L V k => L.lget V t k⟩) (fun v => valW (ofValue v)) (fun g => valW (Bool.rec none (some (.ptr (gid g) 0)) (Nat.ble (Nat.succ g) G0))) (fun f => ⟨fun _ _ k => k (.fn (.func f) [] [])⟩)
theorem opdW_f (x : Operand) : (opdW x).f = opd x := by
  cases x with
  | tmp t => rfl
  | const v => exact valW_f _
  | global g => exact valW_f _
  | func f => rfl
noncomputable def opdLW : List Operand → Wr (Env → Env → (List AV → OR) → OR) := List.rec ⟨fun _ _ k => k []⟩ (fun x _ ih => ⟨fun L V k => (opdW x).f L V fun a => ih.f L V fun r => k (a :: r)⟩)
theorem opdLW_f (l : List Operand) : (opdLW l).f = opdL l := by
  induction l with
  | nil => rfl
  | cons x l ih =>
    show (fun (L V : Env) (k : List AV → OR) => (opdW x).f L V fun a => (opdLW l).f L V fun r => k (a :: r)) = (fun (L V : Env) (k : List AV → OR) => opd x L V fun a => opdL l L V fun r => k (a :: r))
    rw [opdW_f, ih]
section
variable (P : Program) (pr : Prims)
abbrev WO := Wr (IH → OpS)
noncomputable def noW : WO := ⟨noK⟩
noncomputable def oW {α : Type} (f : α → WO) : Option α → WO := Option.rec noW f
noncomputable def bW (f : WO) : Bool → WO := Bool.rec noW f
theorem oW_f {α : Type} {f : α → WO} {g : α → OpS} (h : ∀ x, (f x).f = pu (g x)) (o : Option α) : (oW f o).f = pu (oR g o) := by
  cases o with
  | none => rfl
  | some x => exact h x
theorem bW_f {f : WO} {g : OpS} (h : f.f = pu g) (b : Bool) : (bW f b).f = pu (bR g b) := by
  cases b with
  | false => rfl
  | true => exact h
noncomputable def rdW (t : TypeId) : Wr (Nat → List AV → KA → OR) := Bool.rec ⟨nthC⟩ ⟨fun off cells k => cutC (szOf P t) off cells fun cs => k (.agg cs)⟩ (isAggB P t)
theorem rdW_f (t : TypeId) : (rdW P t).f = rdK P t := by unfold rdW rdK; cases isAggB P t <;> rfl
noncomputable def fillW (place : Nat → Option (Nat × Nat)) : List (Nat × Operand) → Wr (Env → Env → List AV → (List AV → OR) → OR) :=
  List.rec ⟨fun _ _ cs k => k cs⟩ (fun p _ ih => Option.rec ⟨fun _ _ _ _ => none⟩ (fun q => ⟨fun L V cs k => (opdW p.2).f L V fun a => ifK (Nat.beq (lenL a.cells) q.2) (putC a.cells q.1 cs fun cs => ih.f L V cs k) none⟩) (place p.1))
theorem fillW_f (place : Nat → Option (Nat × Nat)) (l : List (Nat × Operand)) : (fillW place l).f = fillK place l := by
  induction l with
  | nil => rfl
  | cons p l ih =>
    show (Option.rec (motive := fun _ => Wr (Env → Env → List AV → (List AV → OR) → OR)) ⟨fun _ _ _ _ => none⟩ (fun q => ⟨fun L V cs k => (opdW p.2).f L V fun a => ifK (Nat.beq (lenL a.cells) q.2) (putC a.cells q.1 cs fun cs => (fillW place l).f L V cs k) none⟩) (place p.1)).f
      = (fun L V cs k => Option.rec none (fun q => opd p.2 L V fun a => ifK (Nat.beq (lenL a.cells) q.2) (putC a.cells q.1 cs fun cs => fillK place l L V cs k) none) (place p.1))
    rw [opdW_f, ih]
    cases place p.1 <;> rfl
noncomputable def iOpW : BinOp → Wr IOp := BinOp.rec ⟨addK⟩ ⟨subK⟩ ⟨mulK⟩ ⟨qrK Nat.div⟩ ⟨qrK Nat.mod⟩ ⟨nnK Nat.land⟩ ⟨nnK Nat.lor⟩ ⟨nnK Nat.xor⟩ ⟨shlK⟩ ⟨shrK⟩ ⟨nnK fun a b => Nat.xor a (Nat.land a b)⟩
    ⟨cmpK Nat.beq Nat.beq false false⟩ ⟨cmpK (fun a b => bnot (Nat.beq a b)) (fun a b => bnot (Nat.beq a b)) true true⟩ ⟨cmpK (fun a b => bnot (Nat.ble b a)) (fun a b => bnot (Nat.ble a b)) false true⟩ ⟨cmpK Nat.ble (fun a b => Nat.ble b a) false true⟩ ⟨cmpK (fun a b => bnot (Nat.ble a b)) (fun a b => bnot (Nat.ble b a)) true false⟩ ⟨cmpK (fun a b => Nat.ble b a) Nat.ble true false⟩
theorem iOpW_f (op : BinOp) : (iOpW op).f = iOp op := by cases op <;> rfl
noncomputable def nilW (op : BinOp) : EqT → Wr (AV → AV → KA → OR) := EqT.rec ⟨fun _ _ _ => none⟩ ⟨nilCmp isNP op⟩ ⟨nilCmp isNS op⟩ ⟨nilCmp isNF op⟩ ⟨fun _ _ _ => none⟩
theorem nilW_f (op : BinOp) (t : EqT) : (nilW op t).f = nilK' op t := by cases t <;> rfl
noncomputable def binW (op : BinOp) (t : EqT) : Wr (AV → AV → KA → OR) := ⟨AV.rec (motive_1 := fun _ => AV → KA → OR) (motive_2 := fun _ => Unit) (fun a => boolK op t a) (fun ki a => (iOpW op).f ki (.i ki a)) (fun ki a => (iOpW op).f ki (.m ki a)) (fun x => vK op t x) (fun _ _ => none) ((nilW op t).f .se) (fun i o => (nilW op t).f (.ptr i o)) (fun a b c d e => (nilW op t).f (.sl a b c d e)) (fun a b c _ _ => (nilW op t).f (.fn a b c)) (fun _ _ _ _ => none) (fun _ _ _ _ => none) () (fun _ _ _ _ => ())⟩
theorem binW_f (op : BinOp) (t : EqT) : (binW op t).f = binK op t := by unfold binW; rw [iOpW_f, nilW_f]; rfl
noncomputable def lenW (t : TypeId) : Wr (AV → KA → OR) := Option.rec ⟨fun y k => match y with | .v (.string s) => ifK (isStr P t) (k (.i .i64 s.size)) none | _ => none⟩ (fun _ => ⟨fun y k => asS y (k (.i .i64 0)) (k (.i .i64 0)) fun _ _ len _ _ => k (.i .i64 len)⟩) (elemT P t)
theorem lenW_f (t : TypeId) : (lenW P t).f = lenS P t := by unfold lenW lenS; cases elemT P t <;> rfl
noncomputable def appW (t : TypeId) : Wr (AV → AV → St → KS → OR) := Option.rec ⟨fun _ _ _ _ => none⟩ (fun e => Bool.rec ⟨fun _ _ _ _ => none⟩ ⟨appK2 (szOf P e)⟩ (cellT P e)) (elemT P t)
theorem appW_f (t : TypeId) : (appW P t).f = appK P t := by
  unfold appW appK
  cases elemT P t with
  | none => rfl
  | some e =>
    show (Bool.rec (motive := fun _ => Wr (AV → AV → St → KS → OR)) ⟨fun _ _ _ _ => none⟩ ⟨appK2 (szOf P e)⟩ (cellT P e)).f = Bool.rec (motive := fun _ => AV → AV → St → KS → OR) (fun _ _ _ _ => none) (appK2 (szOf P e)) (cellT P e)
    cases cellT P e <;> rfl
noncomputable def appTW : List TypeId → Wr (AV → AV → St → KS → OR) := List.rec ⟨fun _ _ _ _ => none⟩ (fun t l _ => List.rec ⟨fun _ _ _ _ => none⟩ (fun u l _ => List.rec (Option.rec (Bool.rec ⟨fun _ _ _ _ => none⟩ ⟨zapK P t⟩ (isIntT P u)) (fun _ => appW P t) (elemT P u)) (fun _ _ _ => ⟨fun _ _ _ _ => none⟩) l) l)
theorem appTW_f (l : List TypeId) : (appTW P l).f = appT P l := by
  cases l with
  | nil => rfl
  | cons t l => cases l with
    | nil => rfl
    | cons u l => cases l with
      | cons _ _ => rfl
      | nil =>
        show (Option.rec (motive := fun _ => Wr (AV → AV → St → KS → OR)) (Bool.rec (motive := fun _ => Wr (AV → AV → St → KS → OR)) ⟨fun _ _ _ _ => none⟩ ⟨zapK P t⟩ (isIntT P u)) (fun _ => appW P t) (elemT P u)).f = Option.rec (motive := fun _ => AV → AV → St → KS → OR) (Bool.rec (motive := fun _ => AV → AV → St → KS → OR) (fun _ _ _ _ => none) (zapK P t) (isIntT P u)) (fun _ => appK P t) (elemT P u)
        cases elemT P u with
        | none => cases isIntT P u <;> rfl
        | some e => exact appW_f P t
noncomputable def noB : Wr (List AV → St → KS → OR) := ⟨fun _ _ _ => none⟩
noncomputable def bltW (b : Builtin) (tys : Array TypeId) : Wr (List AV → St → KS → OR) :=
  match b with
    | .len => Option.rec noB (fun t => ⟨fun (l : List AV) (st : St) (k : KS) => one1 l fun y => (lenW P t).f y fun v => k v st⟩) (tys[0]?)
    | .cap => ⟨bltK P .cap tys⟩
    | .clear => ⟨bltK P .clear tys⟩
    | .copy => ⟨bltK P .copy tys⟩
    | .append => ⟨fun l st k => two2 l fun s x => (appTW P tys.toList).f s x st k⟩
    | .max => ⟨fun l st k => mmK .geq l fun v => k v st⟩
    | .min => ⟨fun l st k => mmK .leq l fun v => k v st⟩
    | _ => noB
theorem bltW_f (b : Builtin) (tys : Array TypeId) : (bltW P b tys).f = bltK P b tys := by
  cases b with
  | len =>
    show (Option.rec (motive := fun _ => Wr (List AV → St → KS → OR)) noB (fun t => ⟨fun (l : List AV) (st : St) (k : KS) => one1 l fun y => (lenW P t).f y fun v => k v st⟩) (tys[0]?)).f = Option.rec (motive := fun _ => List AV → St → KS → OR) (fun _ _ _ => none) (fun t (l : List AV) (st : St) (k : KS) => one1 l fun y => lenS P t y fun v => k v st) (tys[0]?)
    cases tys[0]? with
    | none => rfl
    | some t =>
      show (fun (l : List AV) (st : St) (k : KS) => one1 l fun y => (lenW P t).f y fun v => k v st) = _
      rw [lenW_f]
  | append =>
    show (fun (l : List AV) (st : St) (k : KS) => two2 l fun s x => (appTW P tys.toList).f s x st k) = (fun (l : List AV) (st : St) (k : KS) => two2 l fun s x => appT P tys.toList s x st k)
    rw [appTW_f]
  | _ => rfl
-- operations
noncomputable def allocW (e : TypeId) : WO := oW (fun z => ⟨fun _ _ _ st k => newB z.cells st k⟩) (zeroA P e)
theorem allocW_f (e : TypeId) : (allocW P e).f = pu (allocK P e) := oW_f (fun _ => rfl) _
noncomputable def buildW (t : TypeId) (ps : Array (Nat × Operand)) : WO := bW (oW (fun z => ⟨fun _ L V st k => (fillW (fieldPl P t) ps.toList).f L V z.cells fun cs => k (.agg cs) st⟩) (zeroA P t)) (isStructB P t)
theorem buildW_f (t : TypeId) (ps : Array (Nat × Operand)) : (buildW P t ps).f = pu (buildK P t ps) := bW_f (oW_f (fun z => by rw [fillW_f]; rfl) _) _
noncomputable def bslW2 (len : Nat) (ps : Array (Nat × Operand)) (sz : Nat) (z : List AV) : WO := ⟨fun _ L V st k => (fillW (fun i => some (Nat.mul i sz, sz)) ps.toList).f L V z fun cs => k (.sl st.nxt 0 len (some len) sz) (st.new ⟨cs, true⟩)⟩
theorem bslW2_f (len : Nat) (ps : Array (Nat × Operand)) (sz : Nat) (z : List AV) : (bslW2 len ps sz z).f = pu (bslK2 len ps sz z) := by unfold bslW2; rw [fillW_f]; rfl
noncomputable def bslW (t : TypeId) (len : Nat) (ps : Array (Nat × Operand)) : WO := oW (fun e => bW (oW (fun z => bslW2 len ps (szOf P e) (repL len z.cells)) (zeroA P e)) (cellT P e && Nat.ble len 1000)) (elemT P t)
theorem bslW_f (t : TypeId) (len : Nat) (ps : Array (Nat × Operand)) : (bslW P t len ps).f = pu (bslK P t len ps) := oW_f (fun _ => bW_f (oW_f (fun _ => bslW2_f _ _ _ _) _) _) _
noncomputable def loadW (t : TypeId) (a : Operand) : WO := bW ⟨fun _ L V st k => (opdW a).f L V fun y => asP y fun id off => getK st id fun b => (rdW P t).f off b.cells fun v => k v st⟩ (known P t)
theorem loadW_f (t : TypeId) (a : Operand) : (loadW P t a).f = pu (loadK P t a) := bW_f (by rw [opdW_f, rdW_f]; rfl) _
noncomputable def storeW (t : TypeId) (a x : Operand) : WO := bW ⟨fun _ L V st k => (opdW a).f L V fun y => (opdW x).f L V fun v => asP y fun id off => getK st id fun b => ifK (Nat.beq (lenL v.cells) (szOf P t)) (ifK (onesB v.cells) (putC v.cells off b.cells fun cs => setB st id ⟨cs, b.exact⟩ fun st => k .u st) none) none⟩ (known P t)
theorem storeW_f (t : TypeId) (a x : Operand) : (storeW P t a x).f = pu (storeK P t a x) := bW_f (by
  rw [opdW_f, opdW_f]; rfl) _
noncomputable def binOpW (op : BinOp) (t : TypeId) (x y : Operand) : WO := ⟨fun _ L V st k => (opdW x).f L V fun a => (opdW y).f L V fun b => (binW op (eqT P t)).f a b fun v => k v st⟩
theorem binOpW_f (op : BinOp) (t : TypeId) (x y : Operand) : (binOpW P op t x y).f = pu (binOpK P op t x y) := by unfold binOpW; rw [opdW_f, opdW_f, binW_f]; rfl
noncomputable def convW (s d : TypeId) (x : Operand) : WO := oW (fun ki => ⟨fun _ L V st k => (opdW x).f L V fun a => asZ a (fun n => k (wrapN ki n) st) (fun n => k (wrapM ki n) st)⟩) (intT P s d)
theorem convW_f (s d : TypeId) (x : Operand) : (convW P s d x).f = pu (convK P s d x) := oW_f (fun ki => by rw [opdW_f]; rfl) _
noncomputable def sliceW (t : TypeId) (x : Operand) (lo hi mx : Option Operand) : WO := oW (fun e => bW ⟨fun _ L V st k => (opdW x).f L V fun a => asS a (zeroOpt lo L V (zeroOpt hi L V (zeroOpt mx L V (k a st)))) none fun id off len cap sz =>
  ifK (Nat.beq sz (szOf P e)) (slK5 lo hi mx L V id off len cap sz fun v => k v st) none⟩ (known P e && maxOK hi mx)) (elemT P t)
theorem sliceW_f (t : TypeId) (x : Operand) (lo hi mx : Option Operand) : (sliceW P t x lo hi mx).f = pu (sliceK P t x lo hi mx) := oW_f (fun e => bW_f (by
  rw [opdW_f]; rfl) _) _
noncomputable def fadW (s : TypeId) (x : Operand) (f : Nat) : WO := oW (fun fo => bW ⟨fun _ L V st k => (opdW x).f L V fun y => asP y fun id off => k (.ptr id (Nat.add off fo.1)) st⟩ (cellT P fo.2)) (fieldOf P s f)
theorem fadW_f (s : TypeId) (x : Operand) (f : Nat) : (fadW P s x f).f = pu (fadK P s x f) := oW_f (fun fo => bW_f (by rw [opdW_f]; rfl) _) _
noncomputable def fldW (t : TypeId) (x : Operand) (f : Nat) : WO := oW (fun fo => bW ⟨fun _ L V st k => (opdW x).f L V fun y => asG y fun cs => (rdW P fo.2).f fo.1 cs fun v => k v st⟩ (known P fo.2)) (fieldOf P t f)
theorem fldW_f (t : TypeId) (x : Operand) (f : Nat) : (fldW P t x f).f = pu (fldK P t x f) := oW_f (fun fo => bW_f (by rw [opdW_f, rdW_f]; rfl) _) _
noncomputable def iadW (t : TypeId) (x ix : Operand) : WO := Option.rec (oW (fun a => bW ⟨fun _ L V st k => (opdW x).f L V fun y => (opdW ix).f L V fun n => asN n fun n => asP y fun id off => iadK2 (szOf P a.2) id off a.1 n st k⟩ (known P a.2)) (arrT P t)) (fun e => bW ⟨fun _ L V st k => (opdW x).f L V fun y => (opdW ix).f L V fun n => asN n fun n => asS y none none fun id off len _ _ => iadK2 (szOf P e) id off len n st k⟩ (known P e)) (elemT P t)
theorem iadW_f (t : TypeId) (x ix : Operand) : (iadW P t x ix).f = pu (iadK P t x ix) := by
  have h1 : (oW (fun a => bW ⟨fun _ L V st k => (opdW x).f L V fun y => (opdW ix).f L V fun n => asN n fun n => asP y fun id off => iadK2 (szOf P a.2) id off a.1 n st k⟩ (known P a.2)) (arrT P t)).f = pu (oR (fun a => bR (iadA x ix a.1 (szOf P a.2)) (known P a.2)) (arrT P t)) :=
    oW_f (fun a => bW_f (by rw [opdW_f, opdW_f]; rfl) _) _
  have h2 : ∀ e, (bW ⟨fun _ L V st k => (opdW x).f L V fun y => (opdW ix).f L V fun n => asN n fun n => asS y none none fun id off len _ _ => iadK2 (szOf P e) id off len n st k⟩ (known P e)).f = pu (bR (iadS x ix (szOf P e)) (known P e)) :=
    fun e => bW_f (by rw [opdW_f, opdW_f]; rfl) _
  unfold iadW iadK
  cases elemT P t with
  | none => exact h1
  | some e => exact h2 e
noncomputable def idxW (t : TypeId) (x ix : Operand) : WO := bW ⟨pu (idxK P t x ix)⟩ (isStr P t)
theorem idxW_f (t : TypeId) (x ix : Operand) : (idxW P t x ix).f = pu (idxK P t x ix) := by
  unfold idxW
  cases h : isStr P t with
  | true => rfl
  | false => unfold idxK; rw [h]; rfl
noncomputable def moveW (x : Operand) : WO := ⟨fun _ L V st k => (opdW x).f L V fun a => k a st⟩
theorem moveW_f (x : Operand) : (moveW x).f = pu (moveK x) := by unfold moveW; rw [opdW_f]; rfl
noncomputable def boxW (x : Operand) : WO := ⟨fun _ L V st k => (opdW x).f L V fun a => newB a.cells st k⟩
theorem boxW_f (x : Operand) : (boxW x).f = pu (boxK x) := by unfold boxW; rw [opdW_f]; rfl
noncomputable def nilCW (x : Operand) : WO := ⟨fun _ L V st k => (opdW x).f L V fun y => okNil y (k y st)⟩
theorem nilCW_f (x : Operand) : (nilCW x).f = pu (nilK x) := by unfold nilCW; rw [opdW_f]; rfl
noncomputable def unOpW (op : UnOp) (x : Operand) : WO := ⟨fun _ L V st k => (opdW x).f L V fun a => unK op a fun v => k v st⟩
theorem unOpW_f (op : UnOp) (x : Operand) : (unOpW op x).f = pu (unOpK op x) := by unfold unOpW; rw [opdW_f]; rfl
noncomputable def mfW (f : Fn) (a b : Array Operand) : WO := ⟨fun _ L V st k => (opdLW a.toList).f L V fun a => (opdLW b.toList).f L V fun b => k (.fn f a b) st⟩
theorem mfW_f (f : Fn) (a b : Array Operand) : (mfW f a b).f = pu (mfK f a b) := by unfold mfW; rw [opdLW_f, opdLW_f]; rfl
noncomputable def extW (x : Operand) (i : Nat) : WO := ⟨fun _ L V st k => (opdW x).f L V fun y => asT y fun vs => nthC i vs fun v => k v st⟩
theorem extW_f (x : Operand) (i : Nat) : (extW x i).f = pu (extK x i) := by unfold extW; rw [opdW_f]; rfl
-- calls
noncomputable def resW1 : ResultVar → Wr (Env → St → KA → OR) := ResultVar.rec (fun t => ⟨fun V _ k => V.vget t k⟩) (fun a t => Bool.rec ⟨fun _ _ _ => none⟩ ⟨fun V st k => V.vget a fun y => asP y fun id off => getK st id fun b => (rdW P t).f off b.cells k⟩ (known P t))
theorem resW1_f (x : ResultVar) : (resW1 P x).f = res1 P x := by
  cases x with
  | tmp t => rfl
  | cell a t =>
    show (Bool.rec (motive := fun _ => Wr (Env → St → KA → OR)) ⟨fun _ _ _ => none⟩ ⟨fun V st k => V.vget a fun y => asP y fun id off => getK st id fun b => (rdW P t).f off b.cells k⟩ (known P t)).f = Bool.rec (motive := fun _ => Env → St → KA → OR) (fun _ _ _ => none) (fun V st k => V.vget a fun y => resV P t st y k) (known P t)
    rw [rdW_f]
    cases known P t <;> rfl
noncomputable def resLW : List ResultVar → Wr (Env → St → (List AV → OR) → OR) := List.rec ⟨fun _ _ k => k []⟩ (fun x _ ih => ⟨fun V st k => (resW1 P x).f V st fun a => ih.f V st fun l => k (a :: l)⟩)
theorem resLW_f (l : List ResultVar) : (resLW P l).f = resL P l := by
  induction l with
  | nil => rfl
  | cons x l ih =>
    show (fun (V : Env) (st : St) (k : List AV → OR) => (resW1 P x).f V st fun a => (resLW P l).f V st fun l => k (a :: l)) = (fun (V : Env) (st : St) (k : List AV → OR) => res1 P x V st fun a => resL P l V st fun l => k (a :: l))
    rw [resW1_f, ih]
noncomputable def outW (rs : List ResultVar) (k : KS) : Out → Env → St → OR := Out.rec (fun V st => (resLW P rs).f V st fun l => k (tup1 l) st) (fun _ _ _ => none) (fun V st => (resLW P rs).f V st fun l => k (tup1 l) st)
theorem outW_f (rs : List ResultVar) : outW P rs = outK P rs := by unfold outW outK; rw [resLW_f]
noncomputable def noF : Wr (IH → List AV → St → KS → OR) := ⟨fun _ _ _ _ => none⟩
noncomputable def runW (U : FI) (c : Code) (rs : List ResultVar) : Wr (IH → List AV → St → KS → OR) := ⟨fun ih args st k => ifK (Nat.ble (lenL args) 16) (ifK (Nat.ble (lenL args) U.2) (ih U c (initE args 0) st (outW P rs k)) none) none⟩
theorem runW_f (U : FI) (c : Code) (rs : List ResultVar) : (runW P U c rs).f = runK P U c rs := by unfold runW; rw [outW_f]; rfl
noncomputable def fnW : Option Func → Wr (IH → List AV → St → KS → OR) := Option.rec noF (fun fn => Option.rec noF (fun c => runW P (liveF fn c, fn.ntmps) c fn.results.toList) fn.body)
theorem fnW_f (o : Option Func) : (fnW P o).f = fnK P o := by
  cases o with
  | none => rfl
  | some fn =>
    show (Option.rec (motive := fun _ => Wr (IH → List AV → St → KS → OR)) noF (fun c => runW P (liveF fn c, fn.ntmps) c fn.results.toList) fn.body).f = Option.rec (motive := fun _ => IH → List AV → St → KS → OR) (fun _ _ _ _ => none) (fun c => runK P (liveF fn c, fn.ntmps) c fn.results.toList) fn.body
    cases fn.body with
    | none => rfl
    | some c => exact runW_f _ _ _ _
noncomputable def callW (f : Nat) : Wr (IH → List AV → St → KS → OR) := Option.rec (fnW P (P.funcs[f]?)) (fun p => ⟨fun _ => p⟩) (pr f)
theorem callW_f (f : Nat) : (callW P pr f).f = callK P pr f := by
  unfold callW callK
  cases pr f with
  | none => exact fnW_f _ _
  | some p => rfl
noncomputable def callVW (args : Array Operand) (g : Operand) : WO := ⟨fun ih L V st k => (opdW g).f L V fun g => (opdLW args.toList).f L V fun aa => asF g fun f first cap => (callW P pr f).f ih (appL (appL first aa) cap) st k⟩
theorem callVW_f (args : Array Operand) (g : Operand) : (callVW P pr args g).f = callV P pr args g := by
  unfold callVW
  rw [opdW_f, opdLW_f]
  have : (fun f => (callW P pr f).f) = callK P pr := funext (callW_f P pr)
  show (fun (ih : IH) (L V : Env) (st : St) (k : KS) => opd g L V fun g => opdL args.toList L V fun aa => asF g fun f first cap => (fun f => (callW P pr f).f) f ih (appL (appL first aa) cap) st k) = _
  rw [this]; rfl
noncomputable def bltVW (b : Builtin) (args : Array Operand) (tys : Array TypeId) : WO := ⟨fun _ L V st k => (opdLW args.toList).f L V fun l => (bltW P b tys).f l st k⟩
theorem bltVW_f (b : Builtin) (args : Array Operand) (tys : Array TypeId) : (bltVW P b args tys).f = pu (bltV P b args tys) := by unfold bltVW; rw [opdLW_f, bltW_f]; rfl
noncomputable def clW (c : Call) : WO := Callee.rec (fun g => callVW P pr c.args g) (fun _ _ => ⟨fun _ _ _ _ _ => none⟩) (fun b => bltVW P b c.args c.argTypes) c.callee
theorem clW_f (c : Call) : (clW P pr c).f = clK P pr c := by
  unfold clW clK
  cases c.callee with
  | value g => exact callVW_f _ _ _ _
  | builtin b => exact bltVW_f _ _ _ _
  | _ => rfl
noncomputable def opW : Op → WO :=
  Op.rec (fun x => moveW x) (fun x => moveW x) (fun c a b => ⟨pu (pickK c a b)⟩) (fun e => allocW P e) (fun _ x => boxW x) (fun t ps => buildW P t ps) (fun t n ps => bslW P t n ps)
    (fun _ _ _ _ => noW) (fun t a => loadW P t a) (fun t a x => storeW P t a x) (fun _ => noW) (fun _ => noW) (fun x => nilCW x) (fun op t x y _ => binOpW P op t x y) (fun op _ x => unOpW op x) (fun s d x => convW P s d x)
    (fun _ _ => noW) (fun _ _ => noW) (fun f a b => mfW f a b) (fun _ _ => noW) (fun _ _ => noW) (fun t l c => ⟨pu (mksK P t l c)⟩) (fun t x lo hi mx => sliceW P t x lo hi mx) (fun s x f => fadW P s x f) (fun t x f => fldW P t x f) (fun t x ix => iadW P t x ix) (fun t x ix => idxW P t x ix)
    (fun _ _ _ _ => noW) (fun _ _ _ _ => noW) (fun _ _ _ => noW) (fun _ _ _ _ => noW) (fun _ _ => noW) (fun _ _ => noW) (fun _ => noW) (fun _ _ _ _ => noW) (fun x i => extW x i) (fun c => clW P pr c)
    (fun _ => noW) (fun _ => noW) (fun _ => noW) (fun _ _ => noW) (fun _ _ _ => noW) (fun _ _ => noW)
theorem opW_f (op : Op) : (opW P pr op).f = opK P pr op := by
  cases op with
  | move x => exact moveW_f x
  | assign x => exact moveW_f x
  | alloc e => exact allocW_f _ _
  | box t x => exact boxW_f _
  | build t ps => exact buildW_f _ _ _
  | buildSlice t n ps => exact bslW_f _ _ _ _
  | load t a => exact loadW_f _ _ _
  | store t a x => exact storeW_f _ _ _ _
  | nilCheck x => exact nilCW_f _
  | binOp op t x y u => exact binOpW_f _ _ _ _ _
  | unOp op t x => exact unOpW_f _ _
  | convert s d x => exact convW_f _ _ _ _
  | makeFunc f a b => exact mfW_f _ _ _
  | slice t x lo hi mx => exact sliceW_f _ _ _ _ _ _
  | fieldAddr s x f => exact fadW_f _ _ _ _
  | field t x f => exact fldW_f _ _ _ _
  | indexAddr t x ix => exact iadW_f _ _ _ _
  | index t x ix => exact idxW_f _ _ _ _
  | extract x i => exact extW_f _ _
  | call c => exact clW_f _ _ _
  | _ => rfl
-- statements
abbrev WR := Wr (IH → RgS)
noncomputable def stepW (o : Oper) (s : WO) (rest : WR) : WR := Option.rec ⟨fun ih L V st k => s.f ih L V st fun _ st => rest.f ih L V st k⟩ (fun d => ⟨fun ih L V st k => s.f ih L V st fun a st => rest.f ih (.cons d a L) V st k⟩) o.dst
theorem stepW_f {o : Oper} {s : WO} {rest : WR} : (stepW o s rest).f = stepK o s.f rest.f := by
  unfold stepW stepK
  cases o.dst <;> rfl
noncomputable def gstepW (all : Array Oper) (o : Oper) (s rest : WR) : WR := Option.rec s (fun p => ⟨fun ih L V st k => grdK ((all[p.1]?).bind (·.dst)) p.2 L V (s.f ih L V st k) (skipK o rest.f ih L V st k)⟩) o.guard
theorem gstepW_f {all : Array Oper} {o : Oper} {s rest : WR} : (gstepW all o s rest).f = gstepK all o s.f rest.f := by
  unfold gstepW gstepK
  cases o.guard <;> rfl
noncomputable def regW (all : Array Oper) : List Oper → WR := List.rec ⟨fun _ L _ st k => k L st⟩ (fun o _ rest => gstepW all o (stepW o (opW P pr o.op) rest) rest)
theorem regW_f (all : Array Oper) (l : List Oper) : (regW P pr all l).f = regK P pr all l := by
  induction l with
  | nil => rfl
  | cons o l ih =>
    show (gstepW all o (stepW o (opW P pr o.op) (regW P pr all l)) (regW P pr all l)).f = gstepK all o (stepK o (opK P pr o.op) (regK P pr all l)) (regK P pr all l)
    rw [gstepW_f, stepW_f, opW_f, ih]
noncomputable def flushW : List Nat → Wr (Env → Env → (Env → OR) → OR) := List.rec ⟨fun _ V k => k V⟩ (fun t _ ih => ⟨fun L V k => L.lget .nil t fun a => ih.f L (Env.vset t a V) k⟩)
theorem flushW_f (l : List Nat) : (flushW l).f = flushK l := by
  induction l with
  | nil => rfl
  | cons t l ih =>
    show (fun (L V : Env) (k : Env → OR) => Env.lget L .nil t fun a => (flushW l).f L (Env.vset t a V) k) = (fun (L V : Env) (k : Env → OR) => Env.lget L .nil t fun a => flushK l L (Env.vset t a V) k)
    rw [ih]
abbrev WC := Wr (IH → CdS)
noncomputable def noC : WC := ⟨fun _ _ _ _ => none⟩
noncomputable def plainW (U : FI) (ops : Array Oper) : WC := Bool.rec noC ⟨fun ih V st k => (regW P pr ops ops.toList).f ih .nil V st fun L st => (flushW (keepL U.1 ops.toList)).f L V fun V => k .normal V st⟩ (dstsOK U.2 ops.toList)
theorem plainW_f (U : FI) (ops : Array Oper) : (plainW P pr U ops).f = plainK P pr U ops := by
  unfold plainW plainK
  cases dstsOK U.2 ops.toList with
  | false => rfl
  | true =>
    show (fun (ih : IH) (V : Env) (st : St) (k : Out → Env → St → OR) => (regW P pr ops ops.toList).f ih .nil V st fun L st => (flushW (keepL U.1 ops.toList)).f L V fun V => k .normal V st) = _
    rw [regW_f, flushW_f]; rfl
noncomputable def openRW (all : Array Oper) : List (Oper × OpPlan) → Wr (IH → DgS) := List.rec ⟨fun _ _ L _ st k => k L st⟩ (fun q _ rest => ⟨fun ih => stepD P all q.1 q.2 ((opW P pr q.1.op).f ih) (rest.f ih)⟩)
theorem openRW_f (all : Array Oper) (l : List (Oper × OpPlan)) : (openRW P pr all l).f = fun ih => openR P pr all ih l := by
  induction l with
  | nil => rfl
  | cons q l ih =>
    show (fun (ih : IH) => stepD P all q.1 q.2 ((opW P pr q.1.op).f ih) ((openRW P pr all l).f ih)) = fun ih => stepD P all q.1 q.2 (opK P pr q.1.op ih) (openR P pr all ih l)
    rw [ih, opW_f]
noncomputable def openW (U : FI) (ops : Array Oper) : WC := Bool.rec noC ⟨fun ih V st k => ifK (Nat.ble st.ro st.nxt.nat) ((openRW P pr ops (plansOf ops.toList)).f ih [] .nil V st fun L st => (flushW (keepL U.1 ops.toList)).f L V fun V => k .normal V st) none⟩ (dstsOK U.2 ops.toList && openOK ops.toList)
theorem openW_f (U : FI) (ops : Array Oper) : (openW P pr U ops).f = openK P pr U ops := by
  unfold openW openK
  cases (dstsOK U.2 ops.toList && openOK ops.toList) with
  | false => rfl
  | true =>
    show (fun (ih : IH) (V : Env) (st : St) (k : Out → Env → St → OR) => ifK (Nat.ble st.ro st.nxt.nat) ((openRW P pr ops (plansOf ops.toList)).f ih [] .nil V st fun L st => (flushW (keepL U.1 ops.toList)).f L V fun V => k .normal V st) none) = _
    rw [openRW_f, flushW_f]; rfl
noncomputable def codeW (U : FI) : Code → WC :=
  Code.rec ⟨fun _ V st k => k .normal V st⟩ (fun _ ops d => Bool.rec (plainW P pr U ops) (openW P pr U ops) d) (fun a b _ _ => ⟨fun ih V st k => ih U a V st fun o V st => Out.rec (fun V st => ih U b V st k) (fun i => k (.exit i)) (k .ret) o V st⟩) (fun x a b _ _ => ⟨fun ih V st k => (opdW x).f .nil V fun y => asB y fun t => ih U (Bool.rec b a t) V st k⟩) (fun id c _ => ⟨blockK U id c⟩) (fun c _ => ⟨loopR U c roundN⟩) (fun _ _ _ _ _ _ => noC) (fun id => ⟨fun _ V st k => k (.exit id) V st⟩) (fun _ _ => noC) (fun _ => noC) (fun _ => noC) ⟨fun _ V st k => k .ret V st⟩ (fun _ => noC)
theorem codeW_f (U : FI) (c : Code) : (codeW P pr U c).f = codeK P pr U c := by
  cases c with
  | region id ops d => cases d with
    | false => exact plainW_f _ _ _ _
    | true => exact openW_f _ _ _ _
  | cond x a b =>
    show (fun (ih : IH) (V : Env) (st : St) (k : Out → Env → St → OR) => (opdW x).f .nil V fun y => asB y fun t => ih U (Bool.rec b a t) V st k) = _
    rw [opdW_f]; rfl
  | _ => rfl
noncomputable def evW (n : Nat) : IH := Nat.rec (fun _ _ _ _ _ => none) (fun _ ih U c => (codeW P pr U c).f ih) n
theorem evW_f (n : Nat) : evW P pr n = evC P pr n := by
  induction n with
  | zero => rfl
  | succ n ih =>
    show (fun (U : FI) (c : Code) => (codeW P pr U c).f (evW P pr n)) = fun U c => codeK P pr U c (evC P pr n)
    rw [ih]
    funext U c
    rw [codeW_f]
noncomputable def runB (n : Nat) (f : FuncId) (args : List AV) (st : St) (k : KS) : OR := (callW P pr f).f (evW P pr n) args st k
theorem runB_eq (n : Nat) (f : FuncId) (args : List AV) (st : St) (k : KS) : runB P pr n f args st k = run P pr n f args st k := by
  unfold runB run
  rw [callW_f, evW_f]
end
end Go.Proofs.YtceobmnljdhkmaaGreatDoor.Ev
