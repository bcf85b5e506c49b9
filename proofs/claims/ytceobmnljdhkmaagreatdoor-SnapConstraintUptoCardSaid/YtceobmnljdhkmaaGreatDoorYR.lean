
import Derived.Test.YtceobmnljdhkmaaGreatDoorYQ
import Derived.LoopN
/- statements whose order is open: the evaluator -/
namespace Go.Proofs.YtceobmnljdhkmaaGreatDoor.Ev
open Go
def eqBy : List UInt8 → List UInt8 → Bool
  | [], [] => true
  | a :: l, b :: m => Nat.beq a.toNat b.toNat && eqBy l m
  | _, _ => false
theorem eqBy_spec : ∀ {l m : List UInt8}, eqBy l m = true → l = m
  | [], [], _ => rfl
  | a :: l, b :: m, h => by
    have h : (Nat.beq a.toNat b.toNat && eqBy l m) = true := h
    rw [Bool.and_eq_true] at h
    rw [UInt8.toNat_inj.1 (Nat.eq_of_beq_eq_true h.1), eqBy_spec h.2]
  | [], _ :: _, h => by cases h
  | _ :: _, [], h => by cases h
def eqV : Value → Value → Bool
  | .string s, .string t => eqBy s.data.toList t.data.toList
  | .pointer none, .pointer none => true
  | .slice none a b, .slice none c d => Nat.beq a c && Nat.beq b d
  | .map none, .map none => true
  | .nilFunc, .nilFunc => true
  | .nilIface, .nilIface => true
  | _, _ => false
theorem eqV_spec {x y : Value} (h : eqV x y = true) : x = y := by
  unfold eqV at h
  split at h
  · rename_i s t
    have := eqBy_spec h
    obtain ⟨s⟩ := s
    obtain ⟨t⟩ := t
    rw [show s = t from Array.ext' this]
  · rfl
  · simp at h; simp [h]
  · rfl
  · rfl
  · rfl
  · cases h
def eqAV : AV → AV → Bool
  | .b x, .b y => x == y
  | .i k n, .i l m => decide (k = l) && Nat.beq n m
  | .m k n, .m l m => decide (k = l) && Nat.beq n m
  | .v x, .v y => eqV x y
  | .u, .u => true
  | .se, .se => true
  | .ptr a n, .ptr b m => decide (a = b) && Nat.beq n m
  | .fn (.func f) [] [], .fn (.func g) [] [] => Nat.beq f g
  | .sl a o l none s, .sl b p m none t => decide (a = b) && Nat.beq o p && Nat.beq l m && Nat.beq s t
  | .sl a o l (some c) s, .sl b p m (some d) t => decide (a = b) && Nat.beq o p && Nat.beq l m && Nat.beq c d && Nat.beq s t
  | _, _ => false
def eqL : List AV → List AV → Bool
  | [], [] => true
  | a :: l, b :: m => eqAV a b && eqL l m
  | _, _ => false
/-- Is it the same block? (It may say no of equal ones.) -/
def eqB : Option Blk → Option Blk → Bool
  | none, none => true
  | some a, some b => eqL a.cells b.cells && a.exact == b.exact
  | _, _ => false
theorem eqAV_spec {a b : AV} (h : eqAV a b = true) : a = b := by
  unfold eqAV at h
  split at h <;> first | rfl | (cases h; done) | (rw [eqV_spec h]; done) | (simp at h; simp [h])
theorem eqL_spec : ∀ {l m : List AV}, eqL l m = true → l = m
  | [], [], _ => rfl
  | a :: l, b :: m, h => by
    have h : (eqAV a b && eqL l m) = true := h
    rw [Bool.and_eq_true] at h
    rw [eqAV_spec h.1, eqL_spec h.2]
  | [], _ :: _, h => by cases h
  | _ :: _, [], h => by cases h
theorem eqB_spec {a b : Option Blk} (h : eqB a b = true) : a = b := by
  unfold eqB at h
  split at h
  · rfl
  · rename_i x y
    rw [Bool.and_eq_true] at h
    obtain ⟨c, e⟩ := x
    obtain ⟨d, f⟩ := y
    have h1 := eqL_spec h.1
    have h2 : e = f := by simpa using h.2
    subst h1 h2; rfl
  · cases h
/-- What the evaluator notes of an operation: the numbers of its new blocks, what it could not see, what it has written, the one block that it has loaded, the memory ahead and behind, whether it may have written anywhere. -/
structure Rec where
  n0 : Nat
  n1 : Nat
  hid : List (Nat × Nat)
  wr : List (Nat × Nat)
  rd : Option Id
  h0 : Tr
  h1 : Tr
  wild : Bool
-- what must come ahead of what
def needsB (o : Oper) : List Nat := (o.after.toList.filter (Region.binds .any)).map (·.on)
def maskOf (acc : List Nat) (l : List Nat) : Nat := l.foldl (fun s e => Nat.lor s (Nat.lor (Nat.pow 2 e) (acc.getD e 0))) 0
def masksL : List Oper → List Nat → List Nat
  | [], acc => acc
  | o :: l, acc => masksL l (acc ++ [maskOf acc (needsB o)])
def ordB (ms : List Nat) (i j : Nat) : Bool := if i < j then (ms.getD j 0).testBit i else (ms.getD i 0).testBit j
/-- The plan for an operation: for those ahead of it, the latest first, whether their order is open; the slots that it may not see; the slots with addresses that may be written to before or behind it; whether nothing about it is open. -/
structure OpPlan where
  un : List Bool
  del : List Nat
  adr : List Nat
  tot : Bool
def storeAdr : Op → Option (TypeId × Operand × Operand)
  | .store t a x => some (t, a, x)
  | _ => none
def adrsOf (ops : List Oper) (ms : List Nat) (i : Nat) : List Nat :=
  (List.range ops.length).filterMap fun m => if i < m && !ordB ms i m then (match (ops[m]?).bind (fun o => storeAdr o.op) with | some (_, .tmp t, _) => if (ops.filterMap (·.dst)).elem t then none else some t | _ => none) else none
/-- It looks at one block at most (a load: at which address?), and writes to none. -/
def shyOp : Op → Option (Option Operand)
  | .move _ => some none
  | .assign _ => some none
  | .pick _ _ _ => some none
  | .alloc _ => some none
  | .box _ _ => some none
  | .build _ _ => some none
  | .buildSlice _ _ _ => some none
  | .load _ a => some (some a)
  | .nilCheck _ => some none
  | .binOp _ _ _ _ _ => some none
  | .unOp _ _ _ => some none
  | .makeFunc _ _ _ => some none
  | .slice _ _ _ _ _ => some none
  | .fieldAddr _ _ _ => some none
  | .field _ _ _ => some none
  | .indexAddr _ _ _ => some none
  | .index _ _ _ => some none
  | .extract _ _ => some none
  | .call ⟨.builtin .len, _, _⟩ => some none
  | _ => none
def shyB (ops : List Oper) (i : Nat) : Bool := match ops[i]? with | some o => (shyOp o.op).isSome | none => false
def planOf (ops : List Oper) (ms : List Nat) (i : Nat) : OpPlan :=
  { un := (List.range i).reverse.map fun j => !ordB ms j i
    del := (List.range ops.length).filterMap fun m => if m != i && !ordB ms m i then (ops[m]?).bind (·.dst) else none
    adr := adrsOf ops ms i
    tot := !shyB ops i && (List.range ops.length).all fun m => m == i || ordB ms m i || shyB ops m }
def plansOf (ops : List Oper) : List (Oper × OpPlan) := ops.zip ((List.range ops.length).map (planOf ops (masksL ops [])))
/-- The checks on a statement's text. -/
def openOK (ops : List Oper) : Bool :=
  let ms := masksL ops []
  (List.range ops.length).all fun i => match ops[i]? with
    | some o => (needsB o).all (fun m => m < i) && (match o.guard with | some (g, _) => (needsB o).elem g | none => true) &&
      (List.range i).all fun j => ordB ms j i || o.dst.isNone || o.dst != (ops[j]?).bind (·.dst)
    | none => false
noncomputable def appR (l m : List (Nat × Nat)) : List (Nat × Nat) := List.rec m (fun a _ ih => a :: ih) l
noncomputable def addR (r : Rec) (l : List (Nat × Nat)) : List (Nat × Nat) := appR r.wr (Bool.rec ((r.n0, r.n1) :: l) l (Nat.ble r.n1 r.n0))
noncomputable def hideR : List Bool → List Rec → List (Nat × Nat) → List (Nat × Nat) := List.rec (fun _ b => b) (fun u _ ih rs b => List.rec b (fun r rs _ => Bool.rec (ih rs b) (addR r (ih rs b)) u) rs)
noncomputable def adrK : List Nat → Env → (List (Nat × Nat) → OR) → OR := List.rec (fun _ k => k []) (fun t _ ih V k => V.vget t fun y => asP y fun id _ => ih V fun l => k ((id.nat, Nat.succ id.nat) :: l))
noncomputable def delL : List Nat → Env → Env := List.rec (fun L => L) (fun t _ ih L => .del t (ih L))
noncomputable def pureK : KS := fun a st => some (a, st)
noncomputable def dirK (x : OR) (k : KS) : OR := Option.rec none (fun p => k p.1 p.2) x
/-- Is a block out of sight for the operations whose order is open? -/
noncomputable def inHid (n : Nat) (l : List (Nat × Nat)) : Bool := List.rec false (fun p _ ih => Bool.rec ih (Bool.rec true ih (Nat.ble p.2 n)) (Nat.ble p.1 n)) l
noncomputable def chkR (n : Nat) : List Bool → List Rec → Bool := List.rec (fun _ => true) (fun u _ ih rs => List.rec true (fun r rs _ => Bool.rec (ih rs) (Bool.rec (Bool.rec false (ih rs) (inHid n r.hid)) (ih rs) (Nat.ble r.n0 n)) u) rs)
-- a load and what may be written elsewhere
/-- A block ahead of operation r, is it the same behind? -/
noncomputable def keepsB (x : Id) (r : Rec) : Bool := Bool.rec false (Bool.rec true (eqB (Tr.find x r.h0) (Tr.find x r.h1)) r.wild) (Nat.ble (Nat.succ x.nat) r.n0)
/-- The block that is to be loaded is the same ahead of and behind those operations whose order is open. -/
noncomputable def okX (x : Id) : List Bool → List Rec → Bool := List.rec (fun _ => true) (fun u _ ih rs => List.rec true (fun r rs _ => Bool.rec (ih rs) (Bool.rec false (ih rs) (keepsB x r)) u) rs)
/-- The blocks that those operations have loaded whose order is open have not been turned. -/
noncomputable def chkW (h0 h1 : Tr) : List Bool → List Rec → Bool := List.rec (fun _ => true) (fun u _ ih rs => List.rec true (fun r rs _ => Bool.rec (ih rs) (Option.rec (ih rs) (fun x => Bool.rec false (ih rs) (eqB (Tr.find x h0) (Tr.find x h1))) r.rd) u) rs)
noncomputable def complR (n : Nat) (x : Option Id) : List (Nat × Nat) := Option.rec [(0, n)] (fun x => [(0, x.nat), (Nat.succ x.nat, n)]) x
section
variable (P : Program) (pr : Prims)
abbrev DgS := List Rec → Env → Env → St → (Env → St → OR) → OR
noncomputable def stE (h : List (Nat × Nat)) (st : St) : St := St.rec (fun heap nxt _ hid => ⟨heap, nxt, nxt.nat, appR h hid⟩) st
noncomputable def stS (h : List (Nat × Nat)) (st : St) : St := St.rec (fun heap nxt ro hid => ⟨heap, nxt, ro, appR h hid⟩) st
noncomputable def backK (st st' : St) : St := St.rec (fun heap nxt _ _ => St.rec (fun _ _ ro hid => ⟨heap, nxt, ro, hid⟩) st) st'
/-- The others whose order is open are shy: it may write. -/
noncomputable def goT (o : Oper) (p : OpPlan) (s : OpS) (rest : DgS) : DgS := fun recs L V st k =>
  dirK (s (delL p.del L) V (stS (hideR p.un recs []) st) pureK) fun a st' => ifK (chkW st.heap st'.heap p.un recs) (rest (⟨st.nxt.nat, st'.nxt.nat, hideR p.un recs [], [], none, st.heap, st'.heap, true⟩ :: recs) (dstK o.dst a L) V (backK st st') k) none
/-- It may make memory and read what nobody else turns. -/
noncomputable def goE (o : Oper) (p : OpPlan) (s : OpS) (rest : DgS) : DgS := fun recs L V st k => adrK p.adr V fun ah =>
  dirK (s (delL p.del L) V (stE (hideR p.un recs ah) st) pureK) fun a st' => rest (⟨st.nxt.nat, st'.nxt.nat, hideR p.un recs ah, [], none, st.heap, st'.heap, false⟩ :: recs) (dstK o.dst a L) V (backK st st') k
/-- It stores into a block that nobody else looks at. -/
noncomputable def goS2 (st : St) (t : TypeId) (h : List (Nat × Nat)) (us : List Bool) (recs : List Rec) (id : Id) (off : Nat) (v : AV) (k : St → OR) : OR :=
  ifK (chkR id.nat us recs) (getK (stS h st) id fun b => ifK (Nat.beq (lenL v.cells) (szOf P t)) (ifK (onesB v.cells) (putC v.cells off b.cells fun cs => setB (stS h st) id ⟨cs, b.exact⟩ k) none) none) none
noncomputable def goS (o : Oper) (p : OpPlan) (q : TypeId × Operand × Operand) (rest : DgS) : DgS := fun recs L V st k => adrK p.adr V fun ah =>
  opd q.2.1 (delL p.del L) V fun y => opd q.2.2 (delL p.del L) V fun v => asP y fun id off => ifK (known P q.1) (goS2 P st q.1 (hideR p.un recs ah) p.un recs id off v fun st' => rest (⟨st.nxt.nat, st.nxt.nat, hideR p.un recs ah, [(id.nat, Nat.succ id.nat)], none, st.heap, st'.heap, true⟩ :: recs) (dstK o.dst .u L) V (backK st st') k) none
/-- It looks at one block at most. -/
noncomputable def goY (o : Oper) (p : OpPlan) (s : OpS) (rest : DgS) (x : Option Id) : DgS := fun recs L V st k =>
  dirK (s (delL p.del L) V (stE (complR st.nxt.nat x) st) pureK) fun a st' => rest (⟨st.nxt.nat, st'.nxt.nat, complR st.nxt.nat x, [], x, st.heap, st'.heap, false⟩ :: recs) (dstK o.dst a L) V (backK st st') k
noncomputable def goX (o : Oper) (p : OpPlan) (s : OpS) (rest : DgS) (x : Option Operand) : DgS := Option.rec (goY o p s rest none) (fun x recs L V st k => opd x (delL p.del L) V fun y => asP y fun id _ => ifK (Nat.ble id.nat st.nxt.nat) (ifK (okX id p.un recs) (goY o p s rest (some id) recs L V st k) none) none) x
noncomputable def goD (o : Oper) (p : OpPlan) (s : OpS) (rest : DgS) : DgS := Option.rec (Bool.rec (Option.rec (goE o p s rest) (fun q => goS P o p q rest) (storeAdr o.op)) (goT o p s rest) p.tot) (fun x => goX o p s rest x) (shyOp o.op)
noncomputable def passD (o : Oper) (rest : DgS) : DgS := fun recs L V st k => rest (⟨st.nxt.nat, st.nxt.nat, [(0, st.nxt.nat)], [], none, st.heap, st.heap, false⟩ :: recs) (dstK o.dst .u L) V st k
noncomputable def stepD (all : Array Oper) (o : Oper) (p : OpPlan) (s : OpS) (rest : DgS) : DgS := Option.rec (goD P o p s rest) (fun g recs L V st k => grdK ((all[g.1]?).bind (·.dst)) g.2 (delL p.del L) V (goD P o p s rest recs L V st k) (passD o rest recs L V st k)) o.guard
noncomputable def openR (all : Array Oper) (ih : IH) : List (Oper × OpPlan) → DgS := List.rec (fun _ L _ st k => k L st) (fun q _ rest => stepD P all q.1 q.2 (opK P pr q.1.op ih) rest)
noncomputable def openK (U : FI) (ops : Array Oper) : IH → CdS := Bool.rec (fun _ _ _ _ => none) (fun ih V st k => ifK (Nat.ble st.ro st.nxt.nat) (openR P pr ops ih (plansOf ops.toList) [] .nil V st (endK (keepL U.1 ops.toList) V k)) none) (dstsOK U.2 ops.toList && openOK ops.toList)
end
end Go.Proofs.YtceobmnljdhkmaaGreatDoor.Ev
/- statements whose order is open: what the evaluator has done, operation by operation -/
namespace Go.Proofs.YtceobmnljdhkmaaGreatDoor.Ev
open Go
variable {r : AV × St} {P : Program}
theorem appR_eq (l m : List (Nat × Nat)) : appR l m = l ++ m := by
  induction l with
  | nil => rfl
  | cons a l ih => show a :: appR l m = _; rw [ih]; rfl
theorem dirK_spec {x : OR} {k : KS} (h : dirK x k = some r) : ∃ av st, x = some (av, st) ∧ k av st = some r := by
  cases x with
  | none => cases h
  | some p => exact ⟨p.1, p.2, rfl, h⟩
/-- An operand's value, the same in whatever world. -/
theorem opd_abs {L V : Env} {x : Operand} {k : KA} (h : opd x L V k = some r) : ∃ y, k y = some r ∧ ∀ (Γ : Map) (a : Act), Glob Γ → SlR Γ L V a.tmps → CR Γ y (a.eval x) := by
  cases x with
  | tmp t =>
    obtain ⟨y, h1, h2⟩ := Env.lget_spec L t (h : L.lget V t k = some r)
    exact ⟨y, h2, fun Γ a _ hl => (hl t y h1).2⟩
  | const v =>
    have h' : valK (ofValue v) L V k = some r := h
    cases hv : ofValue v with
    | none => rw [hv] at h'; cases h'
    | some y => rw [hv] at h'; exact ⟨y, h', fun Γ _ _ _ => ofValue_spec Γ hv⟩
  | global g =>
    have h' : valK (Bool.rec none (some (.ptr (gid g) 0)) (Nat.ble (Nat.succ g) G0)) L V k = some r := h
    cases hb : Nat.ble (Nat.succ g) G0 with
    | false => rw [hb] at h'; cases h'
    | true =>
      rw [hb] at h'
      exact ⟨.ptr (gid g) 0, h', fun Γ _ hg _ => let ⟨s, e⟩ := hg g (Nat.le_of_ble_eq_true hb); .ptr e⟩
  | func f => exact ⟨_, h, fun _ _ _ _ => .fn .nil .nil⟩
/-- The address slots that are hidden. -/
theorem adrK_spec {V : Env} : ∀ (ts : List Nat) (k : List (Nat × Nat) → OR), adrK ts V k = some r → ∃ ah, k ah = some r ∧ ∀ p ∈ ah, ∃ (id : Id) (t off : Nat), V.find t = some (.ptr id off) ∧ p = (id.nat, id.nat + 1) := by
  intro ts
  induction ts with
  | nil => intro k h; exact ⟨[], h, fun p hp => by cases hp⟩
  | cons t ts ih =>
    intro k h
    obtain ⟨a, h1, h2⟩ := Env.vget_spec V t (h : V.vget t _ = some r)
    obtain ⟨id, off, rfl, h3⟩ := asP_spec h2
    obtain ⟨ah, h4, h5⟩ := ih _ h3
    exact ⟨_, h4, fun p hp => by
      rcases List.mem_cons.1 hp with rfl | hp
      · exact ⟨id, t, off, h1, rfl⟩
      · exact h5 p hp⟩
/-- Where the evaluator stands ahead of an operation. -/
structure Snap where
  recs : List Rec
  L : Env
  st : St
noncomputable def Snap.n (s : Snap) : Nat := s.st.nxt.nat
/-- How an operation was taken: passed by; one that may write, those whose order is open being shy; one with what is open hidden; one that looks at one block at most; a store. -/
inductive Way (P : Program) (pr : Prims) (ih : IH) (V : Env) (o : Oper) (p : OpPlan) (s : Snap) (av : AV) (s' : Snap) : Bool → Prop
  | pass (ha : av = .u) (hs : s'.st = s.st) (hr : s'.recs = ⟨s.n, s.n, [(0, s.n)], [], none, s.st.heap, s.st.heap, false⟩ :: s.recs) : Way P pr ih V o p s av s' false
  | tot (st1 : St) (ht : p.tot = true) (he : opK P pr o.op ih (delL p.del s.L) V (stS (hideR p.un s.recs []) s.st) pureK = some (av, st1)) (hc : chkW s.st.heap st1.heap p.un s.recs = true) (hs : s'.st = backK s.st st1) (hr : s'.recs = ⟨s.n, st1.nxt.nat, hideR p.un s.recs [], [], none, s.st.heap, st1.heap, true⟩ :: s.recs) : Way P pr ih V o p s av s' true
  | ext (ah : List (Nat × Nat)) (hah : ∀ p ∈ ah, ∃ (id : Id) (t off : Nat), V.find t = some (.ptr id off) ∧ p = (id.nat, id.nat + 1)) (st1 : St) (ht : p.tot = false ∧ shyOp o.op = none) (he : opK P pr o.op ih (delL p.del s.L) V (stE (hideR p.un s.recs ah) s.st) pureK = some (av, st1)) (hs : s'.st = backK s.st st1) (hr : s'.recs = ⟨s.n, st1.nxt.nat, hideR p.un s.recs ah, [], none, s.st.heap, st1.heap, false⟩ :: s.recs) : Way P pr ih V o p s av s' true
  | shy (x : Option Id) (hx : ∀ id, x = some id → okX id p.un s.recs = true ∧ id.nat ≤ s.n) (hin : (shyOp o.op).isSome = true) (st1 : St) (he : opK P pr o.op ih (delL p.del s.L) V (stE (complR s.n x) s.st) pureK = some (av, st1)) (hs : s'.st = backK s.st st1) (hr : s'.recs = ⟨s.n, st1.nxt.nat, complR s.n x, [], x, s.st.heap, st1.heap, false⟩ :: s.recs) : Way P pr ih V o p s av s' true
  | sto (ah : List (Nat × Nat)) (hah : ∀ p ∈ ah, ∃ (id : Id) (t off : Nat), V.find t = some (.ptr id off) ∧ p = (id.nat, id.nat + 1)) (hnt : p.tot = false) (t : TypeId) (x y : Operand) (ho : o.op = .store t x y) (hk : known P t = true) (ha : av = .u) (id : Id) (off : Nat) (v : AV) (b : Blk)
      (hx : ∀ (Γ : Map) (a : Act), Glob Γ → SlR Γ (delL p.del s.L) V a.tmps → CR Γ (.ptr id off) (a.eval x)) (hy : ∀ (Γ : Map) (a : Act), Glob Γ → SlR Γ (delL p.del s.L) V a.tmps → CR Γ v (a.eval y))
      (hc : chkR id.nat p.un s.recs = true) (hl : (stS (hideR p.un s.recs ah) s.st).look id b) (h1 : Nat.beq (lenL v.cells) (szOf P t) = true) (h2 : onesB v.cells = true) (h3 : off + v.cells.length ≤ b.cells.length) (hro : s.st.ro ≤ id.nat)
      (hs : s'.st = ⟨Tr.put (some ⟨b.cells.take off ++ v.cells ++ b.cells.drop (off + v.cells.length), b.exact⟩) id s.st.heap, s.st.nxt, s.st.ro, s.st.hid⟩) (hr : s'.recs = ⟨s.n, s.n, hideR p.un s.recs ah, [(id.nat, id.nat + 1)], none, s.st.heap, s'.st.heap, true⟩ :: s.recs) : Way P pr ih V o p s av s' true
structure Trans (P : Program) (pr : Prims) (all : Array Oper) (ih : IH) (V : Env) (o : Oper) (p : OpPlan) (s : Snap) (av : AV) (s' : Snap) : Prop where
  slot : s'.L = dstK o.dst av s.L
  way : ∃ want : Bool, (∀ (Γ : Map) (a : Act), SlR Γ (delL p.del s.L) V a.tmps → Region.wanted o (yielded all a.tmps) = want) ∧ Way P pr ih V o p s av s' want
theorem goY_spec {pr : Prims} {ih : IH} {all : Array Oper} {V : Env} {o : Oper} {p : OpPlan} {s : Snap} {rest : DgS} {k : Env → St → OR} {x : Option Id} (hw : ∀ (Γ : Map) (a : Act), SlR Γ (delL p.del s.L) V a.tmps → Region.wanted o (yielded all a.tmps) = true)
    (hx : ∀ id, x = some id → okX id p.un s.recs = true ∧ id.nat ≤ s.n) (hin : (shyOp o.op).isSome = true) (h : goY o p (opK P pr o.op ih) rest x s.recs s.L V s.st k = some r) : ∃ av s', Trans P pr all ih V o p s av s' ∧ rest s'.recs s'.L V s'.st k = some r := by
  obtain ⟨av, st1, h1, h2⟩ := dirK_spec (h : dirK (opK P pr o.op ih (delL p.del s.L) V (stE (complR s.st.nxt.nat x) s.st) pureK) _ = some r)
  exact ⟨av, ⟨_, _, _⟩, ⟨rfl, true, hw, .shy x hx hin st1 h1 rfl rfl⟩, h2⟩
theorem goD_spec {pr : Prims} {ih : IH} {all : Array Oper} {V : Env} {o : Oper} {p : OpPlan} {s : Snap} {rest : DgS} {k : Env → St → OR} (hw : ∀ (Γ : Map) (a : Act), SlR Γ (delL p.del s.L) V a.tmps → Region.wanted o (yielded all a.tmps) = true)
    (h : goD P o p (opK P pr o.op ih) rest s.recs s.L V s.st k = some r) : ∃ av s', Trans P pr all ih V o p s av s' ∧ rest s'.recs s'.L V s'.st k = some r := by
  have h : (Option.rec (motive := fun _ => DgS) (Bool.rec (motive := fun _ => DgS) (Option.rec (motive := fun _ => DgS) (goE o p (opK P pr o.op ih) rest) (fun q => goS P o p q rest) (storeAdr o.op)) (goT o p (opK P pr o.op ih) rest) p.tot) (fun x => goX o p (opK P pr o.op ih) rest x) (shyOp o.op)) s.recs s.L V s.st k = some r := h
  cases hin : shyOp o.op with
  | some x =>
    rw [hin] at h
    have hin' : (shyOp o.op).isSome = true := by rw [hin]; rfl
    cases x with
    | none => exact goY_spec hw (fun id e => by cases e) hin' (h : goY o p (opK P pr o.op ih) rest none s.recs s.L V s.st k = some r)
    | some x =>
      obtain ⟨y, h1, _⟩ := opd_abs (h : opd x (delL p.del s.L) V _ = some r)
      obtain ⟨id, off, rfl, h2⟩ := asP_spec h1
      obtain ⟨h0, h2⟩ := ifK_yes h2
      obtain ⟨h3, h4⟩ := ifK_yes h2
      exact goY_spec hw (fun id' e => by (injection e with e; rw [← e]; exact ⟨h3, Nat.le_of_ble_eq_true h0⟩)) hin' h4
  | none =>
  rw [hin] at h
  have h : (Bool.rec (motive := fun _ => DgS) (Option.rec (motive := fun _ => DgS) (goE o p (opK P pr o.op ih) rest) (fun q => goS P o p q rest) (storeAdr o.op)) (goT o p (opK P pr o.op ih) rest) p.tot) s.recs s.L V s.st k = some r := h
  cases ht : p.tot with
  | true =>
    rw [ht] at h
    obtain ⟨av, st1, h1, h2⟩ := dirK_spec (h : dirK (opK P pr o.op ih (delL p.del s.L) V (stS (hideR p.un s.recs []) s.st) pureK) _ = some r)
    obtain ⟨h3, h4⟩ := ifK_yes h2
    exact ⟨av, ⟨_, _, _⟩, ⟨rfl, true, hw, .tot st1 ht h1 h3 rfl rfl⟩, h4⟩
  | false =>
    rw [ht] at h
    cases hq : storeAdr o.op with
    | none =>
      rw [hq] at h
      obtain ⟨ah, h, hah⟩ := adrK_spec _ _ (h : adrK p.adr V _ = some r)
      obtain ⟨av, st1, h1, h2⟩ := dirK_spec h
      exact ⟨av, ⟨_, _, _⟩, ⟨rfl, true, hw, .ext ah hah st1 ⟨ht, hin⟩ h1 rfl rfl⟩, h2⟩
    | some q =>
      rw [hq] at h
      obtain ⟨t, x, y⟩ := q
      have ho : o.op = .store t x y := by
        unfold storeAdr at hq
        split at hq
        · rename_i e; injection hq with hq; injection hq with e1 e2; injection e2 with e2 e3; subst e1 e2 e3; exact e
        · cases hq
      obtain ⟨ah, h, hah⟩ := adrK_spec _ _ (h : adrK p.adr V _ = some r)
      obtain ⟨ya, h, hya⟩ := opd_abs h
      obtain ⟨v, h, hv⟩ := opd_abs h
      obtain ⟨id, off, rfl, h⟩ := asP_spec h
      obtain ⟨hk, h⟩ := ifK_yes h
      obtain ⟨g1, h⟩ := ifK_yes h
      obtain ⟨b, g2, h⟩ := getK_spec h
      obtain ⟨g3, h⟩ := ifK_yes h
      obtain ⟨g4, h⟩ := ifK_yes h
      obtain ⟨g5, h⟩ := putC_spec _ _ _ _ h
      obtain ⟨g6, h⟩ := setB_spec h
      exact ⟨.u, ⟨_, _, _⟩, ⟨rfl, true, hw, .sto ah hah ht t x y ho hk rfl id off v b hya hv g1 g2 g3 g4 g5 g6 rfl rfl⟩, h⟩
theorem stepD_spec {pr : Prims} {ih : IH} {all : Array Oper} {V : Env} {o : Oper} {p : OpPlan} {s : Snap} {rest : DgS} {k : Env → St → OR}
    (h : stepD P all o p (opK P pr o.op ih) rest s.recs s.L V s.st k = some r) : ∃ av s', Trans P pr all ih V o p s av s' ∧ rest s'.recs s'.L V s'.st k = some r := by
  have h : (Option.rec (motive := fun _ => DgS) (goD P o p (opK P pr o.op ih) rest) (fun g recs L V st k => grdK ((all[g.1]?).bind (·.dst)) g.2 (delL p.del L) V (goD P o p (opK P pr o.op ih) rest recs L V st k) (passD o rest recs L V st k)) o.guard) s.recs s.L V s.st k = some r := h
  cases hg : o.guard with
  | none => rw [hg] at h; exact goD_spec (fun Γ a _ => by unfold Region.wanted; rw [hg]) h
  | some g =>
    rw [hg] at h
    obtain ⟨b, h1, h2⟩ := grdK_spec hg h
    cases b with
    | true => exact goD_spec h2 h1
    | false => exact ⟨.u, ⟨_, _, _⟩, ⟨rfl, false, h2, .pass rfl rfl rfl⟩, h1⟩
theorem openR_spec {pr : Prims} {ih : IH} {all : Array Oper} {V : Env} : ∀ (l : List (Oper × OpPlan)) (s : Snap) (k : Env → St → OR), openR P pr all ih l s.recs s.L V s.st k = some r →
    ∃ (S : Nat → Snap) (av : Nat → AV), S 0 = s ∧ k (S l.length).L (S l.length).st = some r ∧ ∀ i o p, l[i]? = some (o, p) → Trans P pr all ih V o p (S i) (av i) (S (i + 1)) := by
  intro l
  induction l with
  | nil => intro s k h; exact ⟨fun _ => s, fun _ => .u, rfl, h, fun i o p hi => by simp at hi⟩
  | cons q l ihl =>
    intro s k h
    obtain ⟨av, s', ht, h'⟩ := stepD_spec (h : stepD P all q.1 q.2 (opK P pr q.1.op ih) (openR P pr all ih l) s.recs s.L V s.st k = some r)
    obtain ⟨S, avs, e0, hk, hS⟩ := ihl s' k h'
    refine ⟨fun n => match n with | 0 => s | n + 1 => S n, fun n => match n with | 0 => av | n + 1 => avs n, rfl, hk, fun i o p hi => ?_⟩
    cases i with
    | zero =>
      simp at hi
      subst hi
      show Trans P pr all ih V o p s av (S 0)
      rw [e0]; exact ht
    | succ i => exact hS i o p (by simpa using hi)
end Go.Proofs.YtceobmnljdhkmaaGreatDoor.Ev
/- statements whose order is open: masks, what is hidden, what is current -/
namespace Go.Proofs.YtceobmnljdhkmaaGreatDoor.Ev
open Go
-- masks: what must have come up ahead of an operation
theorem maskOf_test (acc : List Nat) (l : List Nat) (j : Nat) : (maskOf acc l).testBit j = true ↔ ∃ e ∈ l, j = e ∨ (acc.getD e 0).testBit j = true := by
  have : ∀ (l : List Nat) (s : Nat), (l.foldl (fun s e => Nat.lor s (Nat.lor (Nat.pow 2 e) (acc.getD e 0))) s).testBit j = true ↔ s.testBit j = true ∨ ∃ e ∈ l, j = e ∨ (acc.getD e 0).testBit j = true := by
    intro l
    induction l with
    | nil => intro s; simp
    | cons e l ih =>
      intro s
      rw [List.foldl_cons, ih]
      have e1 : (Nat.lor s (Nat.lor (Nat.pow 2 e) (acc.getD e 0))).testBit j = (s.testBit j || (Nat.testBit (2 ^ e) j || (acc.getD e 0).testBit j)) := by
        show (s ||| (2 ^ e ||| acc.getD e 0)).testBit j = _
        rw [Nat.testBit_or, Nat.testBit_or]
      rw [e1, Nat.testBit_two_pow]
      simp only [Bool.or_eq_true, decide_eq_true_eq, List.mem_cons]
      constructor
      · rintro ((h | h | h) | ⟨x, hx, h⟩)
        · exact .inl h
        · exact .inr ⟨e, .inl rfl, .inl h.symm⟩
        · exact .inr ⟨e, .inl rfl, .inr h⟩
        · exact .inr ⟨x, .inr hx, h⟩
      · rintro (h | ⟨x, rfl | hx, h⟩)
        · exact .inl (.inl h)
        · rcases h with h | h
          · exact .inl (.inr (.inl h.symm))
          · exact .inl (.inr (.inr h))
        · exact .inr ⟨x, hx, h⟩
  simpa [maskOf] using this l 0
theorem masksL_get : ∀ (l : List Oper) (acc : List Nat) (i : Nat), i < acc.length → (masksL l acc).getD i 0 = acc.getD i 0 := by
  intro l
  induction l with
  | nil => intro acc i _; rfl
  | cons o l ih => intro acc i h; unfold masksL; rw [ih _ _ (by simp; omega)]; simp [List.getD_eq_getElem?_getD, List.getElem?_append_left h]
theorem masksL_new : ∀ (l : List Oper) (acc : List Nat) (i : Nat) (o : Oper), l[i]? = some o → (masksL l acc).getD (acc.length + i) 0 = maskOf ((masksL l acc).take (acc.length + i)) (needsB o) := by
  intro l
  induction l with
  | nil => intro acc i o h; simp at h
  | cons x l ih =>
    intro acc i o h
    cases i with
    | zero =>
      simp at h; subst h
      unfold masksL
      rw [masksL_get _ _ _ (by simp)]
      have : (masksL l (acc ++ [maskOf acc (needsB x)])).take (acc.length + 0) = acc := by
        have key : ∀ (l : List Oper) (acc : List Nat) (n : Nat), n ≤ acc.length → (masksL l acc).take n = acc.take n := by
          intro l
          induction l with
          | nil => intro acc n _; rfl
          | cons y l ih => intro acc n hn; unfold masksL; rw [ih _ _ (by simp; omega), List.take_append_of_le_length hn]
        rw [key _ _ _ (by simp)]; simp
      rw [this]; simp
    | succ i =>
      unfold masksL
      have := ih (acc ++ [maskOf acc (needsB x)]) i o (by simpa using h)
      simp only [List.length_append, List.length_cons, List.length_nil] at this
      rw [show acc.length + (i + 1) = acc.length + (0 + 1) + i by omega]; exact this
/-- Whatever a set of operations holds that holds what each of them needs. -/
def Closed (ops : List Oper) (D : Nat → Prop) : Prop := ∀ i o, ops[i]? = some o → D i → ∀ m ∈ needsB o, D m
theorem mask_in {ops : List Oper} (hlow : ∀ i o, ops[i]? = some o → ∀ m ∈ needsB o, m < i) {D : Nat → Prop} (hD : Closed ops D) : ∀ (i : Nat) (o : Oper), ops[i]? = some o → (∀ m ∈ needsB o, D m) → ∀ j, ((masksL ops []).getD i 0).testBit j = true → D j := by
  intro i
  induction i using Nat.strongRecOn with
  | _ i ih =>
    intro o ho hn j hj
    have e := masksL_new ops [] i o ho
    simp only [List.length_nil, Nat.zero_add] at e
    rw [e, maskOf_test] at hj
    obtain ⟨m, hm, rfl | hj⟩ := hj
    · exact hn _ hm
    · have hlt := hlow i o ho m hm
      have hms : m < ops.length := by
        have := (List.getElem?_eq_some_iff.1 ho).1; omega
      have hget : ((masksL ops []).take i).getD m 0 = (masksL ops []).getD m 0 := by
        simp [List.getD_eq_getElem?_getD, hlt]
      rw [hget] at hj
      exact ih m hlt ops[m] (by simp [hms]) (fun q hq => hD m _ (by simp [hms]) (hn m hm) q hq) j hj
-- what is hidden
theorem inHid_spec {n : Nat} : ∀ {l : List (Nat × Nat)}, inHid n l = true → ∃ p ∈ l, p.1 ≤ n ∧ n < p.2 := by
  intro l
  induction l with
  | nil => intro h; cases h
  | cons p l ih =>
    intro h
    have h : Bool.rec (motive := fun _ => Bool) (inHid n l) (Bool.rec (motive := fun _ => Bool) true (inHid n l) (Nat.ble p.2 n)) (Nat.ble p.1 n) = true := h
    cases h1 : Nat.ble p.1 n with
    | false => rw [h1] at h; obtain ⟨q, hq, h2⟩ := ih h; exact ⟨q, by simp [hq], h2⟩
    | true =>
      rw [h1] at h
      cases h2 : Nat.ble p.2 n with
      | true => rw [h2] at h; obtain ⟨q, hq, h3⟩ := ih h; exact ⟨q, by simp [hq], h3⟩
      | false =>
        refine ⟨p, by simp, Nat.le_of_ble_eq_true h1, ?_⟩
        rcases Nat.lt_or_ge n p.2 with h3 | h3
        · exact h3
        · rw [Nat.ble_eq_true_of_le h3] at h2; cases h2
/-- A number is out of sight. -/
def Out' (l : List (Nat × Nat)) (n : Nat) : Prop := ∃ p ∈ l, p.1 ≤ n ∧ n < p.2
theorem addR_out {r : Rec} {l : List (Nat × Nat)} {n : Nat} (h : Out' l n ∨ Out' r.wr n ∨ (r.n0 ≤ n ∧ n < r.n1)) : Out' (addR r l) n := by
  unfold addR
  rw [appR_eq]
  rcases h with ⟨p, hp, h⟩ | ⟨p, hp, h⟩ | ⟨h1, h2⟩
  · refine ⟨p, ?_, h⟩
    cases Nat.ble r.n1 r.n0
    · exact List.mem_append_right _ (List.mem_cons_of_mem _ hp)
    · exact List.mem_append_right _ hp
  · exact ⟨p, List.mem_append_left _ hp, h⟩
  · have : Nat.ble r.n1 r.n0 = false := by
      cases hb : Nat.ble r.n1 r.n0 with
      | false => rfl
      | true => have := Nat.le_of_ble_eq_true hb; omega
    rw [this]
    exact ⟨(r.n0, r.n1), List.mem_append_right _ (by simp), h1, h2⟩
theorem hideR_out {n : Nat} : ∀ (us : List Bool) (rs : List Rec) (b : List (Nat × Nat)) (k : Nat) (r : Rec), us[k]? = some true → rs[k]? = some r → (Out' r.wr n ∨ (r.n0 ≤ n ∧ n < r.n1)) → Out' (hideR us rs b) n := by
  intro us
  induction us with
  | nil => intro rs b k r h; simp at h
  | cons u us ih =>
    intro rs b k r hu hr h
    cases rs with
    | nil => simp at hr
    | cons r0 rs =>
      have e : hideR (u :: us) (r0 :: rs) b = Bool.rec (motive := fun _ => List (Nat × Nat)) (hideR us rs b) (addR r0 (hideR us rs b)) u := rfl
      rw [e]
      cases k with
      | zero =>
        simp at hu hr; subst hu hr
        exact addR_out (.inr h)
      | succ k =>
        have := ih rs b k r (by simpa using hu) (by simpa using hr) h
        cases u with
        | false => exact this
        | true => exact addR_out (.inl this)
theorem addR_bound {r : Rec} {l : List (Nat × Nat)} {B : Nat} (h1 : r.n1 ≤ B) (h2 : ∀ p ∈ r.wr, p.2 ≤ B) (h3 : ∀ p ∈ l, p.2 ≤ B) : ∀ p ∈ addR r l, p.2 ≤ B := by
  intro p hp
  unfold addR at hp
  rw [appR_eq] at hp
  rcases List.mem_append.1 hp with hp | hp
  · exact h2 p hp
  · cases hb : Nat.ble r.n1 r.n0 with
    | true => rw [hb] at hp; exact h3 p hp
    | false =>
      rw [hb] at hp
      rcases List.mem_cons.1 hp with rfl | hp
      · exact h1
      · exact h3 p hp
theorem hideR_bound {B : Nat} : ∀ (us : List Bool) (rs : List Rec) (b : List (Nat × Nat)), (∀ r ∈ rs, r.n1 ≤ B ∧ ∀ p ∈ r.wr, p.2 ≤ B) → (∀ p ∈ b, p.2 ≤ B) → ∀ p ∈ hideR us rs b, p.2 ≤ B := by
  intro us
  induction us with
  | nil => intro rs b _ hb; exact hb
  | cons u us ih =>
    intro rs b hr hb
    cases rs with
    | nil => exact hb
    | cons r0 rs =>
      have e : hideR (u :: us) (r0 :: rs) b = Bool.rec (motive := fun _ => List (Nat × Nat)) (hideR us rs b) (addR r0 (hideR us rs b)) u := rfl
      rw [e]
      have h1 := ih rs b (fun r h => hr r (by simp [h])) hb
      cases u with
      | false => exact h1
      | true => exact addR_bound (hr r0 (by simp)).1 (hr r0 (by simp)).2 h1
theorem chkR_spec {n : Nat} : ∀ (us : List Bool) (rs : List Rec) (k : Nat) (r : Rec), chkR n us rs = true → us[k]? = some true → rs[k]? = some r → r.n0 ≤ n ∨ Out' r.hid n := by
  intro us
  induction us with
  | nil => intro rs k r _ h; simp at h
  | cons u us ih =>
    intro rs k r h hu hr
    cases rs with
    | nil => simp at hr
    | cons r0 rs =>
      have h : Bool.rec (motive := fun _ => Bool) (chkR n us rs) (Bool.rec (motive := fun _ => Bool) (Bool.rec (motive := fun _ => Bool) false (chkR n us rs) (inHid n r0.hid)) (chkR n us rs) (Nat.ble r0.n0 n)) u = true := h
      have hrest : chkR n us rs = true := by
        cases u with
        | false => exact h
        | true =>
          cases h1 : Nat.ble r0.n0 n with
          | true => rw [h1] at h; exact h
          | false =>
            rw [h1] at h
            cases h2 : inHid n r0.hid with
            | true => rw [h2] at h; exact h
            | false => rw [h2] at h; cases h
      cases k with
      | zero =>
        simp at hu hr; subst hu hr
        cases h1 : Nat.ble r0.n0 n with
        | true => exact .inl (Nat.le_of_ble_eq_true h1)
        | false =>
          rw [h1] at h
          cases h2 : inHid n r0.hid with
          | true => exact .inr (inHid_spec h2)
          | false => rw [h2] at h; cases h
      | succ k => exact ih rs k r hrest (by simpa using hu) (by simpa using hr)
-- loads beside what may write
theorem okX_spec {x : Id} : ∀ (us : List Bool) (rs : List Rec) (k : Nat) (r : Rec), okX x us rs = true → us[k]? = some true → rs[k]? = some r → x.nat < r.n0 ∧ (r.wild = true → Tr.find x r.h0 = Tr.find x r.h1) := by
  intro us
  induction us with
  | nil => intro rs k r _ h; simp at h
  | cons u us ih =>
    intro rs k r h hu hr
    cases rs with
    | nil => simp at hr
    | cons r0 rs =>
      have h : Bool.rec (motive := fun _ => Bool) (okX x us rs) (Bool.rec (motive := fun _ => Bool) false (okX x us rs) (keepsB x r0)) u = true := h
      cases k with
      | zero =>
        simp at hu hr; subst hu hr
        cases hk : keepsB x r0 with
        | false => rw [hk] at h; cases h
        | true =>
          have hk : Bool.rec (motive := fun _ => Bool) false (Bool.rec (motive := fun _ => Bool) true (eqB (Tr.find x r0.h0) (Tr.find x r0.h1)) r0.wild) (Nat.ble (Nat.succ x.nat) r0.n0) = true := hk
          cases hb : Nat.ble (Nat.succ x.nat) r0.n0 with
          | false => rw [hb] at hk; cases hk
          | true =>
            rw [hb] at hk
            refine ⟨Nat.le_of_ble_eq_true hb, fun hw => ?_⟩
            rw [hw] at hk
            exact eqB_spec hk
      | succ k =>
        refine ih rs k r ?_ (by simpa using hu) (by simpa using hr)
        cases u with
        | false => exact h
        | true =>
          cases hk : keepsB x r0 with
          | false => rw [hk] at h; cases h
          | true => rw [hk] at h; exact h
theorem chkW_spec {h0 h1 : Tr} : ∀ (us : List Bool) (rs : List Rec) (k : Nat) (r : Rec) (x : Id), chkW h0 h1 us rs = true → us[k]? = some true → rs[k]? = some r → r.rd = some x → Tr.find x h0 = Tr.find x h1 := by
  intro us
  induction us with
  | nil => intro rs k r x _ h; simp at h
  | cons u us ih =>
    intro rs k r x h hu hr hx
    cases rs with
    | nil => simp at hr
    | cons r0 rs =>
      have h : Bool.rec (motive := fun _ => Bool) (chkW h0 h1 us rs) (Option.rec (motive := fun _ => Bool) (chkW h0 h1 us rs) (fun x => Bool.rec (motive := fun _ => Bool) false (chkW h0 h1 us rs) (eqB (Tr.find x h0) (Tr.find x h1))) r0.rd) u = true := h
      cases k with
      | zero =>
        simp at hu hr; subst hu hr
        rw [hx] at h
        have h : Bool.rec (motive := fun _ => Bool) false (chkW h0 h1 us rs) (eqB (Tr.find x h0) (Tr.find x h1)) = true := h
        cases hb : eqB (Tr.find x h0) (Tr.find x h1) with
        | false => rw [hb] at h; cases h
        | true => exact eqB_spec hb
      | succ k =>
        refine ih rs k r x ?_ (by simpa using hu) (by simpa using hr) hx
        cases u with
        | false => exact h
        | true =>
          cases hd : r0.rd with
          | none => rw [hd] at h; exact h
          | some y =>
            rw [hd] at h
            have h : Bool.rec (motive := fun _ => Bool) false (chkW h0 h1 us rs) (eqB (Tr.find y h0) (Tr.find y h1)) = true := h
            cases hb : eqB (Tr.find y h0) (Tr.find y h1) with
            | false => rw [hb] at h; cases h
            | true => rw [hb] at h; exact h
theorem complR_bound {n : Nat} {x : Option Id} (h : ∀ id, x = some id → id.nat ≤ n) : ∀ p ∈ complR n x, p.2 ≤ n := by
  cases x with
  | none => intro p hp; have hp : p ∈ [(0, n)] := hp; rw [List.mem_singleton.1 hp]; exact Nat.le_refl _
  | some x =>
    intro p hp
    have hp : p ∈ [(0, x.nat), (x.nat + 1, n)] := hp
    rcases List.mem_cons.1 hp with rfl | hp
    · exact h x rfl
    · rw [List.mem_singleton.1 hp]; exact Nat.le_refl _
theorem complR_out {n : Nat} {x : Option Id} {k : Nat} (hk : k < n) (h : ∀ id, x = some id → k ≠ id.nat) : Out' (complR n x) k := by
  cases x with
  | none => exact ⟨(0, n), by simp [complR], Nat.zero_le _, hk⟩
  | some x =>
    have := h x rfl
    rcases Nat.lt_or_ge k x.nat with h1 | h1
    · exact ⟨(0, x.nat), by simp [complR], Nat.zero_le _, h1⟩
    · exact ⟨(x.nat + 1, n), by simp [complR], by show x.nat + 1 ≤ k; omega, hk⟩
-- what is current, when some of the operations have come up
open Classical in
/-- The block at a number: as the last of the listed operations that turned it has left it. -/
noncomputable def cur (T : Nat → Tr) (D : Nat → Prop) (id : Id) : Nat → Option Blk
  | 0 => Tr.find id (T 0)
  | m + 1 => if D m ∧ Tr.find id (T (m + 1)) ≠ Tr.find id (T m) then Tr.find id (T (m + 1)) else cur T D id m
open Classical in
/-- The level of what lies there: below which number all numbers in it are. -/
noncomputable def lev (T : Nat → Tr) (N : Nat → Nat) (D : Nat → Prop) (id : Id) : Nat → Nat
  | 0 => N 0
  | m + 1 => if D m ∧ Tr.find id (T (m + 1)) ≠ Tr.find id (T m) then N (m + 1) else lev T N D id m
open Classical in
/-- A slot's value. -/
noncomputable def slv (v0 : Value) (dst : Nat → Option Tmp) (vals : Nat → Value) (D : Nat → Prop) (t : Nat) : Nat → Value
  | 0 => v0
  | m + 1 => if D m ∧ dst m = some t then vals m else slv v0 dst vals D t m
/-- The part of a map below a number. -/
noncomputable def Map.below (Γ : Map) (n : Nat) : Map := fun id => if id.nat < n then Γ id else none
theorem Map.below_le (Γ : Map) {m n : Nat} (h : m ≤ n) : Map.le (Γ.below m) (Γ.below n) := fun id p e => by
  unfold Map.below at e ⊢
  split at e
  · rw [if_pos (by omega)]; exact e
  · cases e
theorem Map.below_mono {Γ Γ' : Map} (h : Map.le Γ Γ') (n : Nat) : Map.le (Γ.below n) (Γ'.below n) := fun id p e => by
  unfold Map.below at e ⊢
  split at e
  · rename_i hlt; rw [if_pos hlt]; exact h id p e
  · cases e
theorem Map.below_in {Γ : Map} {n : Nat} {id : Id} {p : Nat × Nat} (h : Γ id = some p) (hn : id.nat < n) : Γ.below n id = some p := by
  unfold Map.below; rw [if_pos hn]; exact h
theorem Map.below_of {Γ : Map} {n : Nat} {id : Id} {p : Nat × Nat} (h : Γ.below n id = some p) : id.nat < n ∧ Γ id = some p := by
  unfold Map.below at h
  split at h
  · exact ⟨by assumption, h⟩
  · cases h
section
variable {T : Nat → Tr} {N : Nat → Nat} {D : Nat → Prop} {id : Id}
/-- Operation m has turned the block at a number. -/
def Chg (T : Nat → Tr) (id : Id) (m : Nat) : Prop := Tr.find id (T (m + 1)) ≠ Tr.find id (T m)
theorem cur_neg {m : Nat} (h : ¬ (D m ∧ Chg T id m)) : cur T D id (m + 1) = cur T D id m := if_neg h
theorem cur_pos {m : Nat} (h : D m ∧ Chg T id m) : cur T D id (m + 1) = Tr.find id (T (m + 1)) := if_pos h
theorem lev_neg {m : Nat} (h : ¬ (D m ∧ Chg T id m)) : lev T N D id (m + 1) = lev T N D id m := if_neg h
theorem lev_pos {m : Nat} (h : D m ∧ Chg T id m) : lev T N D id (m + 1) = N (m + 1) := if_pos h
theorem cur_same {i : Nat} (h : ∀ m, m < i → Chg T id m → D m) : cur T D id i = Tr.find id (T i) := by
  induction i with
  | zero => rfl
  | succ i ih =>
    by_cases hc : D i ∧ Chg T id i
    · exact cur_pos hc
    · rw [cur_neg hc, ih fun m hm => h m (by omega)]
      by_cases e : Tr.find id (T (i + 1)) = Tr.find id (T i)
      · exact e.symm
      · exact absurd ⟨h i (by omega) e, e⟩ hc
theorem cur_stay {i n : Nat} (hin : i ≤ n) (h : ∀ m, i ≤ m → m < n → ¬ (D m ∧ Chg T id m)) : cur T D id n = cur T D id i := by
  induction n with
  | zero => have : i = 0 := by omega
            rw [this]
  | succ n ih =>
    rcases Nat.lt_or_ge n i with h' | h'
    · have : i = n + 1 := by omega
      rw [this]
    · rw [← ih h' (fun m h1 h2 => h m h1 (by omega))]
      exact cur_neg (h n h' (by omega))
theorem lev_stay {i n : Nat} (hin : i ≤ n) (h : ∀ m, i ≤ m → m < n → ¬ (D m ∧ Chg T id m)) : lev T N D id n = lev T N D id i := by
  induction n with
  | zero => have : i = 0 := by omega
            rw [this]
  | succ n ih =>
    rcases Nat.lt_or_ge n i with h' | h'
    · have : i = n + 1 := by omega
      rw [this]
    · rw [← ih h' (fun m h1 h2 => h m h1 (by omega))]
      exact lev_neg (h n h' (by omega))
theorem lev_le {i : Nat} (hN : ∀ m, m < i → N m ≤ N (m + 1)) : lev T N D id i ≤ N i := by
  induction i with
  | zero => exact Nat.le_refl _
  | succ i ih =>
    by_cases hc : D i ∧ Chg T id i
    · rw [lev_pos hc]; exact Nat.le_refl _
    · rw [lev_neg hc]; exact Nat.le_trans (ih fun m hm => hN m (by omega)) (hN i (by omega))
/-- One more operation is listed: a block that it has not turned is as it was; one that it has turned is as it has left it, if nobody listed has turned it behind. -/
theorem cur_more {D' : Nat → Prop} {i : Nat} (hD : ∀ m, D' m ↔ (D m ∨ m = i)) (hc : ¬ Chg T id i) (n : Nat) : cur T D' id n = cur T D id n := by
  induction n with
  | zero => rfl
  | succ n ih =>
    by_cases hn : D n ∧ Chg T id n
    · rw [cur_pos hn, cur_pos (D := D') ⟨(hD n).2 (.inl hn.1), hn.2⟩]
    · have hn' : ¬ (D' n ∧ Chg T id n) := fun h => by
        rcases (hD n).1 h.1 with h1 | h1
        · exact hn ⟨h1, h.2⟩
        · subst h1; exact hc h.2
      rw [cur_neg hn, cur_neg hn']; exact ih
theorem lev_more {D' : Nat → Prop} {i : Nat} (hD : ∀ m, D' m ↔ (D m ∨ m = i)) (hc : ¬ Chg T id i) (n : Nat) : lev T N D' id n = lev T N D id n := by
  induction n with
  | zero => rfl
  | succ n ih =>
    by_cases hn : D n ∧ Chg T id n
    · rw [lev_pos hn, lev_pos (D := D') ⟨(hD n).2 (.inl hn.1), hn.2⟩]
    · have hn' : ¬ (D' n ∧ Chg T id n) := fun h => by
        rcases (hD n).1 h.1 with h1 | h1
        · exact hn ⟨h1, h.2⟩
        · subst h1; exact hc h.2
      rw [lev_neg hn, lev_neg hn']; exact ih
theorem cur_new {D' : Nat → Prop} {i n : Nat} (hD : ∀ m, D' m ↔ (D m ∨ m = i)) (hc : Chg T id i) (hin : i < n) (h : ∀ m, i < m → m < n → ¬ (D m ∧ Chg T id m)) : cur T D' id n = Tr.find id (T (i + 1)) := by
  have h' : ∀ m, i + 1 ≤ m → m < n → ¬ (D' m ∧ Chg T id m) := fun m h1 h2 h3 => by
    rcases (hD m).1 h3.1 with h4 | h4
    · exact h m (by omega) h2 ⟨h4, h3.2⟩
    · omega
  rw [cur_stay (by omega : i + 1 ≤ n) h', cur_pos ⟨(hD i).2 (.inr rfl), hc⟩]
theorem lev_new {D' : Nat → Prop} {i n : Nat} (hD : ∀ m, D' m ↔ (D m ∨ m = i)) (hc : Chg T id i) (hin : i < n) (h : ∀ m, i < m → m < n → ¬ (D m ∧ Chg T id m)) : lev T N D' id n = N (i + 1) := by
  have h' : ∀ m, i + 1 ≤ m → m < n → ¬ (D' m ∧ Chg T id m) := fun m h1 h2 h3 => by
    rcases (hD m).1 h3.1 with h4 | h4
    · exact h m (by omega) h2 ⟨h4, h3.2⟩
    · omega
  rw [lev_stay (by omega : i + 1 ≤ n) h', lev_pos ⟨(hD i).2 (.inr rfl), hc⟩]
theorem slv_neg {v0 : Value} {dst : Nat → Option Tmp} {vals : Nat → Value} {t m : Nat} (h : ¬ (D m ∧ dst m = some t)) : slv v0 dst vals D t (m + 1) = slv v0 dst vals D t m := if_neg h
theorem slv_pos {v0 : Value} {dst : Nat → Option Tmp} {vals : Nat → Value} {t m : Nat} (h : D m ∧ dst m = some t) : slv v0 dst vals D t (m + 1) = vals m := if_pos h
theorem slv_stay {v0 : Value} {dst : Nat → Option Tmp} {vals : Nat → Value} {t i n : Nat} (hin : i ≤ n) (h : ∀ m, i ≤ m → m < n → ¬ (D m ∧ dst m = some t)) : slv v0 dst vals D t n = slv v0 dst vals D t i := by
  induction n with
  | zero => have : i = 0 := by omega
            rw [this]
  | succ n ih =>
    rcases Nat.lt_or_ge n i with h' | h'
    · have : i = n + 1 := by omega
      rw [this]
    · rw [← ih h' (fun m h1 h2 => h m h1 (by omega))]
      exact slv_neg (h n h' (by omega))
/-- One more operation is listed: its slot. -/
theorem slv_more {D' : Nat → Prop} {v0 : Value} {dst : Nat → Option Tmp} {vals vals' : Nat → Value} {t i n : Nat} (hD : ∀ m, D' m ↔ (D m ∨ m = i)) (hv : ∀ m, m ≠ i → vals' m = vals m) (hi : ¬ D i) (hc : dst i ≠ some t) : slv v0 dst vals' D' t n = slv v0 dst vals D t n := by
  induction n with
  | zero => rfl
  | succ n ih =>
    by_cases hn : D n ∧ dst n = some t
    · rw [slv_pos hn, slv_pos (D := D') ⟨(hD n).2 (.inl hn.1), hn.2⟩]
      exact hv n fun e => hi (e ▸ hn.1)
    · rw [slv_neg hn, slv_neg (D := D') ?_, ih]
      rintro ⟨h1, h2⟩
      rcases (hD n).1 h1 with h3 | h3
      · exact hn ⟨h3, h2⟩
      · subst h3; exact hc h2
theorem slv_new {D' : Nat → Prop} {v0 : Value} {dst : Nat → Option Tmp} {vals : Nat → Value} {t i n : Nat} (hD : ∀ m, D' m ↔ (D m ∨ m = i)) (hc : dst i = some t) (hin : i < n) (h : ∀ m, i < m → m < n → ¬ (D m ∧ dst m = some t)) : slv v0 dst vals D' t n = vals i := by
  have h' : ∀ m, i + 1 ≤ m → m < n → ¬ (D' m ∧ dst m = some t) := fun m h1 h2 h3 => by
    rcases (hD m).1 h3.1 with h4 | h4
    · exact h m (by omega) h2 ⟨h4, h3.2⟩
    · omega
  rw [slv_stay (by omega : i + 1 ≤ n) h', slv_pos ⟨(hD i).2 (.inr rfl), hc⟩]
end
end Go.Proofs.YtceobmnljdhkmaaGreatDoor.Ev
/- statements whose order is open: the invariant -/
namespace Go.Proofs.YtceobmnljdhkmaaGreatDoor.Ev
open Go
variable {r : AV × St} {P : Program}
theorem plansOf_get {ops : List Oper} {i : Nat} {o : Oper} (h : ops[i]? = some o) : (plansOf ops)[i]? = some (o, planOf ops (masksL ops []) i) := by
  have hi : i < ops.length := (List.getElem?_eq_some_iff.1 h).1
  unfold plansOf
  rw [List.getElem?_zip_eq_some]
  exact ⟨h, by simp [hi]⟩
theorem plansOf_len (ops : List Oper) : (plansOf ops).length = ops.length := by simp [plansOf]
/-- A run over a statement whose order is open, operation by operation in the text's order. -/
structure Way0 (P : Program) (pr : Prims) (all : Array Oper) (ih : IH) (V : Env) (ops : List Oper) (S : Nat → Snap) (av : Nat → AV) : Prop where
  eq : all.toList = ops
  low : ∀ i o, ops[i]? = some o → ∀ m ∈ needsB o, m < i
  dsts : ∀ i j oi oj d, ops[i]? = some oi → ops[j]? = some oj → j < i → ordB (masksL ops []) j i = false → oi.dst = some d → oj.dst ≠ some d
  step : ∀ i o, ops[i]? = some o → Trans P pr all ih V o (planOf ops (masksL ops []) i) (S i) (av i) (S (i + 1))
  ro : ∀ i, i ≤ ops.length → (S i).st.ro = (S 0).st.ro
  roN : (S 0).st.ro ≤ (S 0).n
  hid : ∀ i, i ≤ ops.length → (S i).st.hid = (S 0).st.hid
  rec0 : (S 0).recs = []
theorem openOK_spec {ops : List Oper} (h : openOK ops = true) : (∀ i o, ops[i]? = some o → ∀ m ∈ needsB o, m < i) ∧ (∀ i j oi oj d, ops[i]? = some oi → ops[j]? = some oj → j < i → ordB (masksL ops []) j i = false → oi.dst = some d → oj.dst ≠ some d) := by
  unfold openOK at h
  rw [List.all_eq_true] at h
  refine ⟨fun i o ho m hm => ?_, fun i j oi oj d hoi hoj hji hor hd hd2 => ?_⟩
  · have hi : i < ops.length := (List.getElem?_eq_some_iff.1 ho).1
    have := h i (List.mem_range.2 hi)
    rw [ho] at this
    simp only [Bool.and_eq_true, List.all_eq_true, decide_eq_true_eq] at this
    exact this.1.1 m hm
  · have hi : i < ops.length := (List.getElem?_eq_some_iff.1 hoi).1
    have := h i (List.mem_range.2 hi)
    rw [hoi] at this
    simp only [Bool.and_eq_true, List.all_eq_true, decide_eq_true_eq, Bool.or_eq_true] at this
    rcases this.2 j (List.mem_range.2 hji) with (h1 | h1) | h1
    · rw [hor] at h1; cases h1
    · rw [hd] at h1; cases h1
    · rw [hd, hoj] at h1
      simp [hd2] at h1
section
variable {pr : Prims} {all : Array Oper} {ih : IH} {V : Env} {ops : List Oper} {S : Nat → Snap} {av : Nat → AV} (W : Way0 P pr all ih V ops S av)
include W
theorem Way0.trans_of {i : Nat} (hi : i < ops.length) : ∃ o, ops[i]? = some o ∧ Trans P pr all ih V o (planOf ops (masksL ops []) i) (S i) (av i) (S (i + 1)) := ⟨ops[i], by simp [hi], W.step i _ (by simp [hi])⟩
/-- The note on operation j. -/
theorem Way0.recs {i : Nat} (hi : i ≤ ops.length) : ∀ j, j < i → ∃ R, (S i).recs[i - 1 - j]? = some R ∧ (S (j + 1)).recs = R :: (S j).recs ∧ (S i).recs.length = i := by
  induction i with
  | zero => intro j h; omega
  | succ i ih' =>
    intro j hj
    obtain ⟨o, ho, ht⟩ := W.trans_of (show i < ops.length by omega)
    have hcons : ∃ R, (S (i + 1)).recs = R :: (S i).recs := by
      obtain ⟨_, want, _, hw⟩ := ht
      cases hw with
      | pass _ _ hr => exact ⟨_, hr⟩
      | tot _ _ _ _ _ hr => exact ⟨_, hr⟩
      | ext _ _ _ _ _ _ hr => exact ⟨_, hr⟩
      | shy _ _ _ _ _ _ hr => exact ⟨_, hr⟩
      | sto _ _ _ _ _ _ _ _ _ _ _ _ _ _ _ _ _ _ _ _ _ _ hr => exact ⟨_, hr⟩
    obtain ⟨R, hR⟩ := hcons
    have hlen : (S i).recs.length = i := by
      cases i with
      | zero => rw [W.rec0]; rfl
      | succ i => exact (ih' (by omega) i (by omega)).choose_spec.2.2
    by_cases e : j = i
    · subst e
      exact ⟨R, by rw [hR]; simp, hR, by rw [hR]; simp [hlen]⟩
    · obtain ⟨R', h1, h2, _⟩ := ih' (by omega) j (by omega)
      refine ⟨R', ?_, h2, by rw [hR]; simp [hlen]⟩
      rw [hR, show i + 1 - 1 - j = (i - 1 - j) + 1 by omega]
      simpa using h1
end
theorem un_get {ops : List Oper} {ms : List Nat} {i j : Nat} (h : j < i) : (planOf ops ms i).un[i - 1 - j]? = some (!ordB ms j i) := by
  unfold planOf
  simp only [List.getElem?_map]
  rw [List.getElem?_reverse (by simp; omega)]
  simp only [List.length_range]
  rw [show i - 1 - (i - 1 - j) = j by omega, List.getElem?_range h]
  rfl
theorem ordB_comm (ms : List Nat) (i j : Nat) (h : i ≠ j) : ordB ms i j = ordB ms j i := by
  unfold ordB
  by_cases h1 : i < j
  · rw [if_pos h1, if_neg (by omega)]
  · rw [if_neg h1, if_pos (by omega)]
theorem tot_ord {ops : List Oper} {ms : List Nat} {i m : Nat} (h : (planOf ops ms i).tot = true) (hm : m < ops.length) (hne : m ≠ i) : ordB ms m i = true ∨ shyB ops m = true := by
  unfold planOf at h
  simp only [List.all_eq_true, List.mem_range, Bool.or_eq_true, beq_iff_eq, Bool.and_eq_true] at h
  rcases h.2 m hm with (h1 | h1) | h1
  · exact absurd h1 hne
  · exact .inl h1
  · exact .inr h1
theorem tot_shy {ops : List Oper} {ms : List Nat} {i : Nat} (h : (planOf ops ms i).tot = true) : shyB ops i = false := by
  unfold planOf at h
  simp only [Bool.and_eq_true, Bool.not_eq_true'] at h
  exact h.1
theorem shy_of {ops : List Oper} {i : Nat} {o : Oper} (ho : ops[i]? = some o) : shyB ops i = (shyOp o.op).isSome := by
  unfold shyB; rw [ho]
theorem del_mem {ops : List Oper} {ms : List Nat} {i m : Nat} {o : Oper} {t : Nat} (hm : ops[m]? = some o) (hne : m ≠ i) (hu : ordB ms m i = false) (hd : o.dst = some t) : t ∈ (planOf ops ms i).del := by
  unfold planOf
  simp only [List.mem_filterMap, List.mem_range]
  refine ⟨m, (List.getElem?_eq_some_iff.1 hm).1, ?_⟩
  rw [if_pos (by simp [hne, hu]), hm]
  exact hd
/-- What is known of an operation once it has come up somewhere. -/
structure Fact (S : Nat → Snap) (tot : Nat → Bool) (j : Nat) : Prop where
  mono : (S j).n ≤ (S (j + 1)).n
  top : ∀ id : Id, (S (j + 1)).n ≤ id.nat → Tr.find id (S (j + 1)).st.heap = none
  wr : tot j = false → ∀ id : Id, id.nat < (S j).n → Chg (fun i => (S i).st.heap) id j → ∀ R, (S (j + 1)).recs = R :: (S j).recs → Out' R.wr id.nat
  prot : ∀ id : Id, id.nat < (S j).n → (id.nat < (S 0).st.ro ∨ ¬ (S 0).st.vis id ∨ ∃ R, (S (j + 1)).recs = R :: (S j).recs ∧ Out' R.hid id.nat) → ¬ Chg (fun i => (S i).st.heap) id j
/-- The invariant: D are the operations that have come up. -/
structure DInv (ops : List Oper) (S : Nat → Snap) (av : Nat → AV) (Γ : Map) (a : Act) (w : World) (D : Nat → Prop) (a' : Act) (w' : World) (ψ : Map) (vals : Nat → Value) : Prop where
  clo : Closed ops D
  in_ : ∀ i, D i → i < ops.length
  size : a'.tmps.size = a.tmps.size
  dfr : a'.defers = a.defers
  slot : ∀ t, a'.tmps.getD t undef = slv (a.tmps.getD t undef) (fun m => (ops[m]?).bind (·.dst)) vals D t ops.length
  res : ∀ j, D j → CR (ψ.below (S (j + 1)).n) (av j) (vals j)
  blk : ∀ id b, (S 0).st.vis id → cur (fun i => (S i).st.heap) D id ops.length = some b → ∃ p s, ψ id = some (p, s) ∧ p < w'.heap.size ∧ BR (ψ.below (lev (fun i => (S i).st.heap) (fun i => (S i).n) D id ops.length)) b s w'.heap[p]?
  inj : ∀ id id' b b' p s s', (S 0).st.vis id → (S 0).st.vis id' → cur (fun i => (S i).st.heap) D id ops.length = some b → cur (fun i => (S i).st.heap) D id' ops.length = some b' → ψ id = some (p, s) → ψ id' = some (p, s') → id = id'
  dom : ∀ id q, ψ id = some q → id.nat < (S 0).n ∨ ∃ j, D j ∧ (S j).n ≤ id.nat ∧ id.nat < (S (j + 1)).n
  base : ∀ id, id.nat < (S 0).n → ψ id = Γ id
  os : w'.os = w.os
  tape : w'.tape = w.tape
  output : w'.output = w.output
  hsize : w.heap.size ≤ w'.heap.size
  frame : ∀ q : Nat, q < w.heap.size → (∀ id b s, (S 0).st.look id b → (S 0).st.ro ≤ id.nat → Γ id ≠ some (q, s)) → w'.heap[q]? = w.heap[q]?
  wri : ∀ id b q s, (S 0).st.vis id → cur (fun i => (S i).st.heap) D id ops.length = some b → (S 0).st.ro ≤ id.nat → ψ id = some (q, s) → q < w.heap.size → ∃ id0 b0 s0, (S 0).st.look id0 b0 ∧ (S 0).st.ro ≤ id0.nat ∧ Γ id0 = some (q, s0)
  fact : ∀ j, D j → Fact S (fun i => (planOf ops (masksL ops []) i).tot) j
end Go.Proofs.YtceobmnljdhkmaaGreatDoor.Ev
/- statements whose order is open: what an operation sees -/
namespace Go.Proofs.YtceobmnljdhkmaaGreatDoor.Ev
open Go
variable {r : AV × St} {P : Program}
abbrev totB (ops : List Oper) (i : Nat) : Bool := (planOf ops (masksL ops []) i).tot
abbrev heaps (S : Nat → Snap) : Nat → Tr := fun i => (S i).st.heap
noncomputable abbrev tops (S : Nat → Snap) : Nat → Nat := fun i => (S i).n
/-- An operation is about to come up. -/
structure At (V : Env) (ops : List Oper) (S : Nat → Snap) (av : Nat → AV) (Γ : Map) (a : Act) (w : World) (D : Nat → Prop) (a' : Act) (w' : World) (ψ : Map) (vals : Nat → Value) (i : Nat) (o : Oper) : Prop where
  inv : DInv ops S av Γ a w D a' w' ψ vals
  op : ops[i]? = some o
  new : ¬ D i
  need : ∀ m ∈ needsB o, D m
  facts : ∀ m, m < i → Fact S (totB ops) m
  alls : (∀ m, D m → m < i) ∨ (∀ m, m < ops.length → Fact S (totB ops) m)
  sim0 : Sim (S 0).st Γ w
  sl0 : SlR Γ .nil V a.tmps
  L0 : (S 0).L = .nil
  dst : ∀ (m : Nat) (o : Oper) (d : Nat), ops[m]? = some o → o.dst = some d → d < a.tmps.size
section
variable {pr : Prims} {all : Array Oper} {ih : IH} {V : Env} {ops : List Oper} {S : Nat → Snap} {av : Nat → AV} (W : Way0 P pr all ih V ops S av)
variable {Γ : Map} {a : Act} {w : World} {D : Nat → Prop} {a' : Act} {w' : World} {ψ : Map} {vals : Nat → Value} {i : Nat} {o : Oper} (h : At V ops S av Γ a w D a' w' ψ vals i o)
theorem mono_of {n : Nat} (hf : ∀ m, m < n → Fact S (totB ops) m) {m k : Nat} (hmk : m ≤ k) (hk : k ≤ n) : (S m).n ≤ (S k).n := by
  induction k with
  | zero => have : m = 0 := by omega
            rw [this]; exact Nat.le_refl _
  | succ k ih' =>
    by_cases e : m = k + 1
    · rw [e]; exact Nat.le_refl _
    · exact Nat.le_trans (ih' (by omega) (by omega)) (hf k (by omega)).mono
theorem sim0_top (hs : Sim (S 0).st Γ w) (hf : ∀ m, m < i → Fact S (totB ops) m) : ∀ m, m ≤ i → ∀ id : Id, (S m).n ≤ id.nat → Tr.find id (S m).st.heap = none := by
  intro m hm id hid
  cases m with
  | zero => exact hs.top id hid
  | succ m => exact (hf m (by omega)).top id hid
include W in
theorem Way0.recN {m : Nat} (hm : m < ops.length) {R : Rec} (hR : (S (m + 1)).recs = R :: (S m).recs) : R.n0 = (S m).n ∧ R.n1 = (S (m + 1)).n ∧ R.h0 = heaps S m ∧ R.h1 = heaps S (m + 1) := by
  obtain ⟨o, ho, ht⟩ := W.trans_of hm
  obtain ⟨_, want, _, hw⟩ := ht
  cases hw with
  | pass _ hs hr => rw [hr] at hR; injection hR with hR _; rw [← hR]; exact ⟨rfl, by show (S m).n = (S (m + 1)).st.nxt.nat; rw [hs]; rfl, rfl, by show _ = (S (m + 1)).st.heap; rw [hs]⟩
  | tot st1 _ _ _ hs hr => rw [hr] at hR; injection hR with hR _; rw [← hR]; exact ⟨rfl, by show _ = (S (m + 1)).st.nxt.nat; rw [hs]; rfl, rfl, by show _ = (S (m + 1)).st.heap; rw [hs]; rfl⟩
  | ext ah _ st1 _ _ hs hr => rw [hr] at hR; injection hR with hR _; rw [← hR]; exact ⟨rfl, by show _ = (S (m + 1)).st.nxt.nat; rw [hs]; rfl, rfl, by show _ = (S (m + 1)).st.heap; rw [hs]; rfl⟩
  | shy _ _ _ st1 _ hs hr => rw [hr] at hR; injection hR with hR _; rw [← hR]; exact ⟨rfl, by show _ = (S (m + 1)).st.nxt.nat; rw [hs]; rfl, rfl, by show _ = (S (m + 1)).st.heap; rw [hs]; rfl⟩
  | sto _ _ _ _ _ _ _ _ _ _ _ _ _ _ _ _ _ _ _ _ _ hs hr => rw [hr] at hR; injection hR with hR _; rw [← hR]; exact ⟨rfl, by show _ = (S (m + 1)).st.nxt.nat; rw [hs]; rfl, rfl, rfl⟩
include W in
/-- A shy operation sees the block that it loads, and no other. -/
theorem Way0.shy {m : Nat} (hm : m < ops.length) (hin : shyB ops m = true) {R : Rec} (hR : (S (m + 1)).recs = R :: (S m).recs) : R.wr = [] ∧ R.hid = complR (S m).n R.rd ∧ ∀ id, R.rd = some id → okX id (planOf ops (masksL ops []) m).un (S m).recs = true := by
  obtain ⟨o, ho, ht⟩ := W.trans_of hm
  rw [shy_of ho] at hin
  obtain ⟨_, want, _, hw⟩ := ht
  cases hw with
  | pass _ hs hr => rw [hr] at hR; injection hR with hR _; rw [← hR]; exact ⟨rfl, rfl, fun id e => by cases e⟩
  | tot st1 h1 _ _ hs hr => have := tot_shy h1; rw [shy_of ho, hin] at this; cases this
  | ext ah _ st1 h1 _ hs hr => rw [h1.2] at hin; cases hin
  | shy x hx _ st1 _ hs hr => rw [hr] at hR; injection hR with hR _; rw [← hR]; exact ⟨rfl, rfl, fun id e => (hx id e).1⟩
  | sto _ _ _ _ _ _ h1 _ _ _ _ _ _ _ _ _ _ _ _ _ _ hs hr => rw [h1] at hin; cases hin
theorem shyTot {m : Nat} (hin : shyB ops m = true) : totB ops m = false := by
  cases ht : totB ops m with
  | false => rfl
  | true => rw [tot_shy ht] at hin; cases hin
include W in
theorem Way0.tame {m : Nat} (hm : m < ops.length) {R : Rec} (hR : (S (m + 1)).recs = R :: (S m).recs) (hw : R.wild = false) : (∀ id, ¬ Chg (heaps S) id m) ∨ (totB ops m = false ∧ R.wr = []) := by
  obtain ⟨o, ho, _, want, _, hway⟩ := W.trans_of hm
  cases hway with
  | pass _ hs hr => exact .inl fun id h => h (by show Tr.find id (S (m + 1)).st.heap = _; rw [hs])
  | tot st1 h1 _ _ hs hr => rw [hr] at hR; injection hR with hR _; rw [← hR] at hw; cases hw
  | ext ah _ st1 h1 _ hs hr => rw [hr] at hR; injection hR with hR _; rw [← hR]; exact .inr ⟨h1.1, rfl⟩
  | shy x hx h1 st1 _ hs hr => rw [hr] at hR; injection hR with hR _; rw [← hR]; exact .inr ⟨shyTot (by rw [shy_of ho]; exact h1), rfl⟩
  | sto _ _ _ _ _ _ h1 _ _ _ _ _ _ _ _ _ _ _ _ _ _ hs hr => rw [hr] at hR; injection hR with hR _; rw [← hR] at hw; cases hw
include W h
omit W in
theorem At.lt : i < ops.length := (List.getElem?_eq_some_iff.1 h.op).1
theorem At.ord_lt {m : Nat} (hm : m < i) (ho : ordB (masksL ops []) m i = true) : D m := by
  unfold ordB at ho
  rw [if_pos hm] at ho
  exact mask_in W.low h.inv.clo i o h.op h.need m ho
theorem At.ord_gt {m : Nat} (hm : i < m) (hD : D m) : ordB (masksL ops []) m i = false := by
  cases ho : ordB (masksL ops []) m i with
  | false => rfl
  | true =>
    unfold ordB at ho
    rw [if_neg (by omega)] at ho
    have hml := h.inv.in_ m hD
    exact absurd (mask_in W.low h.inv.clo m ops[m] (by simp [hml]) (fun q hq => h.inv.clo m ops[m] (by simp [hml]) hD q hq) i ho) h.new
omit W in
theorem At.fact {m : Nat} (hm : m < i ∨ D m) : Fact S (totB ops) m := by
  rcases hm with hm | hm
  · exact h.facts m hm
  · exact h.inv.fact m hm
/-- What unordered operations have turned is out of sight. -/
theorem At.hidden {R : Rec} (hR : (S (i + 1)).recs = R :: (S i).recs) {m : Nat} (hne : m ≠ i) (hm : m < i ∨ D m) (hu : ordB (masksL ops []) m i = false) {id : Id} (hc : Chg (heaps S) id m) (hid : id.nat < (S i).n) : Out' R.hid id.nat := by
  have hil := h.lt
  have hml : m < ops.length := by rcases hm with hm | hm; · omega
                                  · exact h.inv.in_ m hm
  have hF := h.fact hm
  have hall : i < m → ∀ m, m < ops.length → Fact S (totB ops) m := fun hgt => by
    rcases h.alls with h1 | h1
    · have := h1 m (hm.resolve_left (by omega)); omega
    · exact h1
  have hmono : i ≤ m → (S i).n ≤ (S m).n := fun hge => mono_of (hall (by omega)) hge (Nat.le_of_lt hml)
  obtain ⟨n0, _, _, _⟩ := W.recN hil hR
  -- one behind it, but for those about which nothing is open
  have hgt : i < m → totB ops m = false → Out' R.hid id.nat := fun hgt htm => by
    have hlt : id.nat < (S m).n := Nat.lt_of_lt_of_le hid (hmono (by omega))
    obtain ⟨Rm, q1, q2, _⟩ := W.recs (i := m + 1) (by omega) m (by omega)
    have hwr := hF.wr htm id hlt hc Rm q2
    obtain ⟨om, hom, _, want, _, hw⟩ := W.trans_of hml
    cases hw with
    | pass _ _ hr => rw [hr] at q2; injection q2 with q2 _; rw [← q2] at hwr; obtain ⟨p, hp, _⟩ := hwr; cases hp
    | tot _ ht _ _ _ _ => rw [show totB ops m = true from ht] at htm; cases htm
    | ext ah _ _ _ _ _ hr => rw [hr] at q2; injection q2 with q2 _; rw [← q2] at hwr; obtain ⟨p, hp, _⟩ := hwr; cases hp
    | shy _ _ _ _ _ _ hr => rw [hr] at q2; injection q2 with q2 _; rw [← q2] at hwr; obtain ⟨p, hp, _⟩ := hwr; cases hp
    | sto ah _ _ _ _ _ _ _ _ tgt _ _ _ _ _ hchk _ _ _ _ _ _ hr =>
      rw [hr] at q2; injection q2 with q2 _; rw [← q2] at hwr
      obtain ⟨p, hp, h1, h2⟩ := hwr
      simp only [List.mem_cons, List.not_mem_nil, or_false] at hp
      subst hp
      have he : id.nat = tgt.nat := by have h1 : tgt.nat ≤ id.nat := h1; have h2 : id.nat < tgt.nat + 1 := h2; omega
      obtain ⟨Ri, g1, g2, _⟩ := W.recs (Nat.le_of_lt hml) i hgt
      have hRi : Ri = R := by rw [hR] at g2; injection g2 with g2 _; exact g2.symm
      have hui : ordB (masksL ops []) i m = false := by rw [ordB_comm _ _ _ (fun e => hne e.symm)]; exact hu
      rcases chkR_spec _ _ (m - 1 - i) Ri hchk (by rw [un_get hgt, hui]; rfl) g1 with h3 | h3
      · rw [hRi, n0] at h3; omega
      · rw [hRi] at h3; rw [he]; exact h3
  cases hsh : shyB ops i with
  | true =>
    obtain ⟨_, g4, g5⟩ := W.shy hil hsh hR
    by_cases hx : R.rd = some id
    · rcases Nat.lt_or_ge m i with hlt | hge
      · obtain ⟨Rm, q1, q2, _⟩ := W.recs (Nat.le_of_lt hil) m hlt
        obtain ⟨k1, k2⟩ := okX_spec _ _ (i - 1 - m) Rm (g5 id hx) (by rw [un_get hlt, hu]; rfl) q1
        obtain ⟨m0, m1, e0, e1⟩ := W.recN hml q2
        cases hw : Rm.wild with
        | true =>
          have := k2 hw
          rw [e0, e1] at this
          exact absurd this.symm hc
        | false =>
          rcases W.tame hml q2 hw with h1 | ⟨h1, h2⟩
          · exact absurd hc (h1 id)
          · have := hF.wr h1 id (by rw [← m0]; exact k1) hc Rm q2
            rw [h2] at this; obtain ⟨p, hp, _⟩ := this; cases hp
      · have hgt' : i < m := by omega
        cases htm : totB ops m with
        | false => exact hgt hgt' htm
        | true =>
          obtain ⟨om, hom, _, want, _, hw⟩ := W.trans_of hml
          obtain ⟨Ri, g1, g2, _⟩ := W.recs (Nat.le_of_lt hml) i hgt'
          have hRi : Ri = R := by rw [hR] at g2; injection g2 with g2 _; exact g2.symm
          have hui : ordB (masksL ops []) i m = false := by rw [ordB_comm _ _ _ (fun e => hne e.symm)]; exact hu
          cases hw with
          | pass _ hs _ => exact absurd (show Tr.find id (S (m + 1)).st.heap = _ by rw [hs]) hc
          | tot st1 _ _ hck hs _ =>
            have := chkW_spec _ _ (m - 1 - i) Ri id hck (by rw [un_get hgt', hui]; rfl) g1 (by rw [hRi]; exact hx)
            exact absurd (show Tr.find id (S (m + 1)).st.heap = Tr.find id (S m).st.heap by rw [hs]; exact this.symm) hc
          | ext _ _ _ ht _ _ _ => rw [show totB ops m = false from ht.1] at htm; cases htm
          | shy _ _ h1 _ _ _ _ => rw [shyTot (by rw [shy_of hom]; exact h1)] at htm; cases htm
          | sto _ _ hnt _ _ _ _ _ _ _ _ _ _ _ _ _ _ _ _ _ _ _ _ => rw [show totB ops m = false from hnt] at htm; cases htm
    · rw [g4]
      refine complR_out hid fun x hx2 e => hx ?_
      rw [hx2, Id.nat_inj e]
  | false =>
    have htm : totB ops m = false := by
      cases ht : totB ops m with
      | false => rfl
      | true =>
        rcases tot_ord ht hil (fun e => hne e.symm) with h1 | h1
        · rw [ordB_comm _ _ _ hne, h1] at hu; cases hu
        · rw [hsh] at h1; cases h1
    rcases Nat.lt_or_ge m i with hlt | hge
    · obtain ⟨Rm, q1, q2, _⟩ := W.recs (Nat.le_of_lt hil) m hlt
      obtain ⟨m0, m1, _, _⟩ := W.recN hml q2
      have hwhat : Out' Rm.wr id.nat ∨ (Rm.n0 ≤ id.nat ∧ id.nat < Rm.n1) := by
        rcases Nat.lt_or_ge id.nat (S m).n with h1 | h1
        · exact .inl (hF.wr htm id h1 hc Rm q2)
        · refine .inr ⟨by rw [m0]; exact h1, ?_⟩
          rw [m1]
          rcases Nat.lt_or_ge id.nat (S (m + 1)).n with h2 | h2
          · exact h2
          · exact absurd (show Tr.find id (S (m + 1)).st.heap = Tr.find id (S m).st.heap by rw [hF.top id h2, sim0_top h.sim0 h.facts m (by omega) id h1]) hc
      have hkey : ∀ b, Out' (hideR (planOf ops (masksL ops []) i).un (S i).recs b) id.nat := fun b => by
        refine hideR_out _ _ b (i - 1 - m) Rm ?_ q1 hwhat
        rw [un_get hlt, hu]; rfl
      obtain ⟨_, want, _, hw⟩ := W.step i o h.op
      cases hw with
      | pass _ _ hr => rw [hr] at hR; injection hR with hR _; rw [← hR]; exact ⟨(0, (S i).n), by simp, Nat.zero_le _, hid⟩
      | tot _ _ _ _ _ hr => rw [hr] at hR; injection hR with hR _; rw [← hR]; exact hkey []
      | ext ah _ _ _ _ _ hr => rw [hr] at hR; injection hR with hR _; rw [← hR]; exact hkey ah
      | shy _ _ h1 _ _ _ _ => rw [shy_of h.op, h1] at hsh; cases hsh
      | sto ah _ _ _ _ _ _ _ _ _ _ _ _ _ _ _ _ _ _ _ _ _ hr => rw [hr] at hR; injection hR with hR _; rw [← hR]; exact hkey ah
    · exact hgt (by omega) htm
/-- What an operation sees is as it stands in the text's order. -/
theorem At.sees {R : Rec} (hR : (S (i + 1)).recs = R :: (S i).recs) {id : Id} (hid : id.nat < (S i).n) (hv : ¬ Out' R.hid id.nat) :
    cur (heaps S) D id ops.length = Tr.find id (S i).st.heap ∧ lev (heaps S) (tops S) D id ops.length ≤ (S i).n := by
  have hil := h.lt
  have hlow : ∀ m, m < i → Chg (heaps S) id m → D m := fun m hm hc => by
    cases ho : ordB (masksL ops []) m i with
    | true => exact h.ord_lt W hm ho
    | false => exact absurd (h.hidden W hR (by omega) (.inl hm) ho hc hid) hv
  have hhigh : ∀ m, i ≤ m → m < ops.length → ¬ (D m ∧ Chg (heaps S) id m) := fun m h1 h2 ⟨h3, h4⟩ => by
    by_cases e : m = i
    · exact h.new (e ▸ h3)
    · exact hv (h.hidden W hR e (.inr h3) (h.ord_gt W (by omega) h3) h4 hid)
  refine ⟨(cur_stay (Nat.le_of_lt hil) hhigh).trans (cur_same hlow), ?_⟩
  rw [lev_stay (Nat.le_of_lt hil) hhigh]
  exact lev_le fun m hm => (h.facts m hm).mono
omit W in
theorem At.globN : Glob (ψ.below (S i).n) := fun g hg => by
  obtain ⟨s, e⟩ := h.sim0.glob g hg
  have hlt : (gid g).nat < (S 0).n := by
    rcases Nat.lt_or_ge (gid g).nat (S 0).n with h1 | h1
    · exact h1
    · rw [h.sim0.fresh _ h1] at e; cases e
  exact ⟨s, Map.below_in (by rw [h.inv.base _ hlt]; exact e) (Nat.lt_of_lt_of_le hlt (mono_of h.facts (Nat.zero_le _) (Nat.le_refl _)))⟩
/-- The map that an operation starts with. -/
theorem At.sim {R : Rec} (hR : (S (i + 1)).recs = R :: (S i).recs) {st : St} (hh : st.heap = (S i).st.heap) (hn : st.nxt = (S i).st.nxt) (hv : ∀ id, st.vis id → (S 0).st.vis id ∧ ¬ Out' R.hid id.nat) : Sim st (ψ.below (S i).n) w' := by
  have htop := sim0_top h.sim0 h.facts i (Nat.le_refl _)
  have key : ∀ id b, st.look id b → (S 0).st.vis id ∧ id.nat < (S i).n ∧ cur (heaps S) D id ops.length = some b ∧ lev (heaps S) (tops S) D id ops.length ≤ (S i).n := fun id b ⟨h1, h2⟩ => by
    rw [hh] at h2
    obtain ⟨g1, g2⟩ := hv id h1
    have hlt : id.nat < (S i).n := by
      rcases Nat.lt_or_ge id.nat (S i).n with h3 | h3
      · exact h3
      · rw [htop id h3] at h2; cases h2
    obtain ⟨g3, g4⟩ := h.sees W hR hlt g2
    exact ⟨g1, hlt, g3.trans h2, g4⟩
  refine ⟨fun id b hb => ?_, fun id id' b b' p s s' hb hb' hp hp' => ?_, fun id hid => ?_, fun id hid => ?_, h.globN⟩
  · obtain ⟨k1, k2, k3, k4⟩ := key id b hb
    obtain ⟨p, s, g1, g2, g3⟩ := h.inv.blk id b k1 k3
    exact ⟨p, s, Map.below_in g1 k2, g2, g3.mono (Map.below_le ψ k4)⟩
  · obtain ⟨k1, k2, k3, _⟩ := key id b hb
    obtain ⟨k1', k2', k3', _⟩ := key id' b' hb'
    exact h.inv.inj id id' b b' p s s' k1 k1' k3 k3' (Map.below_of hp).2 (Map.below_of hp').2
  · unfold Map.below; rw [if_neg]
    rw [hn] at hid; show ¬ (id.nat < (S i).st.nxt.nat); omega
  · rw [hh]; rw [hn] at hid; exact htop id hid
/-- The slots that an operation sees. -/
theorem At.slots : SlR (ψ.below (S i).n) (delL (planOf ops (masksL ops []) i).del (S i).L) V a'.tmps := by
  have hil := h.lt
  have hdel : ∀ (l : List Nat) (L : Env) (t : Nat) (b : AV), (delL l L).look V t = some b → t ∉ l ∧ L.look V t = some b := by
    intro l
    induction l with
    | nil => intro L t b hb; exact ⟨by simp, hb⟩
    | cons x l ih' =>
      intro L t b hb
      have hb : (if x = t then none else (delL l L).look V t) = some b := hb
      split at hb
      · cases hb
      · rename_i hx
        obtain ⟨h1, h2⟩ := ih' L t b hb
        exact ⟨by simp only [List.mem_cons, not_or]; exact ⟨fun e => hx e.symm, h1⟩, h2⟩
  have hle0 : Map.le Γ (ψ.below (S i).n) := fun id p hp => by
    have hlt : id.nat < (S 0).n := by
      rcases Nat.lt_or_ge id.nat (S 0).n with h1 | h1
      · exact h1
      · rw [h.sim0.fresh id h1] at hp; cases hp
    exact Map.below_in (by rw [h.inv.base id hlt]; exact hp) (Nat.lt_of_lt_of_le hlt (mono_of h.facts (Nat.zero_le _) (Nat.le_refl _)))
  have hL : ∀ m, m ≤ i → ∀ t b, t ∉ (planOf ops (masksL ops []) i).del → (S m).L.look V t = some b → t < a.tmps.size ∧ CR (ψ.below (S i).n) b (slv (a.tmps.getD t undef) (fun m => (ops[m]?).bind (·.dst)) vals D t m) := by
    intro m
    induction m with
    | zero =>
      intro _ t b _ hb
      rw [h.L0] at hb
      obtain ⟨g1, g2⟩ := h.sl0 t b hb
      exact ⟨g1, g2.mono hle0⟩
    | succ m ih' =>
      intro hm t b hd hb
      have hml : m < ops.length := by omega
      obtain ⟨om, hom, hT⟩ := W.trans_of hml
      rw [hT.slot] at hb
      have hdst : (ops[m]?).bind (·.dst) = om.dst := by rw [hom]; rfl
      cases hod : om.dst with
      | none =>
        rw [hod] at hb
        obtain ⟨g1, g2⟩ := ih' (by omega) t b hd hb
        refine ⟨g1, ?_⟩
        rw [slv_neg (by rintro ⟨_, e⟩; rw [hdst, hod] at e; cases e)]; exact g2
      | some d =>
        rw [hod] at hb
        have hb2 : (if d = t then some (av m) else (S m).L.look V t) = some b := hb
        clear hb
        split at hb2
        · rename_i e
          subst e
          injection hb2 with hb
          have hDm : D m := by
            cases ho : ordB (masksL ops []) m i with
            | true => exact h.ord_lt W (by omega) ho
            | false => exact absurd (del_mem hom (by omega) ho hod) hd
          refine ⟨h.dst m om d hom hod, ?_⟩
          rw [slv_pos ⟨hDm, by rw [hdst, hod]⟩, ← hb]
          exact (h.inv.res m hDm).mono (Map.below_le ψ (mono_of h.facts hm (Nat.le_refl _)))
        · rename_i e
          obtain ⟨g1, g2⟩ := ih' (by omega) t b hd hb2
          refine ⟨g1, ?_⟩
          rw [slv_neg (by rintro ⟨_, e'⟩; rw [hdst, hod] at e'; injection e' with e'; exact e e')]; exact g2
  intro t b hb
  obtain ⟨hd, hb⟩ := hdel _ _ t b hb
  obtain ⟨g1, g2⟩ := hL i (Nat.le_refl _) t b hd hb
  refine ⟨by rw [h.inv.size]; exact g1, ?_⟩
  rw [h.inv.slot t, slv_stay (Nat.le_of_lt hil) ?_]
  · exact g2
  · rintro m h1 h2 ⟨h3, h4⟩
    by_cases e : m = i
    · exact h.new (e ▸ h3)
    · have hml : m < ops.length := h2
      have hom : ops[m]? = some ops[m] := by simp [hml]
      rw [hom] at h4
      exact hd (del_mem hom e (h.ord_gt W (by omega) h3) h4)
end
end Go.Proofs.YtceobmnljdhkmaaGreatDoor.Ev
/- statements whose order is open: one more operation -/
namespace Go.Proofs.YtceobmnljdhkmaaGreatDoor.Ev
open Go
variable {r : AV × St} {P : Program}
mutual
/-- What is related through a part of a map stays so, whatever value. -/
theorem CR.down {Γ Γ' : Map} (hm : Map.le Γ Γ') {a : AV} {u v : Value} (h : CR Γ a u) (k : CR Γ' a v) : CR Γ a v := by
  cases h with
  | b => cases k; exact .b _
  | i => cases k; exact .i _ _
  | m => cases k; exact .m _ _
  | v hp => cases k with | v hq => exact .v hq
  | u => cases k; exact .u
  | se => cases k; exact .se _ _
  | ptr h => cases k with | ptr k => rw [hm _ _ h] at k; injection k with k; injection k with k1 k2; subst k1 k2; exact .ptr h
  | sl h => cases k with | sl k h1 h2 h3 => rw [hm _ _ h] at k; injection k with k; injection k with k1 k2; subst k1 k2; exact .sl h h1 h2 h3
  | fn ha hb => cases k with | fn ka kb => exact .fn (CRL.down hm ha ka) (CRL.down hm hb kb)
  | agg h => cases k with | agg k => exact .agg (CRL.down hm h k)
  | tup h => cases k with | tup k => exact .tup (CRL.down hm h k)
theorem CRL.down {Γ Γ' : Map} (hm : Map.le Γ Γ') {a : List AV} {u v : List Value} (h : CRL Γ a u) (k : CRL Γ' a v) : CRL Γ a v := by
  cases h with
  | nil => cases k; exact .nil
  | cons h t => cases k with | cons k s => exact .cons (CR.down hm h k) (CRL.down hm t s)
end
theorem BR.down {Γ Γ' : Map} (hm : Map.le Γ Γ') {b : Blk} {s s' : Nat} {ob ob' : Option Obj} (h : BR Γ b s ob) (k : BR Γ' b s' ob') : BR Γ b s' ob' := by
  obtain ⟨cs, el, h1, h2, h3, h4, h5⟩ := h
  obtain ⟨cs', el', k1, k2, k3, k4, k5⟩ := k
  exact ⟨cs', el', k1, k2, k3, CRL.down hm h4 k4, k5⟩
section
variable {pr : Prims} {all : Array Oper} {ih : IH} {V : Env} {ops : List Oper} {S : Nat → Snap} {av : Nat → AV} (W : Way0 P pr all ih V ops S av)
variable {Γ : Map} {a : Act} {w : World} {D : Nat → Prop} {a' : Act} {w' : World} {ψ : Map} {vals : Nat → Value} {i : Nat} {o : Oper} (h : At V ops S av Γ a w D a' w' ψ vals i o)
include W h
omit W in
theorem At.monoAll {m : Nat} (hm : i < m) (hD : D m) (_ : Fact S (totB ops) i) : (S (i + 1)).n ≤ (S m).n := by
  have hall : ∀ m, m < ops.length → Fact S (totB ops) m := by
    rcases h.alls with h1 | h1
    · have := h1 m hD; omega
    · exact h1
  exact mono_of hall (by omega) (Nat.le_of_lt (h.inv.in_ m hD))
/-- What an operation has made or written, nobody turns who has come up and stands behind it. -/
theorem At.later {R : Rec} (hR : (S (i + 1)).recs = R :: (S i).recs) (hf : Fact S (totB ops) i) {id : Id} (hid : id.nat < (S (i + 1)).n) (hw : Out' R.wr id.nat ∨ (R.n0 ≤ id.nat ∧ id.nat < R.n1)) {m : Nat} (hm : i < m) (hD : D m) : ¬ Chg (heaps S) id m := fun hc => by
  have hil := h.lt
  have hml := h.inv.in_ m hD
  have hu := h.ord_gt W hm hD
  have hui : ordB (masksL ops []) i m = false := by rw [ordB_comm _ _ _ (by omega)]; exact hu
  have hlt : id.nat < (S m).n := Nat.lt_of_lt_of_le hid (h.monoAll hm hD hf)
  obtain ⟨Rm, _, q2, _⟩ := W.recs (i := m + 1) (by omega) m (by omega)
  obtain ⟨Ri, g1, g2, _⟩ := W.recs (Nat.le_of_lt hml) i hm
  have hRi : Ri = R := by rw [hR] at g2; injection g2 with g2 _; exact g2.symm
  have hout : ∀ b, Out' (hideR (planOf ops (masksL ops []) m).un (S m).recs b) id.nat := fun b => hideR_out _ _ b (m - 1 - i) Ri (by rw [un_get hm, hui]; rfl) g1 (by rw [hRi]; exact hw)
  have hF := h.inv.fact m hD
  obtain ⟨om, hom, _, want, _, hway⟩ := W.trans_of hml
  have hno : totB ops m = false → Rm.wr = [] → False := fun h1 h2 => by
    have := hF.wr h1 id hlt hc Rm q2
    rw [h2] at this; obtain ⟨p, hp, _⟩ := this; cases hp
  cases hway with
  | pass _ hs _ => exact hc (by show Tr.find id (S (m + 1)).st.heap = _; rw [hs])
  | tot _ _ _ _ _ hr => exact hF.prot id hlt (.inr (.inr ⟨Rm, q2, by rw [hr] at q2; injection q2 with q2 _; rw [← q2]; exact hout []⟩)) hc
  | ext ah _ _ ht _ _ hr => exact hno ht.1 (by rw [hr] at q2; injection q2 with q2 _; rw [← q2])
  | shy _ _ h1 _ _ _ hr => exact hno (shyTot (by rw [shy_of hom]; exact h1)) (by rw [hr] at q2; injection q2 with q2 _; rw [← q2])
  | sto ah _ hnt _ _ _ _ _ _ tgt _ _ b _ _ hchk hlk _ _ _ _ _ hr =>
    have hwr := hF.wr hnt id hlt hc Rm q2
    rw [hr] at q2; injection q2 with q2 _; rw [← q2] at hwr
    obtain ⟨p, hp, h1, h2⟩ := hwr
    simp only [List.mem_cons, List.not_mem_nil, or_false] at hp
    subst hp
    have he : id.nat = tgt.nat := by have h1 : tgt.nat ≤ id.nat := h1; have h2 : id.nat < tgt.nat + 1 := h2; omega
    obtain ⟨p, hp, h3⟩ := hout ah
    rw [he] at h3
    exact hlk.1 p (by show p ∈ appR _ _; rw [appR_eq]; exact List.mem_append_left _ hp) h3
omit W in
theorem At.range_none (hf : Fact S (totB ops) i) {id : Id} (h1 : (S i).n ≤ id.nat) (h2 : id.nat < (S (i + 1)).n) : ψ id = none := by
  cases hp : ψ id with
  | none => rfl
  | some q =>
    rcases h.inv.dom id q hp with h3 | ⟨j, hj, h3, h4⟩
    · have := mono_of h.facts (Nat.zero_le i) (Nat.le_refl _); omega
    · rcases Nat.lt_trichotomy j i with h5 | h5 | h5
      · have := mono_of h.facts (show j + 1 ≤ i by omega) (Nat.le_refl _); omega
      · exact absurd (h5 ▸ hj) h.new
      · have := h.monoAll h5 hj hf; omega
omit W h in
theorem lev_up {id : Id} (hc : ¬ Chg (heaps S) id i) : lev (heaps S) (tops S) D id ops.length ≤ lev (heaps S) (tops S) (fun m => D m ∨ m = i) id ops.length := by
  rw [lev_more (fun _ => Iff.rfl) hc]; exact Nat.le_refl _
/-- One more operation has come up. -/
theorem At.more (hf : Fact S (totB ops) i) {v : Value} {w'' : World} {ψ' : Map} (hψ : ∀ id : Id, id.nat < (S i).n ∨ (S (i + 1)).n ≤ id.nat → ψ' id = ψ id) (hc : CR (ψ'.below (S (i + 1)).n) (av i) v)
    (hblk : ∀ id b, (S 0).st.vis id → cur (heaps S) (fun m => D m ∨ m = i) id ops.length = some b → ∃ p s, ψ' id = some (p, s) ∧ p < w''.heap.size ∧ BR (ψ'.below (lev (heaps S) (tops S) (fun m => D m ∨ m = i) id ops.length)) b s w''.heap[p]?)
    (hinj : ∀ id id' b b' p s s', (S 0).st.vis id → (S 0).st.vis id' → cur (heaps S) (fun m => D m ∨ m = i) id ops.length = some b → cur (heaps S) (fun m => D m ∨ m = i) id' ops.length = some b' → ψ' id = some (p, s) → ψ' id' = some (p, s') → id = id')
    (hwri : ∀ id b q s, (S 0).st.vis id → cur (heaps S) (fun m => D m ∨ m = i) id ops.length = some b → (S 0).st.ro ≤ id.nat → ψ' id = some (q, s) → q < w.heap.size → ∃ id0 b0 s0, (S 0).st.look id0 b0 ∧ (S 0).st.ro ≤ id0.nat ∧ Γ id0 = some (q, s0))
    (hos : w''.os = w'.os) (htape : w''.tape = w'.tape) (hout : w''.output = w'.output) (hsz : w'.heap.size ≤ w''.heap.size)
    (hframe : ∀ q : Nat, q < w'.heap.size → (∀ id b s, (S 0).st.vis id → cur (heaps S) D id ops.length = some b → (S 0).st.ro ≤ id.nat → ψ id ≠ some (q, s)) → w''.heap[q]? = w'.heap[q]?) :
    DInv ops S av Γ a w (fun m => D m ∨ m = i) (a'.put o.dst v) w'' ψ' (fun m => if m = i then v else vals m) := by
  have hil := h.lt
  have hle : Map.le ψ ψ' := fun id p hp => by
    by_cases h1 : id.nat < (S i).n
    · rw [hψ id (.inl h1)]; exact hp
    · by_cases h2 : id.nat < (S (i + 1)).n
      · rw [h.range_none hf (by omega) h2] at hp; cases hp
      · rw [hψ id (.inr (by omega))]; exact hp
  have hN0 : (S 0).n ≤ (S i).n := mono_of h.facts (Nat.zero_le i) (Nat.le_refl _)
  refine ⟨?_, ?_, ?_, ?_, ?_, ?_, hblk, hinj, ?_, ?_, hos.trans h.inv.os, htape.trans h.inv.tape, hout.trans h.inv.output, Nat.le_trans h.inv.hsize hsz, ?_, hwri, ?_⟩
  · rintro m om hom (hm | hm) q hq
    · exact .inl (h.inv.clo m om hom hm q hq)
    · subst hm; rw [h.op] at hom; injection hom with hom; subst hom; exact .inl (h.need q hq)
  · rintro m (hm | hm)
    · exact h.inv.in_ m hm
    · omega
  · rw [put_size]; exact h.inv.size
  · rw [put_defers]; exact h.inv.dfr
  · intro t
    have hdst : (ops[i]?).bind (·.dst) = o.dst := by rw [h.op]; rfl
    by_cases hd : o.dst = some t
    · have hlt : t < a'.tmps.size := by rw [h.inv.size]; exact h.dst i o t h.op hd
      rw [hd]
      simp only [Act.put]
      rw [getD_set_self v hlt, slv_new (fun _ => Iff.rfl) (by rw [hdst]; exact hd) hil ?_]
      · simp
      · rintro m h1 h2 ⟨h3, h4⟩
        have hom : ops[m]? = some ops[m] := by simp [h2]
        rw [hom] at h4
        have hu := h.ord_gt W h1 h3
        rw [ordB_comm _ _ _ (by omega)] at hu
        exact W.dsts m i ops[m] o t hom h.op h1 hu h4 hd
    · have : (a'.put o.dst v).tmps.getD t undef = a'.tmps.getD t undef := by
        cases hod : o.dst with
        | none => rfl
        | some d => simp only [Act.put]; exact getD_set_other v (fun e => hd (by rw [hod, e]))
      rw [this, h.inv.slot t]
      exact (slv_more (fun _ => Iff.rfl) (fun m hm => if_neg hm) h.new (by rw [hdst]; exact hd)).symm
  · rintro j (hj | hj)
    · have hne : j ≠ i := fun e => h.new (e ▸ hj)
      simp only [if_neg hne]
      exact (h.inv.res j hj).mono (Map.below_mono hle _)
    · subst hj; simp only [if_true]; exact hc
  · intro id q hq
    by_cases h1 : id.nat < (S i).n
    · rw [hψ id (.inl h1)] at hq
      rcases h.inv.dom id q hq with h2 | ⟨j, hj, h2⟩
      · exact .inl h2
      · exact .inr ⟨j, .inl hj, h2⟩
    · by_cases h2 : id.nat < (S (i + 1)).n
      · exact .inr ⟨i, .inr rfl, by omega, h2⟩
      · rw [hψ id (.inr (by omega))] at hq
        rcases h.inv.dom id q hq with h3 | ⟨j, hj, h3⟩
        · exact .inl h3
        · exact .inr ⟨j, .inl hj, h3⟩
  · intro id hid
    rw [hψ id (.inl (by omega))]; exact h.inv.base id hid
  · intro q hq hn
    rw [hframe q (Nat.lt_of_lt_of_le hq h.inv.hsize) ?_, h.inv.frame q hq hn]
    intro id b s h1 h2 h3 h4
    obtain ⟨id0, b0, s0, g1, g2, g3⟩ := h.inv.wri id b q s h1 h2 h3 h4 hq
    exact hn id0 b0 s0 g1 g2 g3
  · rintro j (hj | hj)
    · exact h.inv.fact j hj
    · subst hj; exact hf
end
end Go.Proofs.YtceobmnljdhkmaaGreatDoor.Ev
/- statements whose order is open: an operation comes up -/
namespace Go.Proofs.YtceobmnljdhkmaaGreatDoor.Ev
open Go
variable {r : AV × St} {P : Program}
section
variable {pr : Prims} {all : Array Oper} {ih : IH} {V : Env} {ops : List Oper} {S : Nat → Snap} {av : Nat → AV} (W : Way0 P pr all ih V ops S av)
variable {Γ : Map} {a : Act} {w : World} {D : Nat → Prop} {a' : Act} {w' : World} {ψ : Map} {vals : Nat → Value} {i : Nat} {o : Oper} (h : At V ops S av Γ a w D a' w' ψ vals i o)
include W h
/-- It is passed by. -/
theorem At.pass {v : Value} (ha : CR (ψ.below (S i).n) (av i) v) (hs : (S (i + 1)).st = (S i).st) :
    DInv ops S av Γ a w (fun m => D m ∨ m = i) (a'.put o.dst v) w' ψ (fun m => if m = i then v else vals m) := by
  have hc : ∀ id, ¬ Chg (heaps S) id i := fun id hc => hc (by show Tr.find id (S (i + 1)).st.heap = _; rw [hs])
  have hn : (S (i + 1)).n = (S i).n := by unfold Snap.n; rw [hs]
  have hf : Fact S (totB ops) i := ⟨by rw [hn]; exact Nat.le_refl _, fun id hid => by rw [hs]; exact sim0_top h.sim0 h.facts i (Nat.le_refl _) id (by rw [hn] at hid; exact hid), fun _ id _ h1 => absurd h1 (hc id), fun id _ _ => hc id⟩
  have hcur : ∀ id, cur (heaps S) (fun m => D m ∨ m = i) id ops.length = cur (heaps S) D id ops.length := fun id => cur_more (fun _ => Iff.rfl) (hc id) _
  refine h.more W hf (fun _ _ => rfl) (by rw [hn]; exact ha) (fun id b h1 h2 => ?_) (fun id id' b b' p s s' h1 h2 h3 h4 => ?_) (fun id b q s h1 h2 => ?_) rfl rfl rfl (Nat.le_refl _) (fun _ _ _ => rfl)
  · rw [hcur] at h2
    obtain ⟨p, s, g1, g2, g3⟩ := h.inv.blk id b h1 h2
    exact ⟨p, s, g1, g2, g3.mono (Map.below_le ψ (lev_up (hc id)))⟩
  · rw [hcur] at h3 h4
    exact h.inv.inj id id' b b' p s s' h1 h2 h3 h4
  · rw [hcur] at h2
    exact h.inv.wri id b q s h1 h2
/-- The map behind an operation that makes memory. -/
noncomputable def newMap (ψ Γ'' : Map) (m n : Nat) : Map := fun id => if m ≤ id.nat ∧ id.nat < n then Γ'' id else ψ id
omit W h in
theorem newMap_out {ψ Γ'' : Map} {m n : Nat} {id : Id} (h : id.nat < m ∨ n ≤ id.nat) : newMap ψ Γ'' m n id = ψ id := if_neg (by omega)
omit W h in
theorem newMap_in {ψ Γ'' : Map} {m n : Nat} {id : Id} (h1 : m ≤ id.nat) (h2 : id.nat < n) : newMap ψ Γ'' m n id = Γ'' id := if_pos ⟨h1, h2⟩
/-- What running an operation from a part of memory has given. -/
structure Ran (S : Nat → Snap) (av : Nat → AV) (ψ : Map) (w' : World) (i : Nat) (st st1 : St) (Γ'' : Map) (w'' : World) (v : Value) : Prop where
  g : Grow st (ψ.below (S i).n) w' st1 Γ'' w''
  hh : st.heap = (S i).st.heap
  hn : st.nxt = (S i).st.nxt
  hs : (S (i + 1)).st = backK (S i).st st1
  hc : CR Γ'' (av i) v
variable {st st1 : St} {Γ'' : Map} {w'' : World} {v : Value} (R : Ran S av ψ w' i st st1 Γ'' w'' v)
omit W h in
theorem Ran.n1 (R : Ran S av ψ w' i st st1 Γ'' w'' v) : (S (i + 1)).n = st1.nxt.nat := by unfold Snap.n; rw [R.hs]; rfl
omit W h in
theorem Ran.heap1 (R : Ran S av ψ w' i st st1 Γ'' w'' v) : heaps S (i + 1) = st1.heap := by show (S (i + 1)).st.heap = _; rw [R.hs]; rfl
omit W h in
theorem Ran.mono (R : Ran S av ψ w' i st st1 Γ'' w'' v) : (S i).n ≤ (S (i + 1)).n := by rw [R.n1]; show (S i).st.nxt.nat ≤ _; rw [← R.hn]; exact R.g.nxt
omit W h in
theorem Ran.map (R : Ran S av ψ w' i st st1 Γ'' w'' v) : (newMap ψ Γ'' (S i).n (S (i + 1)).n).below (S (i + 1)).n = Γ'' := by
  funext id
  by_cases h1 : id.nat < (S (i + 1)).n
  · rw [Map.below, if_pos h1]
    by_cases h2 : id.nat < (S i).n
    · rw [newMap_out (.inl h2), R.g.same id (by rw [R.hn]; exact h2), Map.below, if_pos h2]
    · rw [newMap_in (by omega) h1]
  · rw [Map.below, if_neg h1]
    exact (R.g.sim.fresh id (by rw [← R.n1]; omega)).symm
omit W h in
theorem Ran.map_at (R : Ran S av ψ w' i st st1 Γ'' w'' v) {id : Id} (h1 : id.nat < (S (i + 1)).n) : newMap ψ Γ'' (S i).n (S (i + 1)).n id = Γ'' id := by
  rw [← R.map, Map.below, if_pos h1, R.map]
/-- An operation runs from a part of the memory. -/
theorem At.runG {T : Rec} (hT : (S (i + 1)).recs = T :: (S i).recs) (hro : (S 0).st.ro ≤ st.ro) (hroN : st.ro ≤ (S i).n) (hnt : totB ops i = false → st.ro = (S i).n) (hvis : ∀ id, st.vis id ↔ (S 0).st.vis id ∧ ¬ Out' T.hid id.nat) (hbd : ∀ p ∈ T.hid, p.2 ≤ (S i).n) (R : Ran S av ψ w' i st st1 Γ'' w'' v) :
    DInv ops S av Γ a w (fun m => D m ∨ m = i) (a'.put o.dst v) w'' (newMap ψ Γ'' (S i).n (S (i + 1)).n) (fun m => if m = i then v else vals m) := by
  have hil := h.lt
  have htop := sim0_top h.sim0 h.facts i (Nat.le_refl _)
  have hnew : ∀ id : Id, (S i).n ≤ id.nat → ¬ Out' T.hid id.nat := fun id h1 ⟨p, hp, _, h2⟩ => by have := hbd p hp; omega
  have hkeep : ∀ id : Id, id.nat < (S i).n → (id.nat < st.ro ∨ ¬ st.vis id) → ¬ Chg (heaps S) id i := fun id h1 h0 h2 => h2 (by
    show Tr.find id (heaps S (i + 1)) = Tr.find id (heaps S i)
    rw [R.heap1, R.g.old id (by rw [R.hn]; exact h1) h0, R.hh])
  have hf : Fact S (totB ops) i := by
    refine ⟨R.mono, fun id hid => ?_, fun h0 id h1 h2 => absurd h2 (hkeep id h1 (.inl (by rw [hnt h0]; exact h1))), fun id h1 h2 => hkeep id h1 ?_⟩
    · show Tr.find id (heaps S (i + 1)) = none
      rw [R.heap1]; exact R.g.sim.top id (by rw [← R.n1]; exact hid)
    · rcases h2 with h2 | h2 | ⟨R', h3, h4⟩
      · exact .inl (by omega)
      · exact .inr fun h3 => h2 ((hvis id).1 h3).1
      · rw [hT] at h3; injection h3 with h3 _
        exact .inr fun h5 => ((hvis id).1 h5).2 (by rw [h3]; exact h4)
  obtain ⟨t0, t1, _, _⟩ := W.recN hil hT
  have hst1 : ∀ id, st1.vis id ↔ st.vis id := vis_eq R.g.hid
  have hsee : ∀ id b, st.look id b → (S 0).st.vis id ∧ id.nat < (S i).n ∧ ¬ Out' T.hid id.nat ∧ cur (heaps S) D id ops.length = some b ∧ lev (heaps S) (tops S) D id ops.length ≤ (S i).n := fun id b ⟨h1, h2⟩ => by
    rw [R.hh] at h2
    obtain ⟨g1, g2⟩ := (hvis id).1 h1
    have hlt : id.nat < (S i).n := by
      rcases Nat.lt_or_ge id.nat (S i).n with h3 | h3
      · exact h3
      · rw [htop id h3] at h2; cases h2
    obtain ⟨g3, g4⟩ := h.sees W hT hlt g2
    exact ⟨g1, hlt, g2, g3.trans h2, g4⟩
  have hchg : ∀ id b, (S 0).st.vis id → Chg (heaps S) id i → cur (heaps S) (fun m => D m ∨ m = i) id ops.length = some b → st1.look id b ∧ id.nat < (S (i + 1)).n ∧ lev (heaps S) (tops S) (fun m => D m ∨ m = i) id ops.length = (S (i + 1)).n := fun id b h1 h2 h3 => by
    have hlt : id.nat < (S (i + 1)).n := by
      rcases Nat.lt_or_ge id.nat (S (i + 1)).n with h4 | h4
      · exact h4
      · have hm := R.mono
        exact absurd (show Tr.find id (S (i + 1)).st.heap = Tr.find id (S i).st.heap by rw [hf.top id h4, htop id (by omega)]) h2
    have hno : ∀ m, i < m → m < ops.length → ¬ (D m ∧ Chg (heaps S) id m) := fun m h4 hml ⟨h5, h6⟩ => by
      rcases Nat.lt_or_ge id.nat (S i).n with h7 | h7
      · have hti : totB ops i = true := by
          cases hti : totB ops i with
          | true => rfl
          | false => exact absurd h2 (hkeep id h7 (.inl (by rw [hnt hti]; exact h7)))
        have h8 := h.ord_gt W h4 h5
        rcases tot_ord hti hml (by omega) with h9 | h9
        · rw [h9] at h8; cases h8
        · obtain ⟨Rm, _, q2, _⟩ := W.recs (i := m + 1) (by omega) m (by omega)
          have h10 := (h.inv.fact m h5).wr (shyTot h9) id (Nat.lt_of_lt_of_le h7 (Nat.le_trans R.mono (h.monoAll h4 h5 hf))) h6 Rm q2
          rw [(W.shy hml h9 q2).1] at h10; obtain ⟨p, hp, _⟩ := h10; cases hp
      · exact h.later W hT hf hlt (.inr ⟨by rw [t0]; exact h7, by rw [t1]; exact hlt⟩) h4 h5 h6
    rw [cur_new (fun _ => Iff.rfl) h2 hil hno] at h3
    refine ⟨⟨(hst1 id).2 ?_, by rw [← R.heap1]; exact h3⟩, hlt, lev_new (fun _ => Iff.rfl) h2 hil hno⟩
    rcases Nat.lt_or_ge id.nat (S i).n with h7 | h7
    · exact Classical.byContradiction fun h8 => hkeep id h7 (.inr h8) h2
    · exact (hvis id).2 ⟨h1, hnew id h7⟩
  have hold : ∀ id, ¬ Chg (heaps S) id i → cur (heaps S) (fun m => D m ∨ m = i) id ops.length = cur (heaps S) D id ops.length := fun id h1 => cur_more (fun _ => Iff.rfl) h1 _
  have hle : Map.le ψ (newMap ψ Γ'' (S i).n (S (i + 1)).n) := fun id p hp => by
    by_cases h1 : (S i).n ≤ id.nat ∧ id.nat < (S (i + 1)).n
    · rw [h.range_none hf h1.1 h1.2] at hp; cases hp
    · rw [newMap_out (by omega)]; exact hp
  -- a block is one that it may have turned, or one that it has not seen
  have hkind : ∀ id b, (S 0).st.vis id → cur (heaps S) (fun m => D m ∨ m = i) id ops.length = some b →
      (st1.look id b ∧ id.nat < (S (i + 1)).n ∧ (¬ Chg (heaps S) id i → id.nat < (S i).n ∧ cur (heaps S) D id ops.length = some b ∧ lev (heaps S) (tops S) D id ops.length ≤ (S i).n)) ∨
      (¬ Chg (heaps S) id i ∧ cur (heaps S) D id ops.length = some b ∧ ∀ id' b', st.look id' b' → id' ≠ id) := fun id b h1 h2 => by
    by_cases hc : Chg (heaps S) id i
    · obtain ⟨k1, k2, _⟩ := hchg id b h1 hc h2
      exact .inl ⟨k1, k2, fun h => absurd hc h⟩
    · rw [hold id hc] at h2
      by_cases hv : id.nat < (S i).n ∧ ¬ Out' T.hid id.nat
      · obtain ⟨g1, g2⟩ := h.sees W hT hv.1 hv.2
        have hm := R.mono
        refine .inl ⟨⟨(hst1 id).2 ((hvis id).2 ⟨h1, hv.2⟩), ?_⟩, by omega, fun _ => ⟨hv.1, h2, g2⟩⟩
        rw [← R.heap1, show Tr.find id (heaps S (i + 1)) = Tr.find id (heaps S i) from Classical.byContradiction hc, ← h2]
        exact g1.symm
      · exact .inr ⟨hc, h2, fun id' b' hl e => by
          obtain ⟨_, k2, k3, _⟩ := hsee id' b' hl
          subst e; exact hv ⟨k2, k3⟩⟩
  have hstay : ∀ id b p s, (S 0).st.vis id → cur (heaps S) D id ops.length = some b → (∀ id' b', st.look id' b' → id' ≠ id) → ψ id = some (p, s) → p < w'.heap.size → w''.heap[p]? = w'.heap[p]? := fun id b p s h1 h2 h3 h4 h5 =>
    R.g.frame p h5 fun id' b' s' hl _ he => by
      obtain ⟨k1, _, _, k4, _⟩ := hsee id' b' hl
      exact h3 id' b' hl (h.inv.inj id' id b' b p s' s k1 h1 k4 h2 (Map.below_of he).2 h4)
  -- an old block that has its place
  have hplace : ∀ id b q s, (S 0).st.vis id → st1.look id b → id.nat < (S (i + 1)).n → newMap ψ Γ'' (S i).n (S (i + 1)).n id = some (q, s) → q < w'.heap.size → ∃ id0 b0 s0, (S 0).st.vis id0 ∧ cur (heaps S) D id0 ops.length = some b0 ∧ ψ id0 = some (q, s0) ∧ ((∃ b', st.look id0 b') ∨ id0 = id) ∧ ((S 0).st.ro ≤ id.nat → (S 0).st.ro ≤ id0.nat) := fun id b q s h1 h2 h3 h4 h5 => by
    rcases Nat.lt_or_ge id.nat st.ro with h6 | h6
    · have h7 : id.nat < (S i).n := by omega
      have hc := hkeep id h7 (.inl h6)
      obtain ⟨g1, g2⟩ := (hvis id).1 ((hst1 id).1 h2.1)
      obtain ⟨g3, _⟩ := h.sees W hT h7 g2
      have h8 : Tr.find id (heaps S i) = some b := by
        rw [← show Tr.find id (heaps S (i + 1)) = Tr.find id (heaps S i) from Classical.byContradiction hc, R.heap1]; exact h2.2
      rw [newMap_out (.inl h7)] at h4
      exact ⟨id, b, s, h1, g3.trans h8, h4, .inr rfl, fun h => h⟩
    · rw [R.map_at h3] at h4
      obtain ⟨id0, b0, s0, g1, g2, g3⟩ := R.g.wr q id b s h5 h2 h6 h4
      obtain ⟨k1, _, _, k4, _⟩ := hsee id0 b0 g1
      exact ⟨id0, b0, s0, k1, k4, (Map.below_of g3).2, .inl ⟨b0, g1⟩, fun _ => by omega⟩
  have hB : ∀ id b q s, (S 0).st.vis id → cur (heaps S) D id ops.length = some b → newMap ψ Γ'' (S i).n (S (i + 1)).n id = some (q, s) → ψ id = some (q, s) ∧ q < w'.heap.size := fun id b q s h1 h2 h3 => by
    obtain ⟨p', s', g1, g2, _⟩ := h.inv.blk id b h1 h2
    have g3 := hle id _ g1
    rw [h3] at g3; injection g3 with g3; injection g3 with e1 e2; subst e1 e2
    exact ⟨g1, g2⟩
  have hmix : ∀ id1 id2 b1 b2 q s1 s2, (S 0).st.vis id1 → (S 0).st.vis id2 → st1.look id1 b1 → id1.nat < (S (i + 1)).n → cur (heaps S) D id2 ops.length = some b2 → (∀ id' b', st.look id' b' → id' ≠ id2) → newMap ψ Γ'' (S i).n (S (i + 1)).n id1 = some (q, s1) → newMap ψ Γ'' (S i).n (S (i + 1)).n id2 = some (q, s2) → id1 = id2 := fun id1 id2 b1 b2 q s1 s2 h1 h2 k1 k2 m2 m3 h5 h6 => by
    obtain ⟨e1, e2⟩ := hB id2 b2 q s2 h2 m2 h6
    obtain ⟨id0, b0, s0, g1, g2, g3, g4, _⟩ := hplace id1 b1 q s1 h1 k1 k2 h5 e2
    have e := h.inv.inj id0 id2 b0 b2 q s0 s2 g1 h2 g2 m2 g3 e1
    rcases g4 with ⟨b', g4⟩ | g4
    · exact absurd e (m3 id0 b' g4)
    · rw [← g4]; exact e
  refine h.more W hf (fun id h1 => newMap_out h1) (by rw [R.map]; exact R.hc) (fun id b h1 h2 => ?_) (fun id id' b b' p s s' h1 h2 h3 h4 h5 h6 => ?_) (fun id b q s h1 h2 h3 h4 h5 => ?_) R.g.os R.g.tape R.g.output R.g.size (fun q hq hn => ?_)
  · rcases hkind id b h1 h2 with ⟨k1, k2, k3⟩ | ⟨k1, k2, k3⟩
    · obtain ⟨p, s, g1, g2, g3⟩ := R.g.sim.blk id b k1
      refine ⟨p, s, by rw [R.map_at k2]; exact g1, g2, ?_⟩
      by_cases hc : Chg (heaps S) id i
      · obtain ⟨_, _, k4⟩ := hchg id b h1 hc h2
        rw [k4, R.map]; exact g3
      · obtain ⟨m1, m2, m3⟩ := k3 hc
        obtain ⟨p', s', n1, n2, n3⟩ := h.inv.blk id b h1 m2
        have hm := R.mono
        have hd : Map.le (ψ.below (lev (heaps S) (tops S) D id ops.length)) Γ'' := by
          rw [← R.map]
          exact Map.le_trans (Map.below_mono hle _) (Map.below_le _ (by omega))
        exact (BR.down hd n3 g3).mono (Map.le_trans (Map.below_mono hle _) (Map.below_le _ (lev_up hc)))
    · obtain ⟨p, s, g1, g2, g3⟩ := h.inv.blk id b h1 k2
      refine ⟨p, s, hle id _ g1, Nat.lt_of_lt_of_le g2 R.g.size, ?_⟩
      rw [hstay id b p s h1 k2 k3 g1 g2]
      exact g3.mono (Map.le_trans (Map.below_mono hle _) (Map.below_le _ (lev_up k1)))
  · rcases hkind id b h1 h3 with ⟨k1, k2, _⟩ | ⟨_, k2, k3⟩ <;> rcases hkind id' b' h2 h4 with ⟨m1, m2, _⟩ | ⟨_, m2, m3⟩
    · rw [R.map_at k2] at h5
      rw [R.map_at m2] at h6
      exact R.g.sim.inj id id' b b' p s s' k1 m1 h5 h6
    · exact hmix id id' b b' p s s' h1 h2 k1 k2 m2 m3 h5 h6
    · exact (hmix id' id b' b p s' s h2 h1 m1 m2 k2 k3 h6 h5).symm
    · exact h.inv.inj id id' b b' p s s' h1 h2 k2 m2 (hB id b p s h1 k2 h5).1 (hB id' b' p s' h2 m2 h6).1
  · rcases hkind id b h1 h2 with ⟨k1, k2, _⟩ | ⟨_, k2, k3⟩
    · obtain ⟨id0, b0, s0, g1, g2, g3, _, g5⟩ := hplace id b q s h1 k1 k2 h4 (Nat.lt_of_lt_of_le h5 h.inv.hsize)
      exact h.inv.wri id0 b0 q s0 g1 g2 (g5 h3) g3 h5
    · exact h.inv.wri id b q s h1 k2 h3 (hB id b q s h1 k2 h4).1 h5
  · refine R.g.frame q hq fun id b s h1 h2 h3 => ?_
    obtain ⟨k1, _, _, k4, _⟩ := hsee id b h1
    exact hn id b s k1 k4 (by omega) (Map.below_of h3).2
/-- The operation stores into a block that nobody else looks at. -/
theorem At.stored (ha : av i = .u) {T : Rec} (hT : (S (i + 1)).recs = T :: (S i).recs) {id : Id} {b b' : Blk} {st : St} (hwr : T.wr = [(id.nat, id.nat + 1)]) (hnh : ¬ Out' T.hid id.nat) (hl : st.look id b) (hh : st.heap = (S i).st.heap) (hvs : ∀ id, st.vis id → (S 0).st.vis id) (hro : (S 0).st.ro ≤ id.nat)
    (hs : (S (i + 1)).st = ⟨Tr.put (some b') id (S i).st.heap, (S i).st.nxt, (S i).st.ro, (S i).st.hid⟩) {p s : Nat} (hp : (ψ.below (S i).n) id = some (p, s)) {cs : Array Value} {el : TypeId} (ht : Turned w' w'' p cs el) (hg : Grow st (ψ.below (S i).n) w' ⟨Tr.put (some b') id st.heap, st.nxt, st.ro, st.hid⟩ (ψ.below (S i).n) w'') :
    DInv ops S av Γ a w (fun m => D m ∨ m = i) (a'.put o.dst undef) w'' ψ (fun m => if m = i then undef else vals m) := by
  have hil := h.lt
  have hn : (S (i + 1)).n = (S i).n := by unfold Snap.n; rw [hs]
  have hhp : heaps S (i + 1) = Tr.put (some b') id (heaps S i) := by show (S (i + 1)).st.heap = _; rw [hs]
  have hp2 := (Map.below_of hp).2
  have hlt := (Map.below_of hp).1
  have hc : ∀ id', id' ≠ id → ¬ Chg (heaps S) id' i := fun id' hne hch => hch (by rw [hhp, Tr.put_other _ _ _ _ (fun e => hne e.symm)])
  have hvis := hvs id hl.1
  have hf : Fact S (totB ops) i := by
    refine ⟨by rw [hn]; exact Nat.le_refl _, fun id' hid => ?_, fun _ id' h1 h2 R hR => ?_, fun id' _ h2 h3 => ?_⟩
    · show Tr.find id' (heaps S (i + 1)) = none
      rw [hn] at hid
      rw [hhp, Tr.put_other _ _ _ _ (fun e => by rw [← e] at hid; omega)]
      exact sim0_top h.sim0 h.facts i (Nat.le_refl _) id' hid
    · have e : id' = id := Classical.byContradiction fun hne => hc id' hne h2
      rw [hT] at hR; injection hR with hR _
      rw [← hR, hwr, e]
      exact ⟨_, List.mem_singleton.2 rfl, Nat.le_refl _, Nat.lt_succ_self _⟩
    · have e : id' = id := Classical.byContradiction fun hne => hc id' hne h3
      subst e
      rcases h2 with h2 | h2 | ⟨R', h4, h5⟩
      · omega
      · exact h2 hvis
      · rw [hT] at h4; injection h4 with h4 _
        exact hnh (by rw [h4]; exact h5)
  obtain ⟨hcid, hlid⟩ := h.sees W hT hlt hnh
  have hcb : cur (heaps S) D id ops.length = some b := by rw [hcid, ← hh]; exact hl.2
  have hnew : st.look id b → St.look ⟨Tr.put (some b') id st.heap, st.nxt, st.ro, st.hid⟩ id b' := fun hl => ⟨hl.1, Tr.put_same _ _ _⟩
  have hcur : ∀ id' b0, cur (heaps S) (fun m => D m ∨ m = i) id' ops.length = some b0 → (id' = id ∧ b0 = b') ∨ (id' ≠ id ∧ cur (heaps S) D id' ops.length = some b0) := fun id' b0 h1 => by
    by_cases e : id' = id
    · subst e
      refine .inl ⟨rfl, ?_⟩
      by_cases hch : Chg (heaps S) id' i
      · have hno : ∀ m, i < m → m < ops.length → ¬ (D m ∧ Chg (heaps S) id' m) := fun m h4 _ h5 =>
          h.later W hT hf (by rw [hn]; exact hlt) (.inl (by rw [hwr]; exact ⟨_, List.mem_singleton.2 rfl, Nat.le_refl _, Nat.lt_succ_self _⟩)) h4 h5.1 h5.2
        rw [cur_new (fun _ => Iff.rfl) hch hil hno, hhp, Tr.put_same] at h1
        injection h1 with h1; exact h1.symm
      · rw [cur_more (fun _ => Iff.rfl) hch, hcb] at h1
        have : Tr.find id' (heaps S (i + 1)) = Tr.find id' (heaps S i) := Classical.byContradiction hch
        rw [hhp, Tr.put_same, show Tr.find id' (heaps S i) = some b by rw [show heaps S i = st.heap from hh.symm]; exact hl.2] at this
        injection this with this; injection h1 with h1; rw [this, h1]
    · rw [cur_more (fun _ => Iff.rfl) (hc id' e)] at h1
      exact .inr ⟨e, h1⟩
  have hcur2 : ∀ id' b0, cur (heaps S) (fun m => D m ∨ m = i) id' ops.length = some b0 → ∃ b1, cur (heaps S) D id' ops.length = some b1 := fun id' b0 h1 => by
    rcases hcur id' b0 h1 with ⟨rfl, _⟩ | ⟨_, h2⟩
    · exact ⟨b, hcb⟩
    · exact ⟨_, h2⟩
  refine h.more W hf (fun _ _ => rfl) (by rw [ha]; exact .u) (fun id' b0 h1 h2 => ?_) (fun id1 id2 b1 b2 q s1 s2 h1 h2 h3 h4 h5 h6 => ?_) (fun id1 b1 q s1 h1 h2 h3 h4 h5 => ?_) ht.os ht.tape ht.output (by rw [ht.size]; exact Nat.le_refl _) (fun q hq hn => ?_)
  · rcases hcur id' b0 h2 with ⟨rfl, rfl⟩ | ⟨hne, h3⟩
    · obtain ⟨p', s', g1, g2, g3⟩ := hg.sim.blk id' b0 (hnew hl)
      refine ⟨p', s', (Map.below_of g1).2, g2, ?_⟩
      by_cases hch : Chg (heaps S) id' i
      · have hno : ∀ m, i < m → m < ops.length → ¬ (D m ∧ Chg (heaps S) id' m) := fun m h4 _ h5 =>
          h.later W hT hf (by rw [hn]; exact hlt) (.inl (by rw [hwr]; exact ⟨_, List.mem_singleton.2 rfl, Nat.le_refl _, Nat.lt_succ_self _⟩)) h4 h5.1 h5.2
        rw [lev_new (fun _ => Iff.rfl) hch hil hno]
        show BR (ψ.below (S (i + 1)).n) _ _ _
        rw [hn]; exact g3
      · have hbb : b0 = b := by
          rw [cur_more (fun _ => Iff.rfl) hch, hcb] at h2; injection h2 with h2; exact h2.symm
        subst hbb
        obtain ⟨p2, s2, k1, k2, k3⟩ := h.inv.blk id' b0 h1 hcb
        exact (BR.down (Map.below_le ψ hlid) k3 g3).mono (Map.below_le ψ (lev_up hch))
    · obtain ⟨p', s', g1, g2, g3⟩ := h.inv.blk id' b0 h1 h3
      refine ⟨p', s', g1, by rw [ht.size]; exact g2, ?_⟩
      rw [ht.far p' (fun e => hne (h.inv.inj id' id b0 b p' s' s h1 hvis h3 hcb g1 (by rw [e]; exact hp2)))]
      exact g3.mono (Map.below_le ψ (lev_up (hc id' hne)))
  · obtain ⟨c1, h3⟩ := hcur2 id1 b1 h3
    obtain ⟨c2, h4⟩ := hcur2 id2 b2 h4
    exact h.inv.inj id1 id2 c1 c2 q s1 s2 h1 h2 h3 h4 h5 h6
  · obtain ⟨c1, h2⟩ := hcur2 id1 b1 h2
    exact h.inv.wri id1 c1 q s1 h1 h2 h3 h4 h5
  · exact ht.far q fun e => hn id b s hvis hcb hro (by rw [e]; exact hp2)
end
end Go.Proofs.YtceobmnljdhkmaaGreatDoor.Ev
/- statements whose order is open: the step -/
namespace Go.Proofs.YtceobmnljdhkmaaGreatDoor.Ev
open Go
variable {r : AV × St} {P : Program}
section
variable {pr : Prims} {all : Array Oper} {ih : IH} {V : Env} {ops : List Oper} {S : Nat → Snap} {av : Nat → AV} (W : Way0 P pr all ih V ops S av)
variable {Γ : Map} {a : Act} {w : World} {D : Nat → Prop} {a' : Act} {w' : World} {ψ : Map} {vals : Nat → Value} {i : Nat} {o : Oper} (h : At V ops S av Γ a w D a' w' ψ vals i o)
include W h
theorem At.bound {ah : List (Nat × Nat)} (hah : ∀ p ∈ ah, ∃ (id : Id) (t off : Nat), V.find t = some (.ptr id off) ∧ p = (id.nat, id.nat + 1)) (us : List Bool) : ∀ p ∈ hideR us (S i).recs ah, p.2 ≤ (S i).n := by
  have hil := h.lt
  refine hideR_bound us _ ah (fun R hR => ?_) (fun p hp => ?_)
  · obtain ⟨n, hn, hRn⟩ := List.mem_iff_getElem.1 hR
    have hlen : (S i).recs.length = i := by
      cases i with
      | zero => rw [W.rec0]; rfl
      | succ i => obtain ⟨_, _, _, q⟩ := W.recs (i := i + 1) (Nat.le_of_lt hil) i (by omega); exact q
    have hni : n < i := by omega
    obtain ⟨R', g1, g2, _⟩ := W.recs (Nat.le_of_lt hil) (i - 1 - n) (by omega)
    rw [show i - 1 - (i - 1 - n) = n by omega] at g1
    have e : R' = R := by rw [List.getElem?_eq_getElem hn] at g1; injection g1 with g1; rw [← g1, hRn]
    subst e
    obtain ⟨_, n1, _, _⟩ := W.recN (by omega) g2
    refine ⟨by rw [n1]; exact mono_of h.facts (by omega) (Nat.le_refl _), fun p hp => ?_⟩
    obtain ⟨_, _, _, want, _, hw⟩ := W.trans_of (show i - 1 - n < ops.length by omega)
    cases hw with
    | pass _ _ hr => rw [hr] at g2; injection g2 with g2 _; rw [← g2] at hp; cases hp
    | tot _ _ _ _ _ hr => rw [hr] at g2; injection g2 with g2 _; rw [← g2] at hp; cases hp
    | ext _ _ _ _ _ _ hr => rw [hr] at g2; injection g2 with g2 _; rw [← g2] at hp; cases hp
    | shy _ _ _ _ _ _ hr => rw [hr] at g2; injection g2 with g2 _; rw [← g2] at hp; cases hp
    | sto _ _ _ _ _ _ _ _ _ id _ _ b _ _ _ hl _ _ _ _ _ hr =>
      rw [hr] at g2; injection g2 with g2 _; rw [← g2] at hp
      have hp : p = (id.nat, id.nat + 1) := List.mem_singleton.1 hp
      rw [hp]
      have hlt : id.nat < (S (i - 1 - n)).n := by
        rcases Nat.lt_or_ge id.nat (S (i - 1 - n)).n with h1 | h1
        · exact h1
        · have := sim0_top h.sim0 h.facts (i - 1 - n) (by omega) id h1
          rw [show Tr.find id (S (i - 1 - n)).st.heap = some b from hl.2] at this; cases this
      exact Nat.lt_of_lt_of_le hlt (mono_of h.facts (by omega) (Nat.le_refl _))
  · obtain ⟨id, t, off, g1, rfl⟩ := hah p hp
    obtain ⟨_, g2⟩ := find_nil h.sl0 g1
    obtain ⟨p, s, g3, _⟩ := g2.inv_ptr
    have : id.nat < (S 0).n := by
      rcases Nat.lt_or_ge id.nat (S 0).n with h1 | h1
      · exact h1
      · rw [h.sim0.fresh id h1] at g3; cases g3
    exact Nat.lt_of_lt_of_le this (mono_of h.facts (Nat.zero_le _) (Nat.le_refl _))
theorem At.step (hpr : PrimsOK P pr) (hih : IHOK P ih) (hfu : FunsOK P) {Q : Exit → Act → World → Prop} {K : Act → World → Prop}
    (hK : ∀ a'' w'' ψ' vals', DInv ops S av Γ a w (fun m => D m ∨ m = i) a'' w'' ψ' vals' → K a'' w'') : wpOp P all Q i K a' w' := by
  have hil := h.lt
  have hall : all[i]? = some o := by rw [← Array.getElem?_toList, W.eq]; exact h.op
  have hsl := h.slots W
  have hvis0 : ∀ id, (S i).st.vis id ↔ (S 0).st.vis id := vis_eq (W.hid i (Nat.le_of_lt hil))
  obtain ⟨_, want, hwant, hway⟩ := W.step i o h.op
  have hwt := hwant _ a' hsl
  have happ : ∀ (l : List (Nat × Nat)) (st : St) (id : Id), st.hid = appR l (S i).st.hid → (st.vis id ↔ (S 0).st.vis id ∧ ¬ Out' l id.nat) := fun l st id e => by
    have hv : st.vis id ↔ ∀ p ∈ st.hid, ¬ (p.1 ≤ id.nat ∧ id.nat < p.2) := Iff.rfl
    rw [hv, e, appR_eq]
    refine ⟨fun hv => ⟨(hvis0 id).1 fun p hp => hv p (List.mem_append_right _ hp), fun ⟨p, hp, h1⟩ => hv p (List.mem_append_left _ hp) h1⟩, fun ⟨h1, h2⟩ p hp h3 => ?_⟩
    rcases List.mem_append.1 hp with hp | hp
    · exact h2 ⟨p, hp, h3⟩
    · exact (hvis0 id).2 h1 p hp h3
  have hro0 := W.ro i (Nat.le_of_lt hil)
  have hroN : (S i).st.ro ≤ (S i).n := by rw [hro0]; exact Nat.le_trans W.roN (mono_of h.facts (Nat.zero_le _) (Nat.le_refl _))
  unfold wpOp
  rw [hall]
  simp only
  cases hway with
  | pass ha hs hr =>
    rw [if_neg (by rw [hwt]; simp)]
    exact hK _ _ _ _ (h.pass W (by rw [ha]; exact .u) hs)
  | tot st1 ht he _ hs hr =>
    rw [if_pos hwt]
    refine .inl (opK_ok hpr hih hfu o.op rfl he (h.sim W hr rfl rfl fun id hv => (happ _ _ id rfl).1 hv) hsl Q K fun x st' v w'' Γ'' h1 h2 h3 => ?_)
    obtain ⟨rfl, rfl⟩ : x = av i ∧ st' = st1 := by have h1 : some (x, st') = some (av i, st1) := h1; injection h1 with h1; injection h1 with e1 e2; exact ⟨e1, e2⟩
    refine hK _ _ _ _ (h.runG W (st := stS (hideR (planOf ops (masksL ops []) i).un (S i).recs []) (S i).st) hr (Nat.le_of_eq hro0.symm) hroN (fun e => by rw [show totB ops i = true from ht] at e; cases e) (happ _ _ · rfl) (h.bound W (fun p hp => by cases hp) _) ⟨h2, rfl, rfl, hs, h3⟩)
  | ext ah hah st1 ht he hs hr =>
    rw [if_pos hwt]
    refine .inl (opK_ok hpr hih hfu o.op rfl he (h.sim W hr rfl rfl fun id hv => (happ _ _ id rfl).1 hv) hsl Q K fun x st' v w'' Γ'' h1 h2 h3 => ?_)
    obtain ⟨rfl, rfl⟩ : x = av i ∧ st' = st1 := by have h1 : some (x, st') = some (av i, st1) := h1; injection h1 with h1; injection h1 with e1 e2; exact ⟨e1, e2⟩
    refine hK _ _ _ _ (h.runG W (st := stE (hideR (planOf ops (masksL ops []) i).un (S i).recs ah) (S i).st) hr (by rw [← hro0]; exact hroN) (Nat.le_refl _) (fun _ => rfl) (happ _ _ · rfl) (h.bound W hah _) ⟨h2, rfl, rfl, hs, h3⟩)
  | shy x hx hin st1 he hs hr =>
    rw [if_pos hwt]
    refine .inl (opK_ok hpr hih hfu o.op rfl he (h.sim W hr rfl rfl fun id hv => (happ _ _ id rfl).1 hv) hsl Q K fun x st' v w'' Γ'' h1 h2 h3 => ?_)
    obtain ⟨rfl, rfl⟩ : x = av i ∧ st' = st1 := by have h1 : some (x, st') = some (av i, st1) := h1; injection h1 with h1; injection h1 with e1 e2; exact ⟨e1, e2⟩
    refine hK _ _ _ _ (h.runG W (st := stE (complR (S i).n x) (S i).st) hr (by rw [← hro0]; exact hroN) (Nat.le_refl _) (fun _ => rfl) (happ _ _ · rfl) (complR_bound fun id e => (hx id e).2) ⟨h2, rfl, rfl, hs, h3⟩)
  | sto ah hah hnt t x y ho hk ha id off v b hx hy hc hl h1 h2 h3 hro hs hr =>
    rw [if_pos hwt]
    have hsim := h.sim W hr (st := stS (hideR (planOf ops (masksL ops []) i).un (S i).recs ah) (S i).st) rfl rfl fun id hv => (happ _ _ id rfl).1 hv
    obtain ⟨p, s, hp, e⟩ := (hx _ a' (h.globN) hsl).inv_ptr
    have hcy := hy _ a' (h.globN) hsl
    obtain ⟨w'', g1, ⟨cs, el, g2⟩, g3⟩ := run_write (P := P) hsim hl hro hp hcy.cells h2 h3
    have hsz : (a'.eval y).cells.size = szOf P t := by
      have := Nat.eq_of_beq_eq_true h1
      rw [lenL_eq, hcy.cells.length] at this; simpa using this
    have hrun : (execOp a'.eval o).run P w' = .ok .skip w'' := by
      simp only [execOp, ho, e, Instr.storeAt, Instr.sureAddr, Sem.run_bind, Sem.run_pure, Result.andThen_ok, storeVar, run_sizeOf hk, Sem.run_ite, hsz, ne_eq, not_true_eq_false, if_false, g1]
    left
    unfold Oper.wp
    rw [hrun]
    have hv := (happ _ (stS (hideR (planOf ops (masksL ops []) i).un (S i).recs ah) (S i).st) id rfl).1 hl.1
    exact hK _ _ _ _ (h.stored W ha hr rfl hv.2 hl rfl (fun id hv => ((happ _ _ id rfl).1 hv).1) (by rw [← W.ro i (Nat.le_of_lt hil)]; exact hro) hs hp g2 g3)
end
end Go.Proofs.YtceobmnljdhkmaaGreatDoor.Ev
/- statements whose order is open: all of them, in any order -/
namespace Go.Proofs.YtceobmnljdhkmaaGreatDoor.Ev
open Go
variable {r : AV × St} {P : Program}
theorem wp_const {o : Oper} {a : Act} {w : World} {C : Prop} (h : o.wp P a w (fun _ _ => C) (fun _ _ _ => False)) : C := by
  unfold Oper.wp at h
  generalize (execOp a.eval o).run P w = x at h
  cases x with
  | ok n w' =>
    cases n with
    | value v => exact h
    | skip => exact h
    | defer d => exact h
    | enter f args =>
      obtain ⟨e, w2, fr, h1, _⟩ := h []
      cases e with
      | returned v => exact h1
      | panicked c => exact h1.elim
      | outgrown => obtain ⟨_, _, h2⟩ := h1; exact h2.elim
    | row q args =>
      obtain ⟨v, w2, h1, _⟩ := h (Frame.enter P 0 #[] .normal) []
      exact h1
    | _ => exact h.elim
  | halt x w' => cases x <;> exact h.elim
theorem wpOp_const {all : Array Oper} {i : Nat} {a : Act} {w : World} {C : Prop} (h : wpOp P all (fun _ _ _ => False) i (fun _ _ => C) a w) : C := by
  unfold wpOp at h
  split at h
  · exact h
  · split at h
    · rcases h with h | ⟨_, _, _, h⟩
      · exact wp_const h
      · exact h.elim
    · exact h
section
variable {pr : Prims} {all : Array Oper} {ih : IH} {V : Env} {ops : List Oper} {S : Nat → Snap} {av : Nat → AV} (W : Way0 P pr all ih V ops S av)
variable {Γ : Map} {a : Act} {w : World}
/-- The invariant at the start. -/
theorem DInv.start (hs : Sim (S 0).st Γ w) (vals : Nat → Value) : DInv ops S av Γ a w (fun _ => False) a w Γ vals := by
  have hb : ∀ {id q}, Γ id = some q → id.nat < (S 0).n := fun {id q} hq => by
    rcases Nat.lt_or_ge id.nat (S 0).n with h1 | h1
    · exact h1
    · rw [hs.fresh id h1] at hq; cases hq
  have hcur : ∀ id, cur (heaps S) (fun _ => False) id ops.length = Tr.find id (S 0).st.heap := fun id => cur_stay (Nat.zero_le _) fun _ _ _ h => h.1
  refine ⟨fun _ _ _ h => h.elim, fun _ h => h.elim, rfl, rfl, fun t => (slv_stay (Nat.zero_le _) fun _ _ _ h => h.1).symm, fun _ h => h.elim, fun id b h1 h2 => ?_, fun id id' b b' p s s' h1 h2 h3 h4 => ?_, fun id q hq => .inl (hb hq), fun _ _ => rfl, rfl, rfl, rfl, Nat.le_refl _, fun _ _ _ => rfl, fun id b q s h1 h2 h3 h4 _ => ?_, fun _ h => h.elim⟩
  · rw [show cur _ _ _ _ = _ from hcur id] at h2
    obtain ⟨p, s, g1, g2, g3⟩ := hs.blk id b ⟨h1, h2⟩
    refine ⟨p, s, g1, g2, g3.mono fun id q hq => Map.below_in hq ?_⟩
    rw [lev_stay (Nat.zero_le _) fun _ _ _ h => h.1]
    exact hb hq
  · rw [show cur _ _ _ _ = _ from hcur id] at h3
    rw [show cur _ _ _ _ = _ from hcur id'] at h4
    exact hs.inj id id' b b' p s s' ⟨h1, h3⟩ ⟨h2, h4⟩
  · rw [show cur _ _ _ _ = _ from hcur id] at h2
    exact ⟨id, b, s, ⟨h1, h2⟩, h3, h4⟩
include W
/-- What is known of the operations, wherever they come up. -/
theorem Way0.facts (hpr : PrimsOK P pr) (hih : IHOK P ih) (hfu : FunsOK P) (hs : Sim (S 0).st Γ w) (hsl : SlR Γ .nil V a.tmps) (hL : (S 0).L = .nil) (hd : ∀ (m : Nat) (o : Oper) (d : Nat), ops[m]? = some o → o.dst = some d → d < a.tmps.size) : ∀ m, m < ops.length → Fact S (totB ops) m := by
  have main : ∀ n i a' w' ψ vals, i + n = ops.length → DInv ops S av Γ a w (fun m => m < i) a' w' ψ vals → ∀ m, m < ops.length → Fact S (totB ops) m := by
    intro n
    induction n with
    | zero => intro i a' w' ψ vals hi hinv m hm; exact hinv.fact m (by omega)
    | succ n ihn =>
      intro i a' w' ψ vals hi hinv
      have hil : i < ops.length := by omega
      have hop : ops[i]? = some ops[i] := by simp [hil]
      have hat : At V ops S av Γ a w (fun m => m < i) a' w' ψ vals i ops[i] := ⟨hinv, hop, Nat.lt_irrefl _, W.low i _ hop, fun m hm => hinv.fact m hm, .inl fun _ h => h, hs, hsl, hL, hd⟩
      refine wpOp_const (P := P) (all := all) (i := i) (a := a') (w := w') (hat.step W hpr hih hfu fun a'' w'' ψ' vals' h => ?_)
      have e : (fun m => m < i ∨ m = i) = fun m => m < i + 1 := by funext m; exact propext ⟨fun h => by omega, fun h => by omega⟩
      rw [e] at h
      exact ihn (i + 1) a'' w'' ψ' vals' (by omega) h
  refine main ops.length 0 a w Γ (fun _ => undef) (by omega) ?_
  have e : (fun m : Nat => m < 0) = fun _ => False := by funext m; simp
  rw [e]; exact DInv.start hs _
theorem Way0.any (hpr : PrimsOK P pr) (hih : IHOK P ih) (hfu : FunsOK P) (hs : Sim (S 0).st Γ w) (hsl : SlR Γ .nil V a.tmps) (hL : (S 0).L = .nil) (hd : ∀ (m : Nat) (o : Oper) (d : Nat), ops[m]? = some o → o.dst = some d → d < a.tmps.size)
    {Q : Exit → Act → World → Prop} (hQ : ∀ a'' w'' ψ vals, DInv ops S av Γ a w (fun m => m < ops.length) a'' w'' ψ vals → Q .normal a'' w'') : wpAny P .any all Q all.size (Array.replicate all.size false) a w := by
  have hf := W.facts hpr hih hfu hs hsl hL hd
  have hsz : all.size = ops.length := by rw [← W.eq]; simp
  have main : ∀ (fuel : Nat) (listed : Array Bool) (a' : Act) (w' : World) (ψ : Map) (vals : Nat → Value), listed.size = ops.length → listed.toList.count false ≤ fuel → DInv ops S av Γ a w (fun m => listed.getD m false = true) a' w' ψ vals → wpAny P .any all Q fuel listed a' w' := by
    intro fuel
    induction fuel with
    | zero =>
      intro listed a' w' ψ vals h1 h2 hinv
      have hall : ∀ m, m < ops.length → listed.getD m false = true := fun m hm => by
        have h3 : false ∉ listed.toList := List.count_eq_zero.1 (by omega)
        have hlt : m < listed.size := by omega
        have h4 : listed.getD m false = listed[m] := by simp [Array.getD, hlt]
        rw [h4]
        cases hb : listed[m] with
        | true => rfl
        | false => exact absurd (by rw [← hb]; simp) h3
      refine ⟨?_, hQ a' w' ψ vals ?_⟩
      · unfold Region.ready
        rw [List.filter_eq_nil_iff]
        intro i hi
        have hi : i < ops.length := by rw [← hsz]; exact List.mem_range.1 hi
        have := hall i hi
        have hlt : i < listed.size := by omega
        simp [Array.getD, hlt] at this ⊢
        simp [this]
      · have e : (fun m => listed.getD m false = true) = fun m => m < ops.length := by funext m; exact propext ⟨fun h => hinv.in_ m h, hall m⟩
        rw [e] at hinv; exact hinv
    | succ fuel ihf =>
      intro listed a' w' ψ vals h1 h2 hinv
      have hready : ∀ i, i ∈ Region.ready .any all listed ↔ (i < ops.length ∧ listed.getD i false = false ∧ ∀ o, ops[i]? = some o → ∀ m ∈ needsB o, listed.getD m false = true) := fun i => by
        unfold Region.ready
        rw [List.mem_filter, List.mem_range, hsz]
        constructor
        · rintro ⟨g1, g2⟩
          have hlt : i < listed.size := by omega
          have hop : all[i]? = ops[i]? := by rw [← Array.getElem?_toList, W.eq]
          have hop2 : ops[i]? = some ops[i] := by simp [g1]
          rw [hop, hop2] at g2
          simp only [Bool.and_eq_true, Option.map_some, Option.getD_some, Array.all_eq_true'] at g2
          refine ⟨g1, ?_, fun o ho m hm => ?_⟩
          · have := g2.1
            simp [Array.getD, hlt] at this ⊢; exact this
          · rw [hop2] at ho; injection ho with ho; subst ho
            obtain ⟨e, he, rfl⟩ := List.mem_map.1 hm
            obtain ⟨he1, he2⟩ := List.mem_filter.1 he
            have := g2.2 e (by simpa using he1)
            rw [he2] at this
            simpa using this
        · rintro ⟨g1, g2, g3⟩
          have hlt : i < listed.size := by omega
          have hop : all[i]? = ops[i]? := by rw [← Array.getElem?_toList, W.eq]
          have hop2 : ops[i]? = some ops[i] := by simp [g1]
          refine ⟨g1, ?_⟩
          rw [hop, hop2]
          simp only [Bool.and_eq_true, Option.map_some, Option.getD_some, Array.all_eq_true']
          refine ⟨by simp [Array.getD, hlt] at g2 ⊢; exact g2, fun e he => ?_⟩
          cases hb : Region.binds .any e with
          | false => simp
          | true =>
            have := g3 _ hop2 e.on (List.mem_map.2 ⟨e, List.mem_filter.2 ⟨by simpa using he, hb⟩, rfl⟩)
            simp [this]
      refine ⟨fun hnil => hQ a' w' ψ vals ?_, fun i hi => ?_⟩
      · have hall : ∀ m, m < ops.length → listed.getD m false = true := by
          intro m
          induction m using Nat.strongRecOn with
          | _ m ihm =>
            intro hm
            cases hb : listed.getD m false with
            | true => rfl
            | false =>
              have : m ∈ Region.ready .any all listed := (hready m).2 ⟨hm, hb, fun o ho q hq => ihm q (W.low m o ho q hq) (by have := W.low m o ho q hq; omega)⟩
              rw [hnil] at this; cases this
        have e : (fun m => listed.getD m false = true) = fun m => m < ops.length := by funext m; exact propext ⟨fun h => hinv.in_ m h, hall m⟩
        rw [e] at hinv; exact hinv
      · obtain ⟨g1, g2, g3⟩ := (hready i).1 hi
        have hop2 : ops[i]? = some ops[i] := by simp [g1]
        have hlt : i < listed.size := by omega
        have hat : At V ops S av Γ a w (fun m => listed.getD m false = true) a' w' ψ vals i ops[i] := ⟨hinv, hop2, by rw [g2]; simp, g3 _ hop2, fun m hm => hf m (by omega), .inr hf, hs, hsl, hL, hd⟩
        refine hat.step W hpr hih hfu fun a'' w'' ψ' vals' h => ?_
        refine ihf _ a'' w'' ψ' vals' (by simp [h1]) ?_ ?_
        · have hli : listed.toList[i]'(by simpa using hlt) = false := by simp [Array.getD, hlt] at g2 ⊢; exact g2
          have hmem : false ∈ listed.toList := by rw [← hli]; exact List.getElem_mem _
          have hpos : 0 < listed.toList.count false := List.count_pos_iff.2 hmem
          rw [Array.toList_setIfInBounds, List.count_set (by simpa using hlt), hli]
          simp
          simp at h2 hpos
          omega
        · have e : (fun m => (listed.setIfInBounds i true).getD m false = true) = fun m => listed.getD m false = true ∨ m = i := by
            funext m
            apply propext
            by_cases e : m = i
            · subst e; simp [Array.getD, hlt]
            · simp only [e, or_false]
              rw [Array.getD_eq_getD_getElem?, Array.getElem?_setIfInBounds_ne (fun h => e h.symm), ← Array.getD_eq_getD_getElem?]
          rw [e]; exact h
  refine main all.size _ a w Γ (fun _ => undef) (by simp [hsz]) (by simp) ?_
  have e : (fun m => (Array.replicate all.size false).getD m false = true) = fun _ => False := by
    funext m
    simp only [Array.getD, Array.size_replicate]
    split <;> simp
  rw [e]; exact DInv.start hs _
end
end Go.Proofs.YtceobmnljdhkmaaGreatDoor.Ev
/- statements whose order is open: the evaluator of a statement -/
namespace Go.Proofs.YtceobmnljdhkmaaGreatDoor.Ev
open Go
variable {r : AV × St} {P : Program}
theorem dstsOK_all {N : Nat} : ∀ {l : List Oper}, dstsOK N l = true → ∀ (m : Nat) (o : Oper) (d : Nat), l[m]? = some o → o.dst = some d → d < N := by
  intro l
  induction l with
  | nil => intro _ m o d h; simp at h
  | cons x l ih =>
    intro h m o d hm hd
    obtain ⟨h1, h2⟩ := dstsOK_cons h
    cases m with
    | zero => simp at hm; subst hm; exact h1 d hd
    | succ m => exact ih h2 m o d (by simpa using hm) hd
section
variable {pr : Prims} {all : Array Oper} {ih : IH} {V : Env} {ops : List Oper} {S : Nat → Snap} {av : Nat → AV}
theorem Trans.ro_hid {o : Oper} {p : OpPlan} {s s' : Snap} {x : AV} (h : Trans P pr all ih V o p s x s') : s'.st.ro = s.st.ro ∧ s'.st.hid = s.st.hid := by
  obtain ⟨_, want, _, hw⟩ := h
  cases hw with
  | pass _ hs _ => rw [hs]; exact ⟨rfl, rfl⟩
  | tot _ _ _ _ hs _ => rw [hs]; exact ⟨rfl, rfl⟩
  | shy _ _ _ _ _ hs _ => rw [hs]; exact ⟨rfl, rfl⟩
  | ext _ _ _ _ _ hs _ => rw [hs]; exact ⟨rfl, rfl⟩
  | sto _ _ _ _ _ _ _ _ _ _ _ _ _ _ _ _ _ _ _ _ _ hs _ => rw [hs]; exact ⟨rfl, rfl⟩
theorem way_of (hok : openOK ops = true) (heq : all.toList = ops) {st : St} (hrn : st.ro ≤ st.nxt.nat) (h0 : S 0 = ⟨[], .nil, st⟩) (hS : ∀ i o p, (plansOf ops)[i]? = some (o, p) → Trans P pr all ih V o p (S i) (av i) (S (i + 1))) : Way0 P pr all ih V ops S av := by
  obtain ⟨h1, h2⟩ := openOK_spec hok
  have hst : ∀ i o, ops[i]? = some o → Trans P pr all ih V o (planOf ops (masksL ops []) i) (S i) (av i) (S (i + 1)) := fun i o ho => hS i o _ (plansOf_get ho)
  have hrh : ∀ i, i ≤ ops.length → (S i).st.ro = (S 0).st.ro ∧ (S i).st.hid = (S 0).st.hid := by
    intro i
    induction i with
    | zero => intro _; exact ⟨rfl, rfl⟩
    | succ i ihi =>
      intro hi
      obtain ⟨q1, q2⟩ := ihi (by omega)
      obtain ⟨q3, q4⟩ := (hst i ops[i] (by simp [show i < ops.length from hi])).ro_hid
      exact ⟨q3.trans q1, q4.trans q2⟩
  exact ⟨heq, h1, h2, hst, fun i hi => (hrh i hi).1, by (rw [h0]; exact hrn), fun i hi => (hrh i hi).2, by rw [h0]⟩
variable (W : Way0 P pr all ih V ops S av)
variable {Γ : Map} {a : Act} {w : World} {a' : Act} {w' : World} {ψ : Map} {vals : Nat → Value}
include W
theorem Way0.done (hs : Sim (S 0).st Γ w) (hsl : SlR Γ .nil V a.tmps) (hL : (S 0).L = .nil) (hd : ∀ (m : Nat) (o : Oper) (d : Nat), ops[m]? = some o → o.dst = some d → d < a.tmps.size) (h : DInv ops S av Γ a w (fun m => m < ops.length) a' w' ψ vals) :
    Grow (S 0).st Γ w (S ops.length).st ψ w' ∧ SlR ψ (S ops.length).L V a'.tmps := by
  have hf := h.fact
  have hmono : ∀ {m k : Nat}, m ≤ k → k ≤ ops.length → (S m).n ≤ (S k).n := fun h1 h2 => mono_of hf h1 h2
  have hro := W.ro ops.length (Nat.le_refl _)
  have hhid := W.hid ops.length (Nat.le_refl _)
  have hvis : ∀ id, (S ops.length).st.vis id ↔ (S 0).st.vis id := vis_eq hhid
  have hcur : ∀ id, cur (heaps S) (fun m => m < ops.length) id ops.length = Tr.find id (S ops.length).st.heap := fun id => cur_same fun m hm _ => hm
  have hb : ∀ {id q}, Γ id = some q → id.nat < (S 0).n := fun {id q} hq => by
    rcases Nat.lt_or_ge id.nat (S 0).n with h1 | h1
    · exact h1
    · rw [hs.fresh id h1] at hq; cases hq
  have hsub : Map.le Γ ψ := fun id q hq => by rw [h.base id (hb hq)]; exact hq
  have hbl : ∀ n, Map.le (ψ.below n) ψ := fun n id q hq => (Map.below_of hq).2
  refine ⟨⟨⟨fun id b hl => ?_, fun id id' b b' p s s' h1 h2 h3 h4 => ?_, fun id hid => ?_, fun id hid => ?_, hs.glob.mono hsub⟩, hsub, h.base, h.os, h.tape, h.output, h.hsize, hro, hhid, hmono (Nat.zero_le _) (Nat.le_refl _), h.frame, fun q id b s h1 h2 h3 h4 => ?_, fun id h1 h2 => ?_⟩, ?_⟩
  · obtain ⟨p, s, g1, g2, g3⟩ := h.blk id b ((hvis id).1 hl.1) ((hcur id).trans hl.2)
    exact ⟨p, s, g1, g2, g3.mono (hbl _)⟩
  · exact h.inj id id' b b' p s s' ((hvis id).1 h1.1) ((hvis id').1 h2.1) ((hcur id).trans h1.2) ((hcur id').trans h2.2) h3 h4
  · cases hp : ψ id with
    | none => rfl
    | some q =>
      have hid : (S ops.length).n ≤ id.nat := hid
      rcases h.dom id q hp with h1 | ⟨j, hj, h1, h2⟩
      · have := hmono (Nat.zero_le ops.length) (Nat.le_refl _); omega
      · have := hmono (show j + 1 ≤ ops.length from hj) (Nat.le_refl _); omega
  · exact sim0_top hs hf ops.length (Nat.le_refl _) id hid
  · exact h.wri id b q s ((hvis id).1 h2.1) ((hcur id).trans h2.2) h3 h4 h1
  · have key : ∀ m, m ≤ ops.length → Tr.find id (S m).st.heap = Tr.find id (S 0).st.heap := by
      intro m
      induction m with
      | zero => intro _; rfl
      | succ m ihm =>
        intro hm
        have h3 := (hf m hm).prot id (Nat.lt_of_lt_of_le h1 (hmono (Nat.zero_le _) (by omega))) (h2.elim .inl fun h => .inr (.inl h))
        have h4 : Tr.find id (S (m + 1)).st.heap = Tr.find id (S m).st.heap := Classical.byContradiction h3
        exact h4.trans (ihm (by omega))
    exact key _ (Nat.le_refl _)
  · have hLm : ∀ m, m ≤ ops.length → ∀ t b, (S m).L.look V t = some b → t < a.tmps.size ∧ CR ψ b (slv (a.tmps.getD t undef) (fun m => (ops[m]?).bind (·.dst)) vals (fun m => m < ops.length) t m) := by
      intro m
      induction m with
      | zero =>
        intro _ t b hb
        rw [hL] at hb
        obtain ⟨g1, g2⟩ := hsl t b hb
        exact ⟨g1, g2.mono hsub⟩
      | succ m ihm =>
        intro hm t b hb
        obtain ⟨om, hom, hT⟩ := W.trans_of (show m < ops.length from hm)
        rw [hT.slot] at hb
        have hdst : (ops[m]?).bind (·.dst) = om.dst := by rw [hom]; rfl
        cases hod : om.dst with
        | none =>
          rw [hod] at hb
          obtain ⟨g1, g2⟩ := ihm (by omega) t b hb
          refine ⟨g1, ?_⟩
          rw [slv_neg (by rintro ⟨_, e⟩; rw [hdst, hod] at e; cases e)]; exact g2
        | some d =>
          rw [hod] at hb
          have hb2 : (if d = t then some (av m) else (S m).L.look V t) = some b := hb
          clear hb
          split at hb2
          · rename_i e
            subst e
            injection hb2 with hb
            refine ⟨hd m om d hom hod, ?_⟩
            rw [slv_pos (D := fun m => m < ops.length) (m := m) ⟨hm, by rw [hdst, hod]⟩, ← hb]
            exact (h.res m hm).mono (hbl _)
          · rename_i e
            obtain ⟨g1, g2⟩ := ihm (by omega) t b hb2
            refine ⟨g1, ?_⟩
            rw [slv_neg (by rintro ⟨_, e'⟩; rw [hdst, hod] at e'; injection e' with e'; exact e e')]; exact g2
    intro t b hb
    obtain ⟨g1, g2⟩ := hLm _ (Nat.le_refl _) t b hb
    exact ⟨by rw [h.size]; exact g1, by rw [h.slot t]; exact g2⟩
theorem Way0.look (hL : (S 0).L = .nil) {n : Nat} (hn : n ∉ dstsOf ops) (V' : Env) : (S ops.length).L.look V' n = Env.nil.look V' n := by
  have key : ∀ m, m ≤ ops.length → (S m).L.look V' n = Env.nil.look V' n := by
    intro m
    induction m with
    | zero => intro _; rw [hL]
    | succ m ihm =>
      intro hm
      obtain ⟨om, hom, hT⟩ := W.trans_of (show m < ops.length from hm)
      rw [hT.slot, dstK_look (fun d hd e => hn ?_)]
      · exact ihm (by omega)
      · subst e
        exact List.mem_filterMap.2 ⟨om, List.mem_of_getElem? hom, hd⟩
  exact key _ (Nat.le_refl _)
end
theorem openK_ok {pr : Prims} (hmix : P.follows .mixedOrders = true) (hpr : PrimsOK P pr) {ih : IH} (hih : IHOK P ih) (hfu : FunsOK P) (U : FI) (id : Nat) (ops : Array Oper) : CodeOK P U (.region id ops true) (openK P pr U ops ih) := fun {V st k r Γ a w} h hs hl hw hN Q hQ => by
  have h : (Bool.rec (motive := fun _ => IH → CdS) (fun _ _ _ _ => none) (fun ih V st k => ifK (Nat.ble st.ro st.nxt.nat) (openR P pr ops ih (plansOf ops.toList) [] .nil V st (endK (keepL U.1 ops.toList) V k)) none) (dstsOK U.2 ops.toList && openOK ops.toList)) ih V st k = some r := h
  cases hd : (dstsOK U.2 ops.toList && openOK ops.toList) with
  | false => rw [hd] at h; cases h
  | true =>
    rw [hd] at h
    rw [Bool.and_eq_true] at hd
    obtain ⟨hrn, h⟩ := ifK_yes h
    obtain ⟨S, av, h0, hk, hS⟩ := openR_spec (plansOf ops.toList) ⟨[], .nil, st⟩ _ h
    rw [plansOf_len] at hk
    have W := way_of (P := P) hd.2 rfl (Nat.le_of_ble_eq_true hrn) h0 hS
    have hL : (S 0).L = .nil := by rw [h0]
    have hst0 : (S 0).st = st := by rw [h0]
    have hs' : Sim (S 0).st Γ { w with drawn := w.drawn + 1 } := by rw [hst0]; exact hs.drew rfl
    have hdd : ∀ (m : Nat) (o : Oper) (d : Nat), ops.toList[m]? = some o → o.dst = some d → d < a.tmps.size := fun m o d h1 h2 => Nat.lt_of_lt_of_le (dstsOK_all hd.1 m o d h1 h2) hN
    refine wp_region_any hmix (W.any hpr hih hfu hs' hl hL hdd fun a' w' ψ vals hinv => ?_)
    obtain ⟨g1, g2⟩ := W.done hs' hl hL hdd hinv
    obtain ⟨V', q1, q2, q3⟩ := endK_spec hk hw fun n hn V' => W.look hL hn V'
    rw [hst0] at g1
    exact hQ .normal V' _ a' w' ψ q1 q2 ((Grow.drew (w' := { w with drawn := w.drawn + 1 }) hs rfl rfl rfl rfl).trans g1) (q3 ψ _ g2) hinv.size hinv.dfr
end Go.Proofs.YtceobmnljdhkmaaGreatDoor.Ev
/- the evaluator of functions -/
namespace Go.Proofs.YtceobmnljdhkmaaGreatDoor.Ev
open Go
section
variable (P : Program) (pr : Prims)
noncomputable def seqK (U : FI) (a b : Code) : IH → CdS := fun ih V st k => ih U a V st fun o V st => Out.rec (fun V st => ih U b V st k) (fun i => k (.exit i)) (k .ret) o V st
noncomputable def condK (U : FI) (x : Operand) (a b : Code) : IH → CdS := fun ih V st k => opd x .nil V fun y => asB y fun t => ih U (Bool.rec b a t) V st k
noncomputable def blockK (U : FI) (id : Nat) (c : Code) : IH → CdS := fun ih V st k => ih U c V st fun o => Out.rec (k .normal) (fun i => Bool.rec (k (.exit i)) (k .normal) (Nat.beq i id)) (k .ret) o
noncomputable def loopR (U : FI) (c : Code) (n : Nat) : IH → CdS := Nat.rec (fun _ _ _ _ => none) (fun _ rest ih V st k => ih U c V st fun o V st => Out.rec (fun V st => rest ih V st k) (fun i => k (.exit i)) (k .ret) o V st) n
/-- So many rounds of a loop at most. -/
def roundN : Nat := 100000
noncomputable def nonC : IH → CdS := fun _ _ _ _ => none
noncomputable def codeK (U : FI) : Code → IH → CdS :=
  Code.rec (fun _ V st k => k .normal V st) (fun _ ops d => Bool.rec (plainK P pr U ops) (openK P pr U ops) d) (fun a b _ _ => seqK U a b) (fun x a b _ _ => condK U x a b) (fun id c _ => blockK U id c) (fun c _ => loopR U c roundN) (fun _ _ _ _ _ _ => nonC) (fun id _ V st k => k (.exit id) V st) (fun _ _ => nonC) (fun _ => nonC) (fun _ => nonC) (fun _ V st k => k .ret V st) (fun _ => nonC)
noncomputable def evC (n : Nat) : IH := Nat.rec (fun _ _ _ _ _ => none) (fun _ ih U c => codeK P pr U c ih) n
noncomputable def run (n : Nat) (f : FuncId) (args : List AV) (st : St) (k : KS) : OR := callK P pr f (evC P pr n) args st k
end
variable {r : AV × St} {P : Program}
theorem loopR_ok {ih : IH} (hih : IHOK P ih) (U : FI) (c : Code) (Q : Exit → Act → World → Prop) : ∀ (n : Nat) {V : Env} {st : St} {k : Out → Env → St → OR} {Γ : Map} {a : Act} {w : World}, loopR U c n ih V st k = some r → Sim st Γ w → SlR Γ .nil V a.tmps → Within V U.1 → U.2 ≤ a.tmps.size →
    (∀ o V' st' a' w' Γ', k o V' st' = some r → Within V' U.1 → Grow st Γ w st' Γ' w' → SlR Γ' .nil V' a'.tmps → a'.tmps.size = a.tmps.size → a'.defers = a.defers → Q (outX o) a' w') → Code.rounds P c Q n a w := by
  intro n
  induction n with
  | zero => intro V st k Γ a w h; cases h
  | succ n ihn =>
    intro V st k Γ a w h hs hl hw hN hQ
    rw [rounds_succ]
    have h : ih U c V st (fun o V st => Out.rec (motive := fun _ => Env → St → OR) (fun V st => loopR U c n ih V st k) (fun i => k (.exit i)) (k .ret) o V st) = some r := h
    refine hih U c h hs hl hw hN _ fun o V' st' a' w' Γ' q1 q2 q3 q4 q5 q6 => ?_
    cases o with
    | normal => exact ihn (q1 : loopR U c n ih V' st' k = some r) q3.sim q4 q2 (by rw [q5]; exact hN) fun o V2 st2 a2 w2 Γ2 g1 g2 g3 g4 g5 g6 => hQ o V2 st2 a2 w2 Γ2 g1 g2 (q3.trans g3) g4 (g5.trans q5) (g6.trans q6)
    | exit id => exact hQ (.exit id) V' st' a' w' Γ' q1 q2 q3 q4 q5 q6
    | ret => exact hQ .ret V' st' a' w' Γ' q1 q2 q3 q4 q5 q6
theorem codeK_ok {pr : Prims} (hmix : P.follows .mixedOrders = true) (hpr : PrimsOK P pr) {ih : IH} (hih : IHOK P ih) (hfu : FunsOK P) (U : FI) (c : Code) : CodeOK P U c (codeK P pr U c ih) := by
  cases c with
  | skip => intro V st k r Γ a w h hs hl hw hN Q hQ; exact wp_skip (hQ .normal V st a w Γ h hw (.refl hs) hl rfl rfl)
  | region id ops d =>
    cases d with
    | false => exact plainK_ok hpr hih hfu U id ops
    | true => exact openK_ok hmix hpr hih hfu U id ops
  | seq x y =>
    intro V st k r Γ a w h hs hl hw hN Q hQ
    have h : ih U x V st (fun o V st => Out.rec (motive := fun _ => Env → St → OR) (fun V st => ih U y V st k) (fun i => k (.exit i)) (k .ret) o V st) = some r := h
    refine wp_seq (hih U x h hs hl hw hN _ fun o V' st' a' w' Γ' q1 q2 q3 q4 q5 q6 => ?_)
    cases o with
    | normal => exact hih U y (q1 : ih U y V' st' k = some r) q3.sim q4 q2 (by rw [q5]; exact hN) Q fun o V2 st2 a2 w2 Γ2 g1 g2 g3 g4 g5 g6 => hQ o V2 st2 a2 w2 Γ2 g1 g2 (q3.trans g3) g4 (g5.trans q5) (g6.trans q6)
    | exit id => exact hQ (.exit id) V' st' a' w' Γ' q1 q2 q3 q4 q5 q6
    | ret => exact hQ .ret V' st' a' w' Γ' q1 q2 q3 q4 q5 q6
  | cond x t e =>
    intro V st k r Γ a w h hs hl hw hN Q hQ
    obtain ⟨y, hy, h0⟩ := opd_spec hs.glob hl (h : opd x .nil V _ = some r)
    obtain ⟨b, rfl, h1⟩ := asB_spec h0
    have h1 : ih U (Bool.rec e t b) V st k = some r := h1
    refine wp_cond (t := b) hy.inv_b ?_
    cases b with
    | false => exact hih U e h1 hs hl hw hN Q hQ
    | true => exact hih U t h1 hs hl hw hN Q hQ
  | block id c =>
    intro V st k r Γ a w h hs hl hw hN Q hQ
    have h : ih U c V st (fun o => Out.rec (motive := fun _ => Env → St → OR) (k .normal) (fun i => Bool.rec (motive := fun _ => Env → St → OR) (k (.exit i)) (k .normal) (Nat.beq i id)) (k .ret) o) = some r := h
    refine wp_block (hih U c h hs hl hw hN _ fun o V' st' a' w' Γ' q1 q2 q3 q4 q5 q6 => ?_)
    cases o with
    | normal => exact hQ .normal V' st' a' w' Γ' q1 q2 q3 q4 q5 q6
    | exit i =>
      have q1 : (Bool.rec (motive := fun _ => Env → St → OR) (k (.exit i)) (k .normal) (Nat.beq i id)) V' st' = some r := q1
      show if i = id then _ else _
      cases hb : Nat.beq i id with
      | true =>
        rw [hb] at q1
        rw [if_pos (Nat.eq_of_beq_eq_true hb)]
        exact hQ .normal V' st' a' w' Γ' q1 q2 q3 q4 q5 q6
      | false =>
        rw [hb] at q1
        rw [if_neg (Nat.ne_of_beq_eq_false hb)]
        exact hQ (.exit i) V' st' a' w' Γ' q1 q2 q3 q4 q5 q6
    | ret => exact hQ .ret V' st' a' w' Γ' q1 q2 q3 q4 q5 q6
  | loop c =>
    intro V st k r Γ a w h hs hl hw hN Q hQ
    have h : loopR U c roundN ih V st k = some r := h
    exact wp_loop_rounds roundN (loopR_ok hih U c Q roundN h hs hl hw hN hQ)
  | exit id => intro V st k r Γ a w h hs hl hw hN Q hQ; exact wp_exit (hQ (.exit id) V st a w Γ h hw (.refl hs) hl rfl rfl)
  | ret => intro V st k r Γ a w h hs hl hw hN Q hQ; exact wp_ret (hQ .ret V st a w Γ h hw (.refl hs) hl rfl rfl)
  | _ => intro V st k r Γ a w h; cases h
theorem evC_ok {pr : Prims} (hmix : P.follows .mixedOrders = true) (hpr : PrimsOK P pr) (hfu : FunsOK P) : ∀ n, IHOK P (evC P pr n)
  | 0 => fun U c => by intro V st k r Γ a w h; cases h
  | n + 1 => fun U c => codeK_ok hmix hpr (evC_ok hmix hpr hfu n) hfu U c
theorem run_ok {pr : Prims} (hmix : P.follows .mixedOrders = true) (hpr : PrimsOK P pr) (hfu : FunsOK P) {n : Nat} {f : FuncId} {args : List AV} {st : St} {k : KS} (h : run P pr n f args st k = some r) {Γ : Map} {w : World} (hs : Sim st Γ w) {vs : List Value} (hc : CRL Γ args vs) : CallPost P f vs.toArray st Γ w k r :=
  (callK_ok hpr (evC_ok hmix hpr hfu n) hfu h hs hc).1
end Go.Proofs.YtceobmnljdhkmaaGreatDoor.Ev
/- functions with proved contracts, for the evaluator -/
namespace Go.Proofs.YtceobmnljdhkmaaGreatDoor.Ev
open Go Go.RowKit
variable {r : AV × St} {P : Program} {Γ : Map}
/-- All that there was is as it was. -/
theorem Grow.ext {st : St} {w w' : World} (h : Sim st Γ w) (hx : Below w.heap.size w w') : Grow st Γ w st Γ w' :=
  ⟨⟨fun id b hl => let ⟨p, s, h1, h2, h3⟩ := h.blk id b hl; ⟨p, s, h1, Nat.lt_of_lt_of_le h2 hx.size, by rw [hx.block p h2]; exact h3⟩, h.inj, h.fresh, h.top, h.glob⟩,
   Map.le_refl _, fun _ _ => rfl, hx.os, hx.tape, hx.output, hx.size, rfl, rfl, Nat.le_refl _, fun q hq _ => hx.block q hq, fun q id b s _ h1 h2 h3 => ⟨id, b, s, h1, h2, h3⟩, fun _ _ _ => rfl⟩
-- rows of words
def limbA : AV → Option Nat
  | .i .u32 n => if n < 4294967296 then some n else none
  | _ => none
def limbsA : List AV → Option (List Nat)
  | [] => some []
  | a :: l => match limbA a, limbsA l with | some x, some xs => some (x :: xs) | _, _ => none
def valN : List Nat → Nat
  | [] => 0
  | x :: xs => x + 4294967296 * valN xs
theorem limbsA_spec : ∀ {l : List AV} {xs : List Nat} {vs : List Value}, limbsA l = some xs → CRL Γ l vs → (∀ x ∈ xs, x < 4294967296) ∧ vs = xs.map (fun x => .int .u32 ((x : Nat) : Int)) := by
  intro l
  induction l with
  | nil => intro xs vs h hc; injection h with h; subst h; cases hc; exact ⟨by simp, rfl⟩
  | cons a l ih =>
    intro xs vs h hc
    unfold limbsA at h
    split at h
    · rename_i x ys h1 h2
      injection h with h; subst h
      unfold limbA at h1
      split at h1
      · split at h1
        · rename_i n hn
          injection h1 with h1; subst h1
          cases hc with
          | cons hc ht =>
            cases hc
            obtain ⟨g1, g2⟩ := ih h2 ht
            refine ⟨fun y hy => ?_, by rw [g2]; rfl⟩
            rcases List.mem_cons.1 hy with rfl | hy
            · exact hn
            · exact g1 y hy
        · cases h1
      · cases h1
    · cases h
/-- The words of a slice (at most so many). -/
noncomputable def wordsK (m : Nat) (y : AV) (st : St) (k : List Nat → OR) : OR := asS y (k []) (k []) fun id off len _ _ => ifK (Nat.ble len m) (getK st id fun b => cutC len off b.cells fun cs => Option.rec none k (limbsA cs)) none
/-- A slice of words, as it lies in a world. -/
def SlW (w : World) (v : Value) (xs : List Nat) : Prop := ∃ (A : Option Addr) (c : Nat), v = .slice A xs.length c ∧ xs.length ≤ c ∧ (∀ x ∈ xs, x < 4294967296) ∧
    (0 < xs.length → ∃ b off : Nat, A = some ⟨b, off, none⟩ ∧ b < w.heap.size ∧ ∀ k, k < xs.length → w.cell? ⟨b, off + k, none⟩ = some (.int .u32 ((xs.getD k 0 : Nat) : Int)))
theorem wordsK_spec {m : Nat} {y : AV} {st : St} {k : List Nat → OR} (h : wordsK m y st k = some r) {w : World} (hs : Sim st Γ w) {v : Value} (hc : CR Γ y v) : ∃ xs, k xs = some r ∧ SlW w v xs ∧ xs.length ≤ m := by
  rcases asS_spec h with ⟨rfl, h⟩ | ⟨rfl, h⟩ | ⟨id, off, len, cap, sz, rfl, h⟩
  · refine ⟨[], h, ?_, Nat.zero_le _⟩
    cases hc
    exact ⟨none, 0, rfl, Nat.le_refl _, by simp, by simp⟩
  · refine ⟨[], h, ?_, Nat.zero_le _⟩
    obtain ⟨a, c, rfl⟩ := hc.inv_se
    exact ⟨some a, c, rfl, Nat.zero_le _, by simp, by simp⟩
  · obtain ⟨g1, h⟩ := ifK_yes h
    obtain ⟨b, hl, h⟩ := getK_spec h
    obtain ⟨g2, h⟩ := cutC_spec _ _ _ _ h
    cases hx : limbsA ((b.cells.drop off).take len) with
    | none => rw [hx] at h; cases h
    | some xs =>
      rw [hx] at h
      obtain ⟨p, s, c, hp, rfl, hcap⟩ := hc.inv_sl
      obtain ⟨p', s', hp', hlt, cs, el, hw, hsz, hlen, hcc, _⟩ := hs.blk id b hl
      obtain ⟨rfl, rfl⟩ : p' = p ∧ s' = s := by rw [hp] at hp'; injection hp' with hp'; injection hp' with e1 e2; exact ⟨e1.symm, e2.symm⟩
      have hcl := (hcc.drop off).take len
      obtain ⟨k1, k2⟩ := limbsA_spec hx hcl
      have hxl : xs.length = len := by
        have := hcl.length
        rw [k2] at this
        simp at this
        omega
      refine ⟨xs, h, ⟨some ⟨p', off, none⟩, c, by rw [hxl], by rw [hxl]; exact hcap.1, k1, fun _ => ⟨p', off, rfl, hlt, fun k hk => ?_⟩⟩, by rw [hxl]; exact Nat.le_of_ble_eq_true g1⟩
      unfold World.cell?
      rw [hw]
      show cs[off + k]? = _
      have h1 : (((cs.toList.take b.cells.length).drop off).take len)[k]? = some (.int .u32 ((xs.getD k 0 : Nat) : Int)) := by
        rw [k2, List.getElem?_map, List.getElem?_eq_getElem hk]
        simp [List.getD_eq_getElem?_getD, hk]
      rw [List.getElem?_take_of_lt (by omega), List.getElem?_drop, List.getElem?_take_of_lt (by omega)] at h1
      simpa using h1
/-- integer.toUint -/
noncomputable def toUintK : List AV → St → KS → OR := fun args st k => one1 args fun y => wordsK 2 y st fun xs => k (.i .u64 (valN xs)) st
theorem toUintK_ok {f : FuncId} (hU : ∀ (w : World) (v : Value) (xs : List Nat), SlW w v xs → xs.length ≤ 2 → Calls P f #[v] w fun e w' => e = .returned (.int .u64 ((valN xs : Nat) : Int)) ∧ Below w.heap.size w w') : CallOK P f toUintK := fun {args st k r Γ w vs} h hs hc => by
  obtain ⟨y, rfl, h0⟩ := one1_spec h
  obtain ⟨v, rfl, hv⟩ := hc.inv1
  obtain ⟨xs, h1, h2, h3⟩ := wordsK_spec h0 hs hv
  intro R hR
  refine Calls.mono (hU w v xs h2 h3) ?_
  rintro e w' ⟨rfl, hx⟩
  exact hR _ _ _ w' Γ h1 (Grow.ext hs hx) (.i _ _)
end Go.Proofs.YtceobmnljdhkmaaGreatDoor.Ev
namespace Go.Proofs.YtceobmnljdhkmaaGreatDoor.Ev
open Go
theorem funsOK_of {P : Program} (h : P.funcs.toList.all (fun fn => !(fn.name == "runtime.NumGoroutine")) = true) : FunsOK P := fun f fn hf hb args w => by
  have h1 := List.all_eq_true.1 h fn (by
    have := Array.mem_of_getElem? hf
    simpa using this)
  have h2 : (fn.name == "runtime.NumGoroutine") = false := by simpa using h1
  have h3 : fn.body.isNone = false := by cases hx : fn.body with
    | none => exact absurd hx hb
    | some c => rfl
  simp only [callFunc, Sem.run_bind, run_program, Result.andThen_ok, hf, h2, h3, Bool.false_eq_true, if_false]
  rfl
end Go.Proofs.YtceobmnljdhkmaaGreatDoor.Ev
/- the start of a run -/
namespace Go.Proofs.YtceobmnljdhkmaaGreatDoor.Ev
open Go Go.RowKit
variable {r : AV × St} {P : Program}
/-- The program's own variables (sz: how many cells each has). -/
noncomputable def Map.own (sz : Nat → Nat) : Map := fun id => if id.nat < G0 + 1 then some (id.nat - 1, sz (id.nat - 1)) else none
theorem Map.own_gid (sz : Nat → Nat) {g : Nat} (h : g < G0) : Map.own sz (gid g) = some (g, sz g) := by
  unfold Map.own
  rw [gid_nat, if_pos (by omega)]
  rfl
theorem Map.own_inj {sz : Nat → Nat} {id id' : Id} {p s s' : Nat} (h : Map.own sz id = some (p, s)) (h' : Map.own sz id' = some (p, s')) : id = id' := by
  unfold Map.own at h h'
  split at h
  · split at h'
    · injection h with h; injection h with h1 _
      injection h' with h'; injection h' with h2 _
      have := id.pos
      have := id'.pos
      exact Id.nat_inj (by omega)
    · cases h'
  · cases h
/-- The memory with the tables that are known. -/
noncomputable def tabs : List (Nat × Blk) → Tr := List.rec .leaf (fun q _ ih => Tr.put (some q.2) (gid q.1) ih)
noncomputable def stG (gs : List (Nat × Blk)) : St := ⟨tabs gs, gid G0, Nat.succ G0, []⟩
theorem tabs_find : ∀ {gs : List (Nat × Blk)} {id : Id} {b : Blk}, Tr.find id (tabs gs) = some b → ∃ g, (g, b) ∈ gs ∧ id = gid g := by
  intro gs
  induction gs with
  | nil => intro id b h; rw [show tabs [] = .leaf from rfl, Tr.find_leaf] at h; cases h
  | cons q gs ih =>
    intro id b h
    have h : Tr.find id (Tr.put (some q.2) (gid q.1) (tabs gs)) = some b := h
    by_cases e : gid q.1 = id
    · rw [← e, Tr.put_same] at h
      injection h with h
      exact ⟨q.1, by rw [← h]; simp, e.symm⟩
    · rw [Tr.put_other _ _ _ _ e] at h
      obtain ⟨g, h1, h2⟩ := ih h
      exact ⟨g, by simp [h1], h2⟩
theorem startSim {gs : List (Nat × Blk)} {sz : Nat → Nat} {w : World} (h : ∀ q ∈ gs, q.1 < G0 ∧ q.1 < w.heap.size ∧ BR (Map.own sz) q.2 (sz q.1) w.heap[q.1]?) : Sim (stG gs) (Map.own sz) w := by
  refine ⟨fun id b hl => ?_, fun id id' b b' p s s' _ _ h1 h2 => Map.own_inj h1 h2, fun id hid => ?_, fun id hid => ?_, fun g hg => ⟨_, Map.own_gid sz hg⟩⟩
  · obtain ⟨g, h1, rfl⟩ := tabs_find hl.2
    obtain ⟨h2, h3, h4⟩ := h _ h1
    exact ⟨g, sz g, Map.own_gid sz h2, h3, h4⟩
  · have hid : (gid G0).nat ≤ id.nat := hid
    rw [gid_nat] at hid
    unfold Map.own
    rw [if_neg (by omega)]
  · cases hf : Tr.find id (stG gs).heap with
    | none => rfl
    | some b =>
      obtain ⟨g, h1, rfl⟩ := tabs_find hf
      have hid : (gid G0).nat ≤ (gid g).nat := hid
      rw [gid_nat, gid_nat] at hid
      have := (h _ h1).1
      omega
end Go.Proofs.YtceobmnljdhkmaaGreatDoor.Ev
