/- The primitives of the evaluator in this program, out of their contracts: trim, toUint, signed, Valid, Sign, fromUint; rational.Valid; formula.Valid of a digit. -/
import Derived.Test.YtmddjbmelajadaaGreatDoorYS
import Derived.Test.YtmddjbmelajadaaGreatDoorYN
import Derived.Test.YtmddjbmelajadaaGreatDoorYR
import Derived.Test.YtmddjbmelajadaaGreatDoorYV
import Derived.Test.YtmddjbmelajadaaGreatDoorYZ
namespace Go.Proofs.YtmddjbmelajadaaGreatDoor
open Go Go.RowKit Go.Proofs.YtmddjbmelajadaaGreatDoor.Ev
theorem validB_ok (s : Bool) (xs : List Nat) : validB s xs = (⟨s, xs⟩ : ZI).ok := by
 unfold validB ZI.ok
 rw [tlen_trim, lenN_eq]
 have e1 : decide ((trimL xs).length = xs.length) = Nat.beq (trimL xs).length xs.length := by
  rw [Bool.eq_iff_iff, decide_eq_true_iff]
  exact ⟨fun h => by rw [h]; exact Nat.beq_refl _, Nat.eq_of_beq_eq_true⟩
 have e2 : decide (0 < xs.length) = bnot (Nat.beq xs.length 0) := by cases xs.length <;> rfl
 simp only
 rw [e1, e2]
 cases Nat.beq (trimL xs).length xs.length <;> cases s <;> simp
/-- Is it a rational number? -/
noncomputable def okQE (n : Bool) (xs : List Nat) (d : Bool) (ys : List Nat) : Bool := Bool.rec false (Bool.rec false (Bool.rec (Bool.rec (Nat.beq (Nat.gcd (valN xs) (valN ys)) 1) false (Nat.beq (lenN ys) 0)) false d) (validB d ys)) (validB n xs)
theorem okQE_ok (n : Bool) (xs : List Nat) (d : Bool) (ys : List Nat) : okQE n xs d ys = (⟨⟨n, xs⟩, ⟨d, ys⟩⟩ : QI).ok := by
 unfold okQE QI.ok
 rw [validB_ok, validB_ok, valN_val, valN_val, lenN_eq]
 simp only
 have eg : decide (Nat.gcd (val xs) (val ys) = 1) = Nat.beq (Nat.gcd (val xs) (val ys)) 1 := by
  rw [Bool.eq_iff_iff, decide_eq_true_iff]
  exact ⟨fun h => by rw [h]; rfl, Nat.eq_of_beq_eq_true⟩
 rw [eg]
 generalize Nat.beq (Nat.gcd (val xs) (val ys)) 1 = g
 generalize (⟨n, xs⟩ : ZI).ok = a
 cases hb : (⟨d, ys⟩ : ZI).ok with
 | false => cases a <;> simp
 | true =>
  have hl : (trimL ys).length = ys.length := by
   unfold ZI.ok at hb
   rw [Bool.and_eq_true] at hb
   simpa using hb.1
  have hs : decide (0 < (⟨d, ys⟩ : ZI).sgn) = (!d && bnot (Nat.beq ys.length 0)) := by
   unfold ZI.sgn sgnW
   simp only
   rw [hl]
   cases d <;> cases ys.length <;> simp <;> first | rfl | omega | decide
  rw [hs]
  cases a <;> cases d <;> cases Nat.beq ys.length 0 <;> cases g <;> rfl
theorem ev_ratValid {w : World} {n d : Bool} {v v' : Value} {xs ys : List Nat} (h : SlW w v xs) (h' : SlW w v' ys) (hm : xs.length ≤ 1000) (hm' : ys.length ≤ 1000) :
  Calls Tryz.prog 69 #[.agg #[.bool n, v, .bool d, v']] w fun e w' => e = .returned (.bool (okQE n xs d ys)) ∧ Below w.heap.size w w' := by
 rw [okQE_ok]
 exact rat_Valid (q := ⟨⟨n, xs⟩, ⟨d, ys⟩⟩) (slWords h hm) (slWords h' hm') (by simp only; omega) (by simp only; omega)
def tO : List Nat := [0, 0, 0, 1, 2, 2, 2, 2]
def tP : List Nat := [1, 10, 100, 1000, 10000, 100000, 1000000, 10000000, 100000000, 1000000000, 10000000000, 100000000000, 1000000000000, 10000000000000, 100000000000000, 1000000000000000, 10000000000000000, 100000000000000000, 1000000000000000000, 10000000000000000000]
theorem tP_pow : Lib.pow10Tab = tP.map fun n => ((n : Nat) : Int) := by decide
theorem glp_of {w : World} (h : TabN w 2 .u64 tP) : GLp w := by
 obtain ⟨cs, el, h1, h2⟩ := h
 show World.var? Tryz.prog w "internal/strconv.uint64pow10" = _
 have hg : Tryz.prog.globalNamed "internal/strconv.uint64pow10" = some 2 := by kernel_rfl
 simp only [World.var?, hg, Option.bind_some, h1]
 rw [tP_pow, List.map_map]
 congr 1
 apply Array.ext'
 rw [h2]
 rfl
theorem glo_of {w : World} (h : TabN w 1 .i64 tO) (hp : TabN w 2 .u64 tP) : GLo w := by
 refine ⟨?_, glp_of hp⟩
 obtain ⟨cs, el, h1, h2⟩ := h
 have hc : ∀ j, w.cell? ⟨1, j, none⟩ = (tO.map fun n => Value.int .i64 ((n : Nat) : Int))[j]? := fun j => by
  rw [cell_of_row w 1 j cs el (0, 0) h1, ← h2, Array.getElem?_toList]
 refine ⟨?_, fun j hj => ?_⟩
 ·exact World.block_lt_of_cell? w _ (hc 0)
 ·rw [hc]
  match j, hj with
  | 0, _ => rfl
  | 1, _ => rfl
  | 2, _ => rfl
  | 3, _ => rfl
  | 4, _ => rfl
  | 5, _ => rfl
  | 6, _ => rfl
  | 7, _ => rfl
theorem dec_digit (n : Nat) (hn : n ≤ 9) : decFrom 41 0 n 1 = true := by
 unfold decFrom
 rw [if_pos rfl]
 unfold decLen
 have := ndig_le (n := n) (k := 1) (by omega)
 rw [if_pos rfl]
 exact decide_eq_true (by omega)
theorem ev_formula {w : World} {v v' : Value} {xs ys : List Nat} (ho : TabN w 1 .i64 tO) (hp : TabN w 2 .u64 tP) (h : SlW w v xs) (h' : SlW w v' ys) (hm : xs.length ≤ 2) (hm' : ys.length ≤ 2) (hk : okW xs ys = true) :
  Calls Tryz.prog 140 #[.agg #[.int .i64 1, .bool false, v, .bool false, v', .string ByteArray.empty, .slice none 0 0]] w fun e w' => e = .returned (.int .i64 0) ∧ Below w.heap.size w w' := by
 have hk1 : Nat.beq (tlenK xs) (lenN xs) = true ∧ Nat.ble (valN xs) 9 = true ∧ beqN ys [1] = true := by
  unfold okW at hk
  revert hk
  cases Nat.beq (tlenK xs) (lenN xs) <;> cases Nat.ble (valN xs) 9 <;> simp
 obtain ⟨k1, k2, k3⟩ := hk1
 obtain rfl := beqN_spec k3
 have k1 := Nat.eq_of_beq_eq_true k1
 have k2 := Nat.le_of_ble_eq_true k2
 rw [tlen_trim, lenN_eq] at k1
 rw [valN_val] at k2
 have hR : ExprR 1 w [.int .i64 1, .bool false, v, .bool false, v', .string ByteArray.empty, .slice none 0 0] (.mk 1 ⟨⟨false, xs⟩, ⟨false, [1]⟩⟩ ByteArray.empty []) :=
  ⟨v, v', _, rfl, (slWords h (by omega) : Words w v xs), (slWords h' (by simp) : Words w v' [1]), ⟨none, 0, rfl, Nat.le_refl _, by simp [maxLen], fun h => absurd rfl h⟩⟩
 have hS : smallE 1 (.mk 1 ⟨⟨false, xs⟩, ⟨false, [1]⟩⟩ ByteArray.empty []) := ⟨by show xs.length ≤ 1000; omega, by show ([1] : List Nat).length ≤ 1000; simp, by show ByteArray.empty.size ≤ _; decide, Nat.zero_le _, fun a ha => by cases ha⟩
 have hQ : (⟨⟨false, xs⟩, ⟨false, [1]⟩⟩ : QI).dec = true := by
  unfold QI.dec
  have e1 : (⟨⟨false, xs⟩, ⟨false, [1]⟩⟩ : QI).ok = true := by
   unfold QI.ok ZI.ok ZI.sgn
   simp only
   rw [decide_eq_true k1]
   have e2 : (trimL [1]).length = 1 := by decide
   rw [e2]
   have e3 : val [1] = 1 := by decide
   have eg : Nat.gcd (val xs) (val [1]) = 1 := by rw [e3, Nat.gcd_one_right]
   rw [Bool.and_eq_true]
   exact ⟨rfl, decide_eq_true eg⟩
  have e4 : decide (0 ≤ (⟨false, xs⟩ : ZI).sgn) = true := by
   unfold ZI.sgn sgnW
   simp only
   split <;> simp
  have e3 : val [1] = 1 := by decide
  simp only
  rw [e1, e3, dec_digit _ k2]
  simpa using e4
 have hE : errE 1 (.mk 1 ⟨⟨false, xs⟩, ⟨false, [1]⟩⟩ ByteArray.empty []) = 0 := by
  have hF : formed 1 (.mk 1 ⟨⟨false, xs⟩, ⟨false, [1]⟩⟩ ByteArray.empty []) = true := by
   unfold formed shapeOf
   show ((if (1 : Int) = 1 then _ else _) && _) = true
   rw [if_pos rfl]
   show ((⟨⟨false, xs⟩, ⟨false, [1]⟩⟩ : QI).dec && _ && _ && _) = true
   rw [hQ]
   rfl
  unfold errE
  rw [if_pos hF]
  rfl
 have := formula_Valid decC 1 hR hS (by omega) (glo_of ho hp)
 rw [hE] at this
 exact this
theorem has_body {f : FuncId} (h : ((Tryz.prog.funcs[f]?).any fun fn => fn.body.isSome) = true) : ∃ fn, Tryz.prog.funcs[f]? = some fn ∧ fn.body ≠ none := by
 cases hf : Tryz.prog.funcs[f]? with
 | none => rw [hf] at h; cases h
 | some fn =>
  rw [hf] at h
  exact ⟨fn, rfl, fun e => by simp [e] at h⟩
noncomputable def pickP (l : List (Nat × (List AV → St → KS → OR))) (f : Nat) : Option (List AV → St → KS → OR) := List.rec none (fun p _ ih => Bool.rec ih (some p.2) (Nat.beq f p.1)) l
theorem pickP_ok {l : List (Nat × (List AV → St → KS → OR))} (h : ∀ q ∈ l, (∃ fn, Tryz.prog.funcs[q.1]? = some fn ∧ fn.body ≠ none) ∧ CallOK Tryz.prog q.1 q.2) : PrimsOK Tryz.prog (pickP l) := by
 intro f p hp
 induction l with
 | nil => cases hp
 | cons q l ih =>
  have hp : Bool.rec (motive := fun _ => Option (List AV → St → KS → OR)) (pickP l f) (some q.2) (Nat.beq f q.1) = some p := hp
  cases hb : Nat.beq f q.1 with
  | false => rw [hb] at hp; exact ih (fun x hx => h x (List.mem_cons_of_mem _ hx)) hp
  | true =>
   rw [hb] at hp
   obtain rfl := Nat.eq_of_beq_eq_true hb
   injection hp with hp
   subst hp
   exact h q (List.mem_cons_self ..)
noncomputable def prsL : List (Nat × (List AV → St → KS → OR)) := [(178, trimK 1000), (180, toUintK), (163, signedK 1000), (122, ofIntK 1000 fun s xs => .b (validB s xs)), (69, ratK okQE 1000), (123, ofIntK 1000 signA), (164, fromUintK), (140, fvalK 1 2 tO tP)]
noncomputable def prs : Prims := pickP prsL
theorem prs_ok : PrimsOK Tryz.prog prs := pickP_ok fun q hq => by
 simp only [prsL, List.mem_cons, List.not_mem_nil, or_false] at hq
 rcases hq with rfl | rfl | rfl | rfl | rfl | rfl | rfl | rfl
 ·exact ⟨has_body (by kernel_rfl), trimK_ok fun w A c xs h hm => ev_trim h hm⟩
 ·exact ⟨has_body (by kernel_rfl), toUintK_ok fun w v xs h hm => ev_toUint h hm⟩
 ·exact ⟨has_body (by kernel_rfl), signedK_ok fun w s A c xs h hm => ev_signed h hm⟩
 ·exact ⟨has_body (by kernel_rfl), ofIntK_ok (fun s xs => .bool (validB s xs)) (fun s xs Γ => .b _) fun w s v xs h hm => ev_Valid h hm⟩
 ·exact ⟨has_body (by kernel_rfl), ratK_ok fun w n d v v' xs ys h h' hm hm' => ev_ratValid h h' hm hm'⟩
 ·exact ⟨has_body (by kernel_rfl), ofIntK_ok (fun s xs => .int .i64 (signZ s (tlenK xs))) (fun s xs Γ => signA_ok s xs Γ) fun w s v xs h hm => ev_Sign h hm⟩
 ·exact ⟨has_body (by kernel_rfl), fromUintK_ok fun w n hn => ev_fromUint w n hn⟩
 ·exact ⟨has_body (by kernel_rfl), fvalK_ok (by decide) (by decide) fun w v v' xs ys ho hp h h' hm hm' hk => ev_formula ho hp h h' hm hm' hk⟩
theorem funs : FunsOK Tryz.prog := funsOK_of (by kernel_rfl)
theorem mixedO : Tryz.prog.follows .mixedOrders = true := by kernel_rfl
end Go.Proofs.YtmddjbmelajadaaGreatDoor
