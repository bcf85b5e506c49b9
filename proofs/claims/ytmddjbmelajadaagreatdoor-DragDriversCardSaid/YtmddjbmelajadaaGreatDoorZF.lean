/- From a law's contract to the given statement: DragDrivers. -/
import Derived.Test.YtmddjbmelajadaaGreatDoorRows
import Derived.Test.YtmddjbmelajadaaGreatDoorCards
import Derived.Test.YtmddjbmelajadaaGreatDoorTie
import Derived.ProofKit
import Derived.LaidMore
import Derived.OpenShut
import Derived.Stop.Joined
import Derived.Carry
import Derived.SevenTiedAt
import Derived.Test.YtmddjbmelajadaaGreatDoorZE
namespace Go.Proofs.YtmddjbmelajadaaGreatDoor
open Go Go.RowKit Go.ChangeShapes Go.WideShapes Go.ChangeAt Go.WideMaps Go.WideElems
theorem own : ownKnob Tryz.prog.godebug = none := by kernel_rfl
theorem laidOut : laidOutB Tryz.prog = true := by kernel_rfl
/-- What is asked of the walk of a law of a plan alone. -/
def LawS (f : FuncId) : Prop := ∀ (H : Type) (enc : TypeId × Value → H) (W : World) (fuel : Nat) (cs : Array Value) (d : DataW H) (p : List MemPlace), DataW.trod enc Tryz.prog W 0 (fun _ => true) true fuel 25 cs.toList = some (d, p) → (d.weights Tryz.prog 25).all (· ≤ reachBytes) = true → laidMetH Tryz.prog Rows.dragDriversRow.laid W →
 Calls Tryz.prog f #[.agg cs] W fun e w' => e = .returned (.bool true) ∧ Below W.heap.size W w'
/-- No function of the translation starts a goroutine: so the call starts none (the road need not be reckoned). -/
theorem no_goes : Tryz.pinned.checked.prog.funcs.any Func.goes = false := by kernel_rfl
theorem goes_none {P : Program} (h : P.funcs.any Func.goes = false) (f : FuncId) : P.goes f = false := by
 unfold Program.goes
 rw [h, Bool.and_false, Bool.or_false, List.any_eq_false]
 intro g hg hh
 rw [Array.any_eq_false] at h
 cases e : P.funcs[g]? with
 | none => rw [e] at hh; cases hh
 | some fn =>
  rw [e] at hh
  obtain ⟨h1, h2⟩ := Array.getElem?_eq_some_iff.1 e
  exact h g h1 (by rw [h2]; exact hh)
theorem goesFrom_none {P : Program} (h : P.funcs.any Func.goes = false) (n : String) : P.goesFrom n = false := by
 unfold Program.goesFrom
 cases P.funcNamed n with
 | none => rfl
 | some f => exact goes_none h f
theorem goesBy_false {P : Program} {c : OpenClaim} (hs : c.start = .entering) (h : P.funcs.any Func.goes = false) : c.goesBy P = false := by
 unfold OpenClaim.goesBy Program.goesAt
 rw [goesFrom_none h, hs]
 rfl
set_option maxRecDepth 100000 in
theorem dragDrivers_door (os : Os) (args : Array Value) : laidMetH Tryz.prog Rows.dragDriversRow.laid ((World.doorLaid Tryz.prog 78 os).forCall (fun _ _ => 0) ⟨#[], args, []⟩).memory :=
 laidMetH_of_parts3 (fuel := 8) (laidMet_of_run' 8 (by kernel_rfl) (by kernel_rfl)) (by kernel_rfl) (by kernel_rfl)
set_option maxRecDepth 100000 in
theorem dragDrivers_lifted (law : LawS 3) (os : Os) (started : os.Started) (H : Type) (enc : TypeId × Value → H) :
  ReturnsInHanded {} Tryz.checked os 3 .any (fun w args => (Rows.dragDriversSpec.pre enc Tryz.prog Tryz.f3 [] false w args ∧ laidMetH Tryz.prog Rows.dragDriversRow.laid w) ∧ sizedMet enc Tryz.prog Tryz.f3 (OpenSpec.ofChange Rows.dragDriversSpec) false w args)
   (Rows.dragDriversSpec.post enc Tryz.prog Tryz.f3 false true false false) := by
 refine returnsInHanded_of_change_and (C := Tryz.checked) (X := fun w _ => laidMetH Tryz.prog Rows.dragDriversRow.laid w) (fun _ _ _ hh h => h.of_heap hh) own started (by kernel_rfl) Tryz.func3
  (ChangeSpec.witness_shaped (enc := enc) (C := Tryz.checked) (os := os) (X := fun w _ => laidMetH Tryz.prog Rows.dragDriversRow.laid w) false (World.doorLaid Tryz.prog 78 os) #[.agg #[.slice none 0 0, .slice none 0 0]] 8 rfl (World.shaped_of_RefB (by kernel_rfl) (by kernel_rfl)) (by kernel_rfl) (by kernel_rfl) (by kernel_rfl) (dragDrivers_door os _)) ?_
 intro W base args ds gs before hval0 hW _ hsz hL _
 have hval : ∀ (j : Nat) t v, Tryz.f3.params[j]? = some t → args[j]? = some v → Value.okWide Tryz.prog W .any base t v := hval0
 have hW' := hW
 obtain ⟨p, q, hA0, hV, rfl, hfz, hnd⟩ := hW
 have hA : DataW.TrodAll enc Tryz.prog W 0 (fun _ => true) true Tryz.f3.params.toList args.toList ds p := hA0
 have hsz' : (DataW.weightsEach Tryz.prog (Tryz.f3.params.toList ++ Rows.dragDriversSpec.plain.varTypes Tryz.prog) (ds ++ gs)).all (· ≤ reachBytes) = true := hsz
 rw [Tryz.params3] at hA hval hsz'
 obtain ⟨v0, d0, rfl, rfl, h0⟩ := trodAll_one hA
 obtain ⟨rfl, rfl⟩ := trodVars_none hV
 obtain ⟨cs, rfl, hcs⟩ := okWide_struct Tryz.underlying25 (hval 0 _ v0 rfl rfl)
 have h0k := h0
 obtain ⟨fuel, h0'⟩ := h0
 have hfit : (d0.weights Tryz.prog 25).all (· ≤ reachBytes) = true := by
  have := hsz'
  simp only [List.cons_append, List.nil_append, DataW.weightsEach, List.all_append, Bool.and_eq_true] at this
  exact this.1
 have hlt : ∀ x ∈ p, x.block < W.heap.size := fun x hx => hW'.lt x (by simp [hx])
 refine (law H enc W fuel cs d0 p h0' hfit hL).mono fun e W' ⟨he, hb⟩ => ?_
 subst he
 refine ⟨_, rfl, [d0], [], _, [], p, [], hW', ?_, ?_, rfl, hb.frame _, fun h => by cases h⟩
 ·exact trodAll_mk1 (shut_bool Tryz.underlying4 _)
 ·exact trodAll_mk1 (Below.trod laidOut (by kernel_rfl) (of_decide_eq_true (by kernel_rfl)) h0k hb hlt)
theorem dragDrivers_said (law : LawS 3) : Rows.DragDriversSaid :=
 OpenClaim.holds_of_wide 3 Tryz.f3 rfl rfl rfl rfl rfl rfl rfl ⟨rfl, rfl, rfl, rfl, rfl⟩ rfl rfl rfl rfl rfl (by kernel_rfl) Tryz.func3 joined
  (of_decide_eq_true (by kernel_rfl)) (by unfold Func.isWrapper; first | (rw [if_pos (by decide +kernel)]; kernel_rfl) | (rw [if_neg (by decide +kernel)]; exact ⟨rfl, rfl⟩))
  (fun os started H enc _ => dragDrivers_lifted law os started H enc)
theorem dragDrivers_card (law : LawS 3) : Rows.DragDriversCardSaid :=
 Claim7.holds_tied_plain_at .later [] [.data, .data, .data, .data, .data, .data] true (true, "0f45279a220dd9d3ec93ebbd4786a0a9191cb753c0afca230ae8dc37b398ad2e") false
  (dragDrivers_said law) (fun _ h => by cases h) (by kernel_rfl) (fun _ h => by cases h) dragDrivers_row_tie rfl ⟨rfl, rfl⟩ (by kernel_rfl) rfl
  (fun f fn hf hfn => by
   obtain rfl : f = 3 := Option.some.inj ((show Tryz.prog.funcNamed "setsquare/setsquarelaw45.DragDrivers" = some 3 by kernel_rfl).symm.trans hf) |>.symm
   obtain rfl : fn = Tryz.f3 := (Option.some.inj (Tryz.func3.symm.trans hfn)).symm
   exact ⟨by kernel_rfl, fun j t ht => by
    rw [Tryz.params3] at ht
    have h3 : t = 25 := by
     rcases j with _ | j
     ·simpa using ht.symm
     ·simp at ht
    subst h3
    exact (show Tryz.prog.wantsStandIn 25 = false by kernel_rfl)⟩)
  (goesBy_false rfl no_goes).symm
end Go.Proofs.YtmddjbmelajadaaGreatDoor
