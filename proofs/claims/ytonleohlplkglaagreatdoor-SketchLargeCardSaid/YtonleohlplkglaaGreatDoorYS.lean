/- From a law's contract to the given statement: laws of a sketch and a number. -/
import Derived.Test.YtonleohlplkglaaGreatDoorRows
import Derived.Test.YtonleohlplkglaaGreatDoorCards
import Derived.Test.YtonleohlplkglaaGreatDoorTie
import Derived.ProofKit
import Derived.LaidMore
import Derived.OpenShut
import Derived.Stop.Joined
import Derived.Carry
import Derived.SevenTiedAt
namespace Go.Proofs.YtonleohlplkglaaGreatDoor
open Go Go.RowKit Go.ChangeShapes Go.WideShapes Go.ChangeAt Go.WideMaps Go.WideElems
theorem own : ownKnob Tryz.prog.godebug = none := by kernel_rfl
theorem laidOut : laidOutB Tryz.prog = true := by kernel_rfl
end Go.Proofs.YtonleohlplkglaaGreatDoor
namespace Go.Proofs.YtonleohlplkglaaGreatDoor
open Go Go.RowKit Go.ChangeShapes Go.WideShapes Go.ChangeAt Go.WideMaps Go.WideElems
/-- What is asked of the walk of a law of a sketch and two small numbers. -/
def LawSBB (f : FuncId) : Prop := ∀ (H : Type) (enc : TypeId × Value → H) (W : World) (fuel : Nat) (cs : Array Value) (k m : Int) (d : DataW H) (p : List MemPlace), DataW.trod enc Tryz.prog W 0 (fun _ => true) true fuel 29 cs.toList = some (d, p) → (d.weights Tryz.prog 29).all (· ≤ reachBytes) = true → (Lit.int .u8 k).wf = true → (Lit.int .u8 m).wf = true → laidMetH Tryz.prog Rows.sketchLargeRow.laid W →
 Calls Tryz.prog f #[.agg cs, .int .u8 k, .int .u8 m] W fun e w' => e = .returned (.bool true) ∧ Below W.heap.size W w'
set_option maxRecDepth 100000 in
theorem sketchLarge_door (os : Os) (args : Array Value) : laidMetH Tryz.prog Rows.sketchLargeRow.laid ((World.doorLaid Tryz.prog 68 os).forCall (fun _ _ => 0) ⟨#[], args, []⟩).memory :=
 laidMetH_of_parts3 (fuel := 8) (laidMet_of_run' 8 (by kernel_rfl) (by kernel_rfl)) (by kernel_rfl) (by kernel_rfl)
set_option maxRecDepth 100000 in
theorem sketchLarge_lifted (law : LawSBB 4) (os : Os) (started : os.Started) (H : Type) (enc : TypeId × Value → H) :
  ReturnsInHanded {} Tryz.checked os 4 .any (fun w args => (Rows.sketchLargeSpec.pre enc Tryz.prog Tryz.f4 [] false w args ∧ laidMetH Tryz.prog Rows.sketchLargeRow.laid w) ∧ sizedMet enc Tryz.prog Tryz.f4 (OpenSpec.ofChange Rows.sketchLargeSpec) false w args)
   (Rows.sketchLargeSpec.post enc Tryz.prog Tryz.f4 false true false false) := by
 refine returnsInHanded_of_change_and (C := Tryz.checked) (X := fun w _ => laidMetH Tryz.prog Rows.sketchLargeRow.laid w) (fun _ _ _ hh h => h.of_heap hh) own started (by kernel_rfl) Tryz.func4
  (ChangeSpec.witness_shaped (enc := enc) (C := Tryz.checked) (os := os) (X := fun w _ => laidMetH Tryz.prog Rows.sketchLargeRow.laid w) false (World.doorLaid Tryz.prog 68 os) #[.agg #[.slice none 0 0, .slice none 0 0, .slice none 0 0, .slice none 0 0, .slice none 0 0, .slice none 0 0], .int .u8 0, .int .u8 0] 8 rfl (World.shaped_of_RefB (by kernel_rfl) (by kernel_rfl)) (by kernel_rfl) (by kernel_rfl) (by kernel_rfl) (sketchLarge_door os _)) ?_
 intro W base args ds gs before hval0 hW _ hsz hL _
 have hval : ∀ (j : Nat) t v, Tryz.f4.params[j]? = some t → args[j]? = some v → Value.okWide Tryz.prog W .any base t v := hval0
 have hW' := hW
 obtain ⟨p, q, hA0, hV, rfl, hfz, hnd⟩ := hW
 have hA : DataW.TrodAll enc Tryz.prog W 0 (fun _ => true) true Tryz.f4.params.toList args.toList ds p := hA0
 have hsz' : (DataW.weightsEach Tryz.prog (Tryz.f4.params.toList ++ Rows.sketchLargeSpec.plain.varTypes Tryz.prog) (ds ++ gs)).all (· ≤ reachBytes) = true := hsz
 rw [Tryz.params4] at hA hval hsz'
 obtain ⟨v0, v1, v2, d0, d1, d2, p0, p1, p2, rfl, rfl, rfl, h0, h1, h2⟩ := trodAll_three hA
 obtain ⟨rfl, rfl⟩ := trodVars_none hV
 obtain ⟨cs, rfl, hcs⟩ := okWide_struct Tryz.underlying29 (hval 0 _ v0 rfl rfl)
 obtain ⟨k, rfl, rfl, rfl, hwf⟩ := open_int Tryz.underlying5 (hval 1 _ v1 rfl rfl) h1
 obtain ⟨m, rfl, rfl, rfl, hwm⟩ := open_int Tryz.underlying5 (hval 2 _ v2 rfl rfl) h2
 have h0k := h0
 obtain ⟨fuel, h0'⟩ := h0
 have hfit : (d0.weights Tryz.prog 29).all (· ≤ reachBytes) = true := by
  have := hsz'
  simp only [List.cons_append, List.nil_append, DataW.weightsEach, List.all_append, Bool.and_eq_true] at this
  exact this.1
 have hlt : ∀ x ∈ p0, x.block < W.heap.size := fun x hx => hW'.lt x (by simp [hx])
 refine (law H enc W fuel cs k m d0 p0 h0' hfit hwf hwm hL).mono fun e W' ⟨he, hb⟩ => ?_
 subst he
 refine ⟨_, rfl, [d0, .lit (.int .u8 k), .lit (.int .u8 m)], [], _, [], p0 ++ ([] ++ []), [], hW', ?_, ?_, rfl, hb.frame _, fun h => by cases h⟩
 ·exact trodAll_mk1 (shut_bool Tryz.underlying4 _)
 ·exact trodAll_mk3 (Below.trod laidOut (by kernel_rfl) (of_decide_eq_true (by kernel_rfl)) h0k hb hlt) (shut_int Tryz.underlying5 hwf) (shut_int Tryz.underlying5 hwm)
theorem sketchLarge_said (law : LawSBB 4) : Rows.SketchLargeSaid :=
 OpenClaim.holds_of_wide 4 Tryz.f4 rfl rfl rfl rfl rfl rfl rfl ⟨rfl, rfl, rfl, rfl, rfl⟩ rfl rfl rfl rfl rfl (by kernel_rfl) Tryz.func4 (by kernel_rfl)
  (of_decide_eq_true (by kernel_rfl)) (by unfold Func.isWrapper; first | (rw [if_pos (by decide +kernel)]; kernel_rfl) | (rw [if_neg (by decide +kernel)]; exact ⟨rfl, rfl⟩))
  (fun os started H enc _ => sketchLarge_lifted law os started H enc)
theorem sketchLarge_card (law : LawSBB 4) : Rows.SketchLargeCardSaid :=
 Claim7.holds_tied_plain_at .later [] [.data, .data, .data, .data, .data] true (true, "30c4fa5ff49027f6ca2ecef2bba0ad21c8463e5777ba99a09f274a6c3c2f5f1a") false
  (sketchLarge_said law) (fun _ h => by cases h) (by kernel_rfl) (fun _ h => by cases h) sketchLarge_row_tie rfl ⟨rfl, rfl⟩ (by kernel_rfl) rfl
  (fun f fn hf hfn => by
   obtain rfl : f = 4 := Option.some.inj ((show Tryz.prog.funcNamed "setsquare/setsquarelaw26.SketchLarge" = some 4 by kernel_rfl).symm.trans hf) |>.symm
   obtain rfl : fn = Tryz.f4 := (Option.some.inj (Tryz.func4.symm.trans hfn)).symm
   exact ⟨by kernel_rfl, fun j t ht => by
    rw [Tryz.params4] at ht
    have h3 : t = 29 ∨ t = 5 := by
     rcases j with _ | _ | _ | j
     ·left; simpa using ht.symm
     ·right; simpa using ht.symm
     ·right; simpa using ht.symm
     ·simp at ht
    rcases h3 with rfl | rfl
    ·exact (show Tryz.prog.wantsStandIn 29 = false by kernel_rfl)
    ·exact (show Tryz.prog.wantsStandIn 5 = false by kernel_rfl)⟩)
  (by kernel_rfl)
end Go.Proofs.YtonleohlplkglaaGreatDoor
