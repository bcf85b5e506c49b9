/- From a law's contract to the given statement: SnapConstraint, the second form. -/
import Derived.Test.YtceobmnljdhkmaaGreatDoorRows
import Derived.Test.YtceobmnljdhkmaaGreatDoorCards
import Derived.Test.YtceobmnljdhkmaaGreatDoorTie
import Derived.ProofKit
import Derived.LaidMore
import Derived.OpenShut
import Derived.Stop.Joined
import Derived.Carry
import Derived.SevenTiedAt
import Derived.Deep.DeepHandedRow
import Derived.Deep.DeepWitnessRowRef
import Derived.Test.YtceobmnljdhkmaaGreatDoorZB
namespace Go.Proofs.YtceobmnljdhkmaaGreatDoor
open Go Go.RowKit Go.ChangeShapes Go.WideShapes Go.ChangeAt Go.WideMaps Go.WideElems
theorem own : ownKnob Tryz.prog.godebug = none := by kernel_rfl
theorem laidOut : laidOutB Tryz.prog = true := by kernel_rfl
/-- What is asked of the law's walk. -/
def LawU (f : FuncId) : Prop := ∀ (H : Type) (enc : TypeId × Value → H) (W : World) (fuel fuel' : Nat) (cs cs' : Array Value) (k : Int) (d d' : DataW H) (p p' : List MemPlace), DataW.trod enc Tryz.prog W 0 (fun _ => true) true fuel 29 cs.toList = some (d, p) → (d.weights Tryz.prog 29).all (· ≤ reachBytes) = true →
 DataW.trod enc Tryz.prog W 0 (fun _ => true) true fuel' 38 cs'.toList = some (d', p') → (d'.weights Tryz.prog 38).all (· ≤ reachBytes) = true → Rows.uptoBulk d ≤ 1048576 → laidMetH Tryz.prog Rows.snapConstraintUptoRow.laid W →
 Calls Tryz.prog f #[.agg cs, .agg cs', .int .i64 k] W fun e w' => e = .returned (.bool true) ∧ Below W.heap.size W w'
set_option maxRecDepth 100000 in
theorem snapUpto_door (os : Os) (args : Array Value) : laidMetH Tryz.prog Rows.snapConstraintUptoRow.laid ((World.doorLaid Tryz.prog 200 os).forCall (fun _ _ => 0) ⟨#[], args, []⟩).memory :=
 laidMetH_of_parts3 (fuel := 8) (laidMet_of_run' 8 (by kernel_rfl) (by kernel_rfl)) (by kernel_rfl) (by kernel_rfl)
theorem snapUpto_reads (os : Os) {H : Type} (enc : TypeId × Value → H) : ∃ places, DataW.whole enc Tryz.prog ((World.doorLaid Tryz.prog 200 os).forCall (fun _ _ => 0) ⟨#[], #[.agg #[.slice none 0 0, .slice none 0 0, .slice none 0 0, .slice none 0 0, .slice none 0 0, .slice none 0 0], .agg #[.int .i64 0, .slice none 0 0, .slice none 0 0, .slice none 0 0, .slice none 0 0, .slice none 0 0], .int .i64 0], []⟩).memory Tryz.f3.params.toList Rows.snapConstraintSpec.vars false (#[.agg #[.slice none 0 0, .slice none 0 0, .slice none 0 0, .slice none 0 0, .slice none 0 0, .slice none 0 0], .agg #[.int .i64 0, .slice none 0 0, .slice none 0 0, .slice none 0 0, .slice none 0 0, .slice none 0 0], .int .i64 0] : Array Value).toList 8 = some ([.agg [.nil, .nil, .nil, .nil, .nil, .nil], .agg [.lit (.int .i64 0), .agg [.agg [.nil, .nil], .agg [.nil, .nil]], .nil], .lit (.int .i64 0)], [], places) :=
 ⟨[], by kernel_rfl⟩
set_option maxRecDepth 100000 in
theorem snapUpto_contract (law : LawU 3) (H : Type) (enc : TypeId × Value → H) (W : World) (base : Nat) (args : Array Value) (ds gs : List (DataW H)) (before : List MemPlace)
  (hval : ∀ (j : Nat) t v, Tryz.f3.params[j]? = some t → args[j]? = some v → Value.okWide Tryz.prog W .any base t v)
  (hW : DataW.Whole enc Tryz.prog Tryz.f3.params.toList (Rows.OpenSpec.upto Rows.snapConstraintSpec).vars false W args.toList ds gs before)
  (hcond : Rows.uptoBulkAll (ds ++ gs) ≤ 1048576)
  (hsz : (DataW.weightsEach Tryz.prog (Tryz.f3.params.toList ++ (Rows.OpenSpec.upto Rows.snapConstraintSpec).bare.plain.varTypes Tryz.prog) (ds ++ gs)).all (· ≤ reachBytes) = true)
  (hL : laidMetH Tryz.prog Rows.snapConstraintUptoRow.laid W) :
  Calls Tryz.prog 3 args W fun e W' => ∃ v, e = .returned v ∧ Rows.snapConstraintSpec.post enc Tryz.prog Tryz.f3 false true false false W args v W' := by
 have hW' := hW
 obtain ⟨p, q, hA0, hV, rfl, hfz, hnd⟩ := hW
 have hA : DataW.TrodAll enc Tryz.prog W 0 (fun _ => true) true Tryz.f3.params.toList args.toList ds p := hA0
 rw [Tryz.params3] at hA hval hsz
 obtain ⟨v0, v1, v2, d0, d1, d2, p0, p1, p2, rfl, rfl, rfl, h0, h1, h2⟩ := trodAll_three hA
 obtain ⟨rfl, rfl⟩ := trodVars_none hV
 obtain ⟨cs, rfl, hcs⟩ := okWide_struct Tryz.underlying29 (hval 0 _ v0 rfl rfl)
 obtain ⟨cs', rfl, hcs'⟩ := okWide_struct Tryz.underlying38 (hval 1 _ v1 rfl rfl)
 obtain ⟨k, rfl, rfl, rfl, hwf⟩ := open_int Tryz.underlying3 (hval 2 _ v2 rfl rfl) h2
 have h0k := h0
 have h1k := h1
 obtain ⟨fuel, h0'⟩ := h0
 obtain ⟨fuel', h1'⟩ := h1
 have hfit : (d0.weights Tryz.prog 29).all (· ≤ reachBytes) = true ∧ (d1.weights Tryz.prog 38).all (· ≤ reachBytes) = true := by
  have := hsz
  simp only [List.cons_append, List.nil_append, DataW.weightsEach, List.all_append, Bool.and_eq_true] at this
  exact ⟨this.1, this.2.1⟩
 have hbk : Rows.uptoBulk d0 ≤ 1048576 := by
  have := hcond
  simp only [List.cons_append, List.nil_append, Rows.uptoBulkAll] at this
  omega
 have hlt : ∀ x ∈ p0 ++ p1, x.block < W.heap.size := fun x hx => hW'.lt x (by simp only [List.mem_append] at hx ⊢; rcases hx with hx | hx <;> simp [hx])
 refine (law H enc W fuel fuel' cs cs' k d0 d1 p0 p1 h0' hfit.1 h1' hfit.2 hbk hL).mono fun e W' ⟨he, hb⟩ => ?_
 subst he
 refine ⟨_, rfl, [d0, d1, .lit (.int .i64 k)], [], _, [], p0 ++ (p1 ++ []), [], hW', ?_, ?_, rfl, hb.frame _, fun h => by cases h⟩
 ·exact trodAll_mk1 (shut_bool Tryz.underlying4 _)
 ·exact trodAll_mk3 (Below.trod laidOut (by kernel_rfl) (of_decide_eq_true (by kernel_rfl)) h0k hb (fun x hx => hlt x (List.mem_append.2 (.inl hx)))) (Below.trod laidOut (by kernel_rfl) (of_decide_eq_true (by kernel_rfl)) h1k hb (fun x hx => hlt x (List.mem_append.2 (.inr hx)))) (shut_int Tryz.underlying3 hwf)
set_option maxRecDepth 100000 in
theorem snapUpto_lifted (law : LawU 3) (os : Os) (started : os.Started) (H : Type) (enc : TypeId × Value → H) (F : Stop.Interp) :
  ReturnsInHanded {} Tryz.checked os 3 .any ((Rows.OpenSpec.upto Rows.snapConstraintSpec).preRow enc Tryz.prog Tryz.f3 Rows.snapConstraintUptoRow.domain false Rows.snapConstraintUptoRow.laid) (((Rows.OpenSpec.upto Rows.snapConstraintSpec).at F).post enc Tryz.prog Tryz.f3 false true false false) := by
 obtain ⟨places, hx⟩ := snapUpto_reads os enc
 refine returnsInHanded_of_row (C := Tryz.checked) (s := (Rows.OpenSpec.upto Rows.snapConstraintSpec)) own started (by kernel_rfl) Tryz.func3
  (witness_row_atRef (enc := enc) (C := Tryz.checked) false (World.doorLaid Tryz.prog 200 os) #[.agg #[.slice none 0 0, .slice none 0 0, .slice none 0 0, .slice none 0 0, .slice none 0 0, .slice none 0 0], .agg #[.int .i64 0, .slice none 0 0, .slice none 0 0, .slice none 0 0, .slice none 0 0, .slice none 0 0], .int .i64 0] rfl (by kernel_rfl) (by kernel_rfl) (by kernel_rfl)
   (OpenSpec.preRow_of_cond 8 hx (by kernel_rfl) (fun k hk => by cases hk; kernel_rfl) (by kernel_rfl) (snapUpto_door os _))) ?_
 intro W base args ds gs before hval hW _ hcond hsz hL _ _
 exact snapUpto_contract law H enc W base args ds gs before hval hW (of_decide_eq_true (hcond _ rfl)) hsz hL
theorem snapUpto_said (law : LawU 3) : Rows.SnapConstraintUptoSaid :=
 OpenClaim.holds_of_cond 3 Tryz.f3 rfl rfl rfl rfl rfl rfl rfl ⟨rfl, rfl, rfl, rfl, rfl⟩ rfl rfl rfl rfl rfl (by kernel_rfl) Tryz.func3 joined
  (of_decide_eq_true (by kernel_rfl)) (by unfold Func.isWrapper; first | (rw [if_pos (by decide +kernel)]; kernel_rfl) | (rw [if_neg (by decide +kernel)]; exact ⟨rfl, rfl⟩))
  (fun os started H enc _ F => by rw [OpenClaim.pre_eq_preRow]; exact snapUpto_lifted law os started H enc F)
theorem snapUpto_card (law : LawU 3) : Rows.SnapConstraintUptoCardSaid :=
 Claim7.holds_tied_plain_at .later [] _ _ _ _ (snapUpto_said law) (fun _ h => by cases h) (by kernel_rfl) (fun _ h => by cases h) snapConstraintUpto_row_tie rfl ⟨rfl, rfl⟩ (by kernel_rfl) rfl
  (fun f fn hf hfn => by
   obtain rfl : f = 3 := Option.some.inj ((show Tryz.prog.funcNamed "setsquare/setsquarelaw46.SnapConstraint" = some 3 by kernel_rfl).symm.trans hf) |>.symm
   obtain rfl : fn = Tryz.f3 := (Option.some.inj (Tryz.func3.symm.trans hfn)).symm
   exact ⟨by kernel_rfl, fun j t ht => by
    rw [Tryz.params3] at ht
    have h3 : t = 29 ∨ t = 38 ∨ t = 3 := by
     rcases j with _ | _ | _ | j
     ·left; simpa using ht.symm
     ·right; left; simpa using ht.symm
     ·right; right; simpa using ht.symm
     ·simp at ht
    rcases h3 with rfl | rfl | rfl
    ·exact (show Tryz.prog.wantsStandIn 29 = false by kernel_rfl)
    ·exact (show Tryz.prog.wantsStandIn 38 = false by kernel_rfl)
    ·exact (show Tryz.prog.wantsStandIn 3 = false by kernel_rfl)⟩)
  (goesBy_false rfl no_goes).symm
end Go.Proofs.YtceobmnljdhkmaaGreatDoor
