/- The closed facts of the row, each a theorem of its own; no function of the translation starts a goroutine. -/
import Derived.Test.YtceobmnljdhkmaaGreatDoorRows
import Derived.Test.YtceobmnljdhkmaaGreatDoorCards
import Derived.ProofKit
import Derived.JoinedOf
namespace Go.Proofs.YtceobmnljdhkmaaGreatDoor
open Go Go.RowKit
theorem joined_of {P : Program} {f : FuncId} {fn : Func} {s : ChangeSpec} {c : OpenClaim} (h_wf : (c.wf (OpenSpec.ofChange s)) = true) (h_lo : (laidOutB P) = true) (h_mr : (mapsRowed P) = true) (h_pr : (fn.params.all (P.readableRec ·)) = true) (h_nt : (namedTie P c.named s.vars) = true) (h_st : ((c.stops == [])) = true) (h_sp : ((P.stops == [])) = true) (h_kn : ((c.knobs == [])) = true) (h_sk : ((P.stopKnobs == [])) = true) (h_ip : ((c.inPlace == P.inPlace f)) = true) (h_un : ((c.unfollowed == P.unfollowed f)) = true) (h_re : ((c.recurses == P.recurses f)) = true) (h_na : ((c.named == P.varsNamed f)) = true) (h_mp : ((c.maps == (fn.params.toList ++ s.plain.varTypes P).any (P.mapsRec ·))) = true) (h_ifa : ((c.ifaces == (fn.params.toList ++ s.plain.varTypes P).any (P.ifacesRec ·))) = true) (h_mo : ((c.mapsOut == P.mapsAmong fn.resultTypes.toList)) = true) (h_lp : ((c.loops == (fn.params.toList ++ s.plain.varTypes P).any (P.loopsFrom ·))) = true) (h_wk : ((c.wideKeys == (fn.params.toList ++ s.plain.varTypes P ++ fn.resultTypes.toList).any (P.wideKeysFrom ·))) = true) (h_vr : (s.vars.all (P.varReadable ·)) = true) (h_rt : (fn.resultTypes.all (fun t => P.readableRec t && decide (t < P.types.size))) = true) (h_io : ((c.ifacesOut == fn.resultTypes.toList.any (P.ifacesRec ·))) = true) (h_lu : ((c.loopsOut == fn.resultTypes.toList.any (P.loopsFrom ·))) = true) (h_pk : ((c.plainKeys == P.plainKeys)) = true) (h_sh : (c.shortTexts.isNone) = true) (h_sd : (P.stopsHeard) = true) (h_me : (P.mayEnter) = true) (h_li : ((c.lifted == P.liftsFinal)) = true) (h_mk : ((P.make == some c.make)) = true) (h_ki : ((c.kinds == (if c.domain.isEmpty then [] else fn.params.toList.map fun t => match P.underlying t with | some (.int k) => some k | _ => none))) = true) (h_pi : ((c.pinned == c.pinnedBy)) = true) (h_ve : ((c.veiled == (fn.params.toList ++ s.plain.varTypes P ++ fn.resultTypes.toList).any (P.veiledRec ·))) = true) (h_vf : (c.veiledFits P fn.params.toList (fn.params.toList ++ s.plain.varTypes P ++ fn.resultTypes.toList)) = true) : joinedFacts P f fn s c = true := by
 unfold joinedFacts
 simp only [Bool.and_eq_true]
 exact ⟨⟨⟨⟨⟨⟨⟨⟨⟨⟨⟨⟨⟨⟨⟨⟨⟨⟨⟨⟨⟨⟨⟨⟨⟨⟨⟨⟨⟨⟨⟨h_wf, h_lo⟩, h_mr⟩, h_pr⟩, h_nt⟩, h_st⟩, h_sp⟩, h_kn⟩, h_sk⟩, h_ip⟩, h_un⟩, h_re⟩, h_na⟩, h_mp⟩, h_ifa⟩, h_mo⟩, h_lp⟩, h_wk⟩, h_vr⟩, h_rt⟩, h_io⟩, h_lu⟩, h_pk⟩, h_sh⟩, h_sd⟩, h_me⟩, h_li⟩, h_mk⟩, h_ki⟩, h_pi⟩, h_ve⟩, h_vf⟩
set_option maxRecDepth 100000 in
theorem jf_wf : (Rows.snapConstraintUptoRow.wf (OpenSpec.ofChange (Rows.OpenSpec.upto Rows.snapConstraintSpec).bare)) = true := by kernel_rfl
set_option maxRecDepth 100000 in
theorem jf_lo : (laidOutB Tryz.pinned.checked.prog) = true := by kernel_rfl
set_option maxRecDepth 100000 in
theorem jf_mr : (mapsRowed Tryz.pinned.checked.prog) = true := by kernel_rfl
set_option maxRecDepth 100000 in
theorem jf_pr : (Tryz.f3.params.all (Tryz.pinned.checked.prog.readableRec ·)) = true := by kernel_rfl
set_option maxRecDepth 100000 in
theorem jf_nt : (namedTie Tryz.pinned.checked.prog Rows.snapConstraintUptoRow.named (Rows.OpenSpec.upto Rows.snapConstraintSpec).bare.vars) = true := by kernel_rfl
set_option maxRecDepth 100000 in
theorem jf_st : ((Rows.snapConstraintUptoRow.stops == [])) = true := by kernel_rfl
set_option maxRecDepth 100000 in
theorem jf_sp : ((Tryz.pinned.checked.prog.stops == [])) = true := by kernel_rfl
set_option maxRecDepth 100000 in
theorem jf_kn : ((Rows.snapConstraintUptoRow.knobs == [])) = true := by kernel_rfl
set_option maxRecDepth 100000 in
theorem jf_sk : ((Tryz.pinned.checked.prog.stopKnobs == [])) = true := by kernel_rfl
set_option maxRecDepth 100000 in
theorem jf_ip : ((Rows.snapConstraintUptoRow.inPlace == Tryz.pinned.checked.prog.inPlace 3)) = true := by kernel_rfl
set_option maxRecDepth 100000 in
theorem jf_un : ((Rows.snapConstraintUptoRow.unfollowed == Tryz.pinned.checked.prog.unfollowed 3)) = true := by kernel_rfl
set_option maxRecDepth 100000 in
theorem jf_re : ((Rows.snapConstraintUptoRow.recurses == Tryz.pinned.checked.prog.recurses 3)) = true := by kernel_rfl
set_option maxRecDepth 100000 in
theorem jf_na : ((Rows.snapConstraintUptoRow.named == Tryz.pinned.checked.prog.varsNamed 3)) = true := by kernel_rfl
set_option maxRecDepth 100000 in
theorem jf_mp : ((Rows.snapConstraintUptoRow.maps == (Tryz.f3.params.toList ++ (Rows.OpenSpec.upto Rows.snapConstraintSpec).bare.plain.varTypes Tryz.pinned.checked.prog).any (Tryz.pinned.checked.prog.mapsRec ·))) = true := by kernel_rfl
set_option maxRecDepth 100000 in
theorem jf_ifa : ((Rows.snapConstraintUptoRow.ifaces == (Tryz.f3.params.toList ++ (Rows.OpenSpec.upto Rows.snapConstraintSpec).bare.plain.varTypes Tryz.pinned.checked.prog).any (Tryz.pinned.checked.prog.ifacesRec ·))) = true := by kernel_rfl
set_option maxRecDepth 100000 in
theorem jf_mo : ((Rows.snapConstraintUptoRow.mapsOut == Tryz.pinned.checked.prog.mapsAmong Tryz.f3.resultTypes.toList)) = true := by kernel_rfl
set_option maxRecDepth 100000 in
theorem jf_lp : ((Rows.snapConstraintUptoRow.loops == (Tryz.f3.params.toList ++ (Rows.OpenSpec.upto Rows.snapConstraintSpec).bare.plain.varTypes Tryz.pinned.checked.prog).any (Tryz.pinned.checked.prog.loopsFrom ·))) = true := by kernel_rfl
set_option maxRecDepth 100000 in
theorem jf_wk : ((Rows.snapConstraintUptoRow.wideKeys == (Tryz.f3.params.toList ++ (Rows.OpenSpec.upto Rows.snapConstraintSpec).bare.plain.varTypes Tryz.pinned.checked.prog ++ Tryz.f3.resultTypes.toList).any (Tryz.pinned.checked.prog.wideKeysFrom ·))) = true := by kernel_rfl
set_option maxRecDepth 100000 in
theorem jf_vr : ((Rows.OpenSpec.upto Rows.snapConstraintSpec).bare.vars.all (Tryz.pinned.checked.prog.varReadable ·)) = true := by kernel_rfl
set_option maxRecDepth 100000 in
theorem jf_rt : (Tryz.f3.resultTypes.all (fun t => Tryz.pinned.checked.prog.readableRec t && decide (t < Tryz.pinned.checked.prog.types.size))) = true := by kernel_rfl
set_option maxRecDepth 100000 in
theorem jf_io : ((Rows.snapConstraintUptoRow.ifacesOut == Tryz.f3.resultTypes.toList.any (Tryz.pinned.checked.prog.ifacesRec ·))) = true := by kernel_rfl
set_option maxRecDepth 100000 in
theorem jf_lu : ((Rows.snapConstraintUptoRow.loopsOut == Tryz.f3.resultTypes.toList.any (Tryz.pinned.checked.prog.loopsFrom ·))) = true := by kernel_rfl
set_option maxRecDepth 100000 in
theorem jf_pk : ((Rows.snapConstraintUptoRow.plainKeys == Tryz.pinned.checked.prog.plainKeys)) = true := by kernel_rfl
set_option maxRecDepth 100000 in
theorem jf_sh : (Rows.snapConstraintUptoRow.shortTexts.isNone) = true := by kernel_rfl
set_option maxRecDepth 100000 in
theorem jf_sd : (Tryz.pinned.checked.prog.stopsHeard) = true := by kernel_rfl
set_option maxRecDepth 100000 in
theorem jf_me : (Tryz.pinned.checked.prog.mayEnter) = true := by kernel_rfl
set_option maxRecDepth 100000 in
theorem jf_li : ((Rows.snapConstraintUptoRow.lifted == Tryz.pinned.checked.prog.liftsFinal)) = true := by kernel_rfl
set_option maxRecDepth 100000 in
theorem jf_mk : ((Tryz.pinned.checked.prog.make == some Rows.snapConstraintUptoRow.make)) = true := by kernel_rfl
set_option maxRecDepth 100000 in
theorem jf_ki : ((Rows.snapConstraintUptoRow.kinds == (if Rows.snapConstraintUptoRow.domain.isEmpty then [] else Tryz.f3.params.toList.map fun t => match Tryz.pinned.checked.prog.underlying t with | some (.int k) => some k | _ => none))) = true := by kernel_rfl
set_option maxRecDepth 100000 in
theorem jf_pi : ((Rows.snapConstraintUptoRow.pinned == Rows.snapConstraintUptoRow.pinnedBy)) = true := by kernel_rfl
set_option maxRecDepth 100000 in
theorem jf_ve : ((Rows.snapConstraintUptoRow.veiled == (Tryz.f3.params.toList ++ (Rows.OpenSpec.upto Rows.snapConstraintSpec).bare.plain.varTypes Tryz.pinned.checked.prog ++ Tryz.f3.resultTypes.toList).any (Tryz.pinned.checked.prog.veiledRec ·))) = true := by kernel_rfl
set_option maxRecDepth 100000 in
theorem jf_vf : (Rows.snapConstraintUptoRow.veiledFits Tryz.pinned.checked.prog Tryz.f3.params.toList (Tryz.f3.params.toList ++ (Rows.OpenSpec.upto Rows.snapConstraintSpec).bare.plain.varTypes Tryz.pinned.checked.prog ++ Tryz.f3.resultTypes.toList)) = true := by kernel_rfl
theorem joined : joinedFacts Tryz.pinned.checked.prog 3 Tryz.f3 (Rows.OpenSpec.upto Rows.snapConstraintSpec).bare Rows.snapConstraintUptoRow = true :=
 joined_of jf_wf jf_lo jf_mr jf_pr jf_nt jf_st jf_sp jf_kn jf_sk jf_ip jf_un jf_re jf_na jf_mp jf_ifa jf_mo jf_lp jf_wk jf_vr jf_rt jf_io jf_lu jf_pk jf_sh jf_sd jf_me jf_li jf_mk jf_ki jf_pi jf_ve jf_vf
/-- No function of the translation starts a goroutine: so the call starts none (the road need not be reckoned). -/
theorem no_goes : Tryz.pinned.checked.prog.funcs.any Func.goes = false := by kernel_rfl
theorem goes_none {P : Program} (h : P.funcs.any Func.goes = false) (f : FuncId) : P.goes f = false := by
 unfold Program.goes
 rw [h, Bool.and_false, Bool.or_false, List.any_eq_false]
 intro g hg hh
 rw [Array.any_eq_false] at h
 cases e : P.funcs[g]? with
 | none => rw [e] at hh; cases hh
 | some fn =>
  rw [e] at hh
  obtain ⟨h1, h2⟩ := Array.getElem?_eq_some_iff.1 e
  exact h g h1 (by rw [h2]; exact hh)
theorem goesFrom_none {P : Program} (h : P.funcs.any Func.goes = false) (n : String) : P.goesFrom n = false := by
 unfold Program.goesFrom
 cases P.funcNamed n with
 | none => rfl
 | some f => exact goes_none h f
theorem goesBy_false {P : Program} {c : OpenClaim} (hs : c.start = .entering) (h : P.funcs.any Func.goes = false) : c.goesBy P = false := by
 unfold OpenClaim.goesBy Program.goesAt
 rw [goesFrom_none h, hs]
 rfl
end Go.Proofs.YtceobmnljdhkmaaGreatDoor
