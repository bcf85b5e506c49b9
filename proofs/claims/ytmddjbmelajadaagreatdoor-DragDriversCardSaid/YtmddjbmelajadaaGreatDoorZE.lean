/- The closed facts of the row, each a theorem of its own; no function of the translation starts a goroutine. -/
import Derived.Test.YtmddjbmelajadaaGreatDoorRows
import Derived.ProofKit
import Derived.JoinedOf
namespace Go.Proofs.YtmddjbmelajadaaGreatDoor
open Go Go.RowKit
theorem joined_of {P : Program} {f : FuncId} {fn : Func} {s : ChangeSpec} {c : OpenClaim} (h_wf : (c.wf (OpenSpec.ofChange s)) = true) (h_lo : (laidOutB P) = true) (h_mr : (mapsRowed P) = true) (h_pr : (fn.params.all (P.readableRec ·)) = true) (h_nt : (namedTie P c.named s.vars) = true) (h_st : ((c.stops == [])) = true) (h_sp : ((P.stops == [])) = true) (h_kn : ((c.knobs == [])) = true) (h_sk : ((P.stopKnobs == [])) = true) (h_ip : ((c.inPlace == P.inPlace f)) = true) (h_un : ((c.unfollowed == P.unfollowed f)) = true) (h_re : ((c.recurses == P.recurses f)) = true) (h_na : ((c.named == P.varsNamed f)) = true) (h_mp : ((c.maps == (fn.params.toList ++ s.plain.varTypes P).any (P.mapsRec ·))) = true) (h_ifa : ((c.ifaces == (fn.params.toList ++ s.plain.varTypes P).any (P.ifacesRec ·))) = true) (h_mo : ((c.mapsOut == P.mapsAmong fn.resultTypes.toList)) = true) (h_lp : ((c.loops == (fn.params.toList ++ s.plain.varTypes P).any (P.loopsFrom ·))) = true) (h_wk : ((c.wideKeys == (fn.params.toList ++ s.plain.varTypes P ++ fn.resultTypes.toList).any (P.wideKeysFrom ·))) = true) (h_vr : (s.vars.all (P.varReadable ·)) = true) (h_rt : (fn.resultTypes.all (fun t => P.readableRec t && decide (t < P.types.size))) = true) (h_io : ((c.ifacesOut == fn.resultTypes.toList.any (P.ifacesRec ·))) = true) (h_lu : ((c.loopsOut == fn.resultTypes.toList.any (P.loopsFrom ·))) = true) (h_pk : ((c.plainKeys == P.plainKeys)) = true) (h_sh : (c.shortTexts.isNone) = true) (h_sd : (P.stopsHeard) = true) (h_me : (P.mayEnter) = true) (h_li : ((c.lifted == P.liftsFinal)) = true) (h_mk : ((P.make == some c.make)) = true) (h_ki : ((c.kinds == (if c.domain.isEmpty then [] else fn.params.toList.map fun t => match P.underlying t with | some (.int k) => some k | _ => none))) = true) (h_pi : ((c.pinned == c.pinnedBy)) = true) (h_ve : ((c.veiled == (fn.params.toList ++ s.plain.varTypes P ++ fn.resultTypes.toList).any (P.veiledRec ·))) = true) (h_vf : (c.veiledFits P fn.params.toList (fn.params.toList ++ s.plain.varTypes P ++ fn.resultTypes.toList)) = true) : joinedFacts P f fn s c = true := by
 unfold joinedFacts
 simp only [Bool.and_eq_true]
 exact ⟨⟨⟨⟨⟨⟨⟨⟨⟨⟨⟨⟨⟨⟨⟨⟨⟨⟨⟨⟨⟨⟨⟨⟨⟨⟨⟨⟨⟨⟨⟨h_wf, h_lo⟩, h_mr⟩, h_pr⟩, h_nt⟩, h_st⟩, h_sp⟩, h_kn⟩, h_sk⟩, h_ip⟩, h_un⟩, h_re⟩, h_na⟩, h_mp⟩, h_ifa⟩, h_mo⟩, h_lp⟩, h_wk⟩, h_vr⟩, h_rt⟩, h_io⟩, h_lu⟩, h_pk⟩, h_sh⟩, h_sd⟩, h_me⟩, h_li⟩, h_mk⟩, h_ki⟩, h_pi⟩, h_ve⟩, h_vf⟩
set_option maxRecDepth 100000 in
theorem jf_wf : (Rows.dragDriversRow.wf (OpenSpec.ofChange Rows.dragDriversSpec)) = true := by kernel_rfl
set_option maxRecDepth 100000 in
theorem jf_lo : (laidOutB Tryz.pinned.checked.prog) = true := by kernel_rfl
set_option maxRecDepth 100000 in
theorem jf_mr : (mapsRowed Tryz.pinned.checked.prog) = true := by kernel_rfl
set_option maxRecDepth 100000 in
theorem jf_pr : (Tryz.f3.params.all (Tryz.pinned.checked.prog.readableRec ·)) = true := by kernel_rfl
set_option maxRecDepth 100000 in
theorem jf_nt : (namedTie Tryz.pinned.checked.prog Rows.dragDriversRow.named Rows.dragDriversSpec.vars) = true := by kernel_rfl
set_option maxRecDepth 100000 in
theorem jf_st : ((Rows.dragDriversRow.stops == [])) = true := by kernel_rfl
set_option maxRecDepth 100000 in
theorem jf_sp : ((Tryz.pinned.checked.prog.stops == [])) = true := by kernel_rfl
set_option maxRecDepth 100000 in
theorem jf_kn : ((Rows.dragDriversRow.knobs == [])) = true := by kernel_rfl
set_option maxRecDepth 100000 in
theorem jf_sk : ((Tryz.pinned.checked.prog.stopKnobs == [])) = true := by kernel_rfl
set_option maxRecDepth 100000 in
theorem jf_ip : ((Rows.dragDriversRow.inPlace == Tryz.pinned.checked.prog.inPlace 3)) = true := by kernel_rfl
set_option maxRecDepth 100000 in
theorem jf_un : ((Rows.dragDriversRow.unfollowed == Tryz.pinned.checked.prog.unfollowed 3)) = true := by kernel_rfl
set_option maxRecDepth 100000 in
theorem jf_re : ((Rows.dragDriversRow.recurses == Tryz.pinned.checked.prog.recurses 3)) = true := by kernel_rfl
set_option maxRecDepth 100000 in
theorem jf_na : ((Rows.dragDriversRow.named == Tryz.pinned.checked.prog.varsNamed 3)) = true := by kernel_rfl
set_option maxRecDepth 100000 in
theorem jf_mp : ((Rows.dragDriversRow.maps == (Tryz.f3.params.toList ++ Rows.dragDriversSpec.plain.varTypes Tryz.pinned.checked.prog).any (Tryz.pinned.checked.prog.mapsRec ·))) = true := by kernel_rfl
set_option maxRecDepth 100000 in
theorem jf_ifa : ((Rows.dragDriversRow.ifaces == (Tryz.f3.params.toList ++ Rows.dragDriversSpec.plain.varTypes Tryz.pinned.checked.prog).any (Tryz.pinned.checked.prog.ifacesRec ·))) = true := by kernel_rfl
set_option maxRecDepth 100000 in
theorem jf_mo : ((Rows.dragDriversRow.mapsOut == Tryz.pinned.checked.prog.mapsAmong Tryz.f3.resultTypes.toList)) = true := by kernel_rfl
set_option maxRecDepth 100000 in
theorem jf_lp : ((Rows.dragDriversRow.loops == (Tryz.f3.params.toList ++ Rows.dragDriversSpec.plain.varTypes Tryz.pinned.checked.prog).any (Tryz.pinned.checked.prog.loopsFrom ·))) = true := by kernel_rfl
set_option maxRecDepth 100000 in
theorem jf_wk : ((Rows.dragDriversRow.wideKeys == (Tryz.f3.params.toList ++ Rows.dragDriversSpec.plain.varTypes Tryz.pinned.checked.prog ++ Tryz.f3.resultTypes.toList).any (Tryz.pinned.checked.prog.wideKeysFrom ·))) = true := by kernel_rfl
set_option maxRecDepth 100000 in
theorem jf_vr : (Rows.dragDriversSpec.vars.all (Tryz.pinned.checked.prog.varReadable ·)) = true := by kernel_rfl
set_option maxRecDepth 100000 in
theorem jf_rt : (Tryz.f3.resultTypes.all (fun t => Tryz.pinned.checked.prog.readableRec t && decide (t < Tryz.pinned.checked.prog.types.size))) = true := by kernel_rfl
set_option maxRecDepth 100000 in
theorem jf_io : ((Rows.dragDriversRow.ifacesOut == Tryz.f3.resultTypes.toList.any (Tryz.pinned.checked.prog.ifacesRec ·))) = true := by kernel_rfl
set_option maxRecDepth 100000 in
theorem jf_lu : ((Rows.dragDriversRow.loopsOut == Tryz.f3.resultTypes.toList.any (Tryz.pinned.checked.prog.loopsFrom ·))) = true := by kernel_rfl
set_option maxRecDepth 100000 in
theorem jf_pk : ((Rows.dragDriversRow.plainKeys == Tryz.pinned.checked.prog.plainKeys)) = true := by kernel_rfl
set_option maxRecDepth 100000 in
theorem jf_sh : (Rows.dragDriversRow.shortTexts.isNone) = true := by kernel_rfl
set_option maxRecDepth 100000 in
theorem jf_sd : (Tryz.pinned.checked.prog.stopsHeard) = true := by kernel_rfl
set_option maxRecDepth 100000 in
theorem jf_me : (Tryz.pinned.checked.prog.mayEnter) = true := by kernel_rfl
set_option maxRecDepth 100000 in
theorem jf_li : ((Rows.dragDriversRow.lifted == Tryz.pinned.checked.prog.liftsFinal)) = true := by kernel_rfl
set_option maxRecDepth 100000 in
theorem jf_mk : ((Tryz.pinned.checked.prog.make == some Rows.dragDriversRow.make)) = true := by kernel_rfl
set_option maxRecDepth 100000 in
theorem jf_ki : ((Rows.dragDriversRow.kinds == (if Rows.dragDriversRow.domain.isEmpty then [] else Tryz.f3.params.toList.map fun t => match Tryz.pinned.checked.prog.underlying t with | some (.int k) => some k | _ => none))) = true := by kernel_rfl
set_option maxRecDepth 100000 in
theorem jf_pi : ((Rows.dragDriversRow.pinned == Rows.dragDriversRow.pinnedBy)) = true := by kernel_rfl
set_option maxRecDepth 100000 in
theorem jf_ve : ((Rows.dragDriversRow.veiled == (Tryz.f3.params.toList ++ Rows.dragDriversSpec.plain.varTypes Tryz.pinned.checked.prog ++ Tryz.f3.resultTypes.toList).any (Tryz.pinned.checked.prog.veiledRec ·))) = true := by kernel_rfl
set_option maxRecDepth 100000 in
theorem jf_vf : (Rows.dragDriversRow.veiledFits Tryz.pinned.checked.prog Tryz.f3.params.toList (Tryz.f3.params.toList ++ Rows.dragDriversSpec.plain.varTypes Tryz.pinned.checked.prog ++ Tryz.f3.resultTypes.toList)) = true := by kernel_rfl
theorem joined : joinedFacts Tryz.pinned.checked.prog 3 Tryz.f3 Rows.dragDriversSpec Rows.dragDriversRow = true :=
 joined_of jf_wf jf_lo jf_mr jf_pr jf_nt jf_st jf_sp jf_kn jf_sk jf_ip jf_un jf_re jf_na jf_mp jf_ifa jf_mo jf_lp jf_wk jf_vr jf_rt jf_io jf_lu jf_pk jf_sh jf_sd jf_me jf_li jf_mk jf_ki jf_pi jf_ve jf_vf
end Go.Proofs.YtmddjbmelajadaaGreatDoor
