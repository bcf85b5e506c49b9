/- From a law's contract to the given statement: AlgebraicParse. -/
import Derived.Test.YtmjoaipkaddkbaaGreatDoorRows
import Derived.Test.YtmjoaipkaddkbaaGreatDoorCards
import Derived.Test.YtmjoaipkaddkbaaGreatDoorTie
import Derived.ProofKit
import Derived.LaidMore
import Derived.OpenShut
import Derived.Stop.Joined
import Derived.Carry
import Derived.SevenTiedAt
import Derived.Lay
import Derived.Test.YtmjoaipkaddkbaaGreatDoorRows
import Derived.JoinedOf
namespace Go.Proofs.YtmjoaipkaddkbaaGreatDoor
open Go Go.RowKit Go.ChangeShapes Go.WideShapes Go.ChangeAt Go.WideMaps Go.WideElems

theorem own:ownKnob Tryz.prog.godebug=none:=by kernel_rfl
theorem laidOut:laidOutB Tryz.prog=true:=by kernel_rfl
def LawT(f:FuncId):Prop:=∀(W:World) (x:ByteArray),laidMetH Tryz.prog Rows.algebraicParseRow.laid W->W.ShapedOpen Tryz.prog->
  Calls Tryz.prog f #[.string x] W fun e w'=>e= .returned (.bool true)/\Below W.heap.size W w'

theorem no_goes:Tryz.pinned.checked.prog.funcs.any Func.goes=false:=by kernel_rfl
theorem goes_none{P:Program}(h:P.funcs.any Func.goes=false)(f:FuncId):P.goes f=false:=by
  unfold Program.goes
  rw[h,Bool.and_false,Bool.or_false,List.any_eq_false]
  intro g hg hh
  rw[Array.any_eq_false]at h
  cases e:P.funcs[g]? with
  |none=>rw[e]at hh;cases hh
  | some fn=>
    rw[e]at hh
    obtain⟨h1,h2⟩:=Array.getElem?_eq_some_iff.1 e
    exact h g h1 (by rw[h2];exact hh)
theorem goesFrom_none{P:Program}(h:P.funcs.any Func.goes=false)(n:String):P.goesFrom n=false:=by
  unfold Program.goesFrom
  cases P.funcNamed n with
  |none=>rfl
  |some f=>exact goes_none h f
theorem goesBy_false{P:Program}{c:OpenClaim}(hs:c.start= .entering)(h:P.funcs.any Func.goes=false):c.goesBy P=false:=by
  unfold OpenClaim.goesBy Program.goesAt
  rw[goesFrom_none h,hs]
  rfl

theorem change_both{H:Type}{enc:TypeId×Value->H}{a:Assume}{C:Checked}{os:Os}{f:FuncId}{fn:Func}{s:ChangeSpec}{conds:List PathCond}{apart fresh handsOn again:Bool}{X:World->Array Value->Prop}
    (hX:∀(w w':World) (args:Array Value),w.heap=w'.heap->X w args->X w' args)
    (own:ownKnob C.prog.godebug=none) (started:os.Started) (noInit:C.prog.inits.idxOf? f=none) (hfn:C.prog.funcs[f]? =some fn)
    (witness:∃(w:World) (tape:Tape) (i:Input),w.os=os/\(w.forCall tape i).Shaped C.prog/\i.vars=[]/\Input.okWide C.prog (w.forCall tape i) .any w.heap.size f i/\
      ((s.pre enc C.prog fn conds apart (w.forCall tape i).memory i.args/\X (w.forCall tape i).memory i.args)/\sizedMet enc C.prog fn (OpenSpec.ofChange s) apart (w.forCall tape i).memory i.args)/\a.holds C.prog (lone (Frame.enter C.prog f i.args .normal) [] (w.forCall tape i)))
    (contract:∀(W:World) (base:Nat) (args:Array Value) (ds gs:List (DataW H)) (before:List MemPlace),(∀(j:Nat) t v,fn.params[j]? =some t->args[j]? =some v->Value.okWide C.prog W .any base t v)->DataW.Whole enc C.prog fn.params.toList s.vars apart W args.toList ds gs before->
      (DataW.weightsEach C.prog (fn.params.toList++s.plain.varTypes C.prog) (ds++gs)).all (· <=reachBytes)=true->X W args->W.ShapedOpen C.prog->Calls C.prog f args W fun e W'=>∃v,e= .returned v/\s.post enc C.prog fn apart fresh handsOn again W args v W'):
    ReturnsInHanded a C os f .any (fun w args=>(s.pre enc C.prog fn conds apart w args/\X w args)/\sizedMet enc C.prog fn (OpenSpec.ofChange s) apart w args) (s.post enc C.prog fn apart fresh handsOn again):=by
  refine returnsInHanded_of_calls own started noInit witness fun w tape i _ hsh _ hok hpre _=> ?_
  obtain⟨_,_,_,fn',hfn',_,_,_,_,hval⟩:=hok
  obtain rfl:fn'=fn:=Option.some.inj (hfn'.symm.trans hfn)
  obtain⟨⟨⟨ds,gs,before,hw,_⟩,hx⟩,hz⟩:=hpre
  have hw':=DataW.Whole.of_heap (w':=w.forCall tape i) (by rfl) hw
  refine(contract (w.forCall tape i) w.heap.size i.args ds gs before hval hw' (hz.weights hw) (hX _ _ _ (by rfl) hx) hsh).mono fun e W' ⟨v,he,hp⟩=> ?_
  subst he
  exact ChangeSpec.post_blind hp

set_option maxRecDepth 100000 in
theorem algebraicParse_lifted(law:LawT 4)(os:Os)(started:os.Started)(H:Type)(enc:TypeId×Value->H):
    ReturnsInHanded {} Tryz.checked os 4 .any (fun w args=>(Rows.algebraicParseSpec.pre enc Tryz.prog Tryz.f4 [] false w args/\laidMetH Tryz.prog Rows.algebraicParseRow.laid w)/\sizedMet enc Tryz.prog Tryz.f4 (OpenSpec.ofChange Rows.algebraicParseSpec) false w args)
      (Rows.algebraicParseSpec.post enc Tryz.prog Tryz.f4 false true false false):=by
  refine change_both (C:=Tryz.checked) (X:=fun w _=>laidMetH Tryz.prog Rows.algebraicParseRow.laid w) (fun _ _ _ hh h=>h.of_heap hh) own started (by kernel_rfl) Tryz.func4
    (ChangeSpec.witness_shaped (enc:=enc) (C:=Tryz.checked) (os:=os) (X:=fun w _=>laidMetH Tryz.prog Rows.algebraicParseRow.laid w) false (World.laidAll Tryz.prog os Rows.algebraicParseRow.laid) #[.string ⟨#[]⟩] 8 (World.laidAll_os _ _ _) (World.shaped_of_ZipB (by kernel_rfl) (by kernel_rfl)) (by kernel_rfl) (by kernel_rfl) (by kernel_rfl) (by rw[MakeChecks.laidMetH_plain _ _ _ (by kernel_rfl)];exact laidMet_laidAll _ (by kernel_rfl) (by kernel_rfl))) ?_
  intro W base args ds gs before hval0 hW hsz hL hsh
  have hval:∀(j:Nat) t v,Tryz.f4.params[j]? =some t->args[j]? =some v->Value.okWide Tryz.prog W .any base t v:=hval0
  have hW':=hW
  obtain⟨p,q,hA0,hV,rfl,hfz,hnd⟩:=hW
  have hA:DataW.TrodAll enc Tryz.prog W 0 (fun _=>true) true Tryz.f4.params.toList args.toList ds p:=hA0
  rw[Tryz.params4]at hA hval
  obtain⟨v0,d0,rfl,rfl,h0⟩:=trodAll_one hA
  obtain⟨rfl,rfl⟩:=trodVars_none hV
  obtain⟨x,rfl⟩:=okWide_string Tryz.underlying9 (hval 0 _ v0 rfl rfl)
  have h0k:=h0
  have hlt:∀x∈p,x.block<W.heap.size:=fun x hx=>hW'.lt x (by simp [hx])
  refine(law W x hL hsh).mono fun e W' ⟨he,hb⟩=> ?_
  subst he
  refine⟨_,rfl,[d0],[],_,[],p,[],hW', ?_, ?_,rfl,hb.frame _,fun h=>by cases h⟩
  · exact trodAll_mk1 (shut_bool Tryz.underlying4 _)
  · exact trodAll_mk1 (Below.trod laidOut (by kernel_rfl) (of_decide_eq_true (by kernel_rfl)) h0k hb hlt)

theorem algebraicParse_said(law:LawT 4):Rows.AlgebraicParseSaid:=
  OpenClaim.holds_of_wide 4 Tryz.f4 rfl rfl rfl rfl rfl rfl rfl ⟨rfl,rfl,rfl,rfl,rfl⟩ rfl rfl rfl rfl rfl (by kernel_rfl) Tryz.func4 (by kernel_rfl)
    (of_decide_eq_true (by kernel_rfl)) (by unfold Func.isWrapper;first|(rw[if_pos (by decide+kernel)];kernel_rfl)|(rw[if_neg (by decide+kernel)];exact⟨rfl,rfl⟩))
    (fun os started H enc _=>algebraicParse_lifted law os started H enc)

theorem algebraicParse_card(law:LawT 4):Rows.AlgebraicParseCardSaid:=
  Claim7.holds_tied_plain_at .later [] [.data,.data,.data,.data,.sentinel,.sentinel,.pinned] true (true, "c80e831063550d5b4359cc90f5051aa5a9d48a67f4f394015e82543d8bde7108") true
    (algebraicParse_said law) (fun _ h=>by cases h) (by kernel_rfl) (fun _ h=>by cases h) algebraicParse_row_tie rfl ⟨rfl,rfl⟩ (by kernel_rfl) rfl
    (fun f fn hf hfn=>by
      obtain rfl:f=4:=Option.some.inj ((show Tryz.prog.funcNamed "setsquare/setsquarelaw10.AlgebraicParse" =some 4 by kernel_rfl).symm.trans hf) |>.symm
      obtain rfl:fn=Tryz.f4:=(Option.some.inj (Tryz.func4.symm.trans hfn)).symm
      exact⟨by kernel_rfl,fun j t ht=>by
        rw[Tryz.params4]at ht
        have h3:t=9:=by
          rcases j with _|j
          · simpa using ht.symm
          · simp at ht
        subst h3
        exact(show Tryz.prog.wantsStandIn 9=false by kernel_rfl)⟩)
    (goesBy_false rfl no_goes).symm

end Go.Proofs.YtmjoaipkaddkbaaGreatDoor
