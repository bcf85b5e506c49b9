/- AlgebraicText: Parse restores each valid form from its text. No conditions. -/
import Derived.Test.YtmjoaipkaddkbaaGreatDoorP14
import Derived.Test.YtmjoaipkaddkbaaGreatDoorP21
import Derived.Test.YtmjoaipkaddkbaaGreatDoorP23
import Derived.Test.YtmjoaipkaddkbaaGreatDoorP25
import Derived.Test.YtmjoaipkaddkbaaGreatDoorKs
noncomputable section
set_option maxRecDepth 10000000
open Go
namespace Go.Proofs.YtmjoaipkaddkbaaGreatDoor.Ev
section
open Go Go.RowKit
def isA:lW:=⟨isJ.inl,isJ.row,fun f=>aDP.elem f&& !Nat.beq f 5⟩
def TA:List CE:= .run bG1:: .run bFi:: .run bC2:: .run bDm:: .run (bHA bHG):: .run bHx:: .run bHf:: .run bGe:: .run bHu:: .run bC5:: .run bCX:: .run bHI::Tx
theorem aXM:gG PG isA (pvT TA) 60 5 []=some (.b true,false):=by kernel_rfl
theorem bHa:mK PG pr3 (gG PG isA (pvT TA) 60):=aBO (aRF aKk TA) (fun _ h=>aDo h) (fun f (hf:isA f=true)=>aKk.no (aS1 f hf)) (fun f h=>by
 have h1:aDP.elem f=true:=aKk.np f h
 show(aDP.elem f&& !Nat.beq f 5)=true
 rw[h1,Bool.true_and]
 cases a:Nat.beq f 5 with
 |false=>rfl
 |true=>
  obtain rfl:=Nat.eq_of_beq_eq_true a
  exact absurd (by kernel_rfl:pr3 5=none) h) 60
theorem aVg(W:World)(b:fX W):Calls PG 5 #[] W fun e w'=>e= .returned (.bool true)/\Below W.heap.size W w':=
 Calls.mono (aHv aK8 bFo aJt (bHa _ _ _ _ aXM) b (vs:=[]) .nil) (by
  rintro e w' ⟨v,rfl,a,c⟩
  change WT w' v (.b true)at c
  cases c
  exact⟨rfl,a⟩)
end
end Go.Proofs.YtmjoaipkaddkbaaGreatDoor.Ev
namespace Go.Proofs.YtmjoaipkaddkbaaGreatDoor
section
open Go Go.RowKit Go.Proofs.YtmjoaipkaddkbaaGreatDoor.Ev Go.Proofs.YtmjoaipkaddkbaaGreatDoor
theorem aZD:LawS 3:=fun H enc W fuel cs d p h i j hs=>by
 obtain⟨A,k,c,l,r,b,e,m,a,f,g⟩:=aXZ (enc:=enc) (w:=W) h i
 obtain rfl:cs= #[.slice A k c,.int .i64 r]:=Array.ext' b
 exact aZY m a ⟨f,g⟩ (bDQ hs j) aVg e
theorem algebraicText_proved:Rows.AlgebraicTextCardSaid:=algebraicText_card aZD
#print axioms algebraicText_proved
end
end Go.Proofs.YtmjoaipkaddkbaaGreatDoor