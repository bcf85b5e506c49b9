/- AlgebraicParse: Parse returns the specified form or error for every string. No conditions. -/
import Derived.Test.YtmjoaipkaddkbaaGreatDoorP13
import Derived.Test.YtmjoaipkaddkbaaGreatDoorP20
import Derived.Test.YtmjoaipkaddkbaaGreatDoorP22
import Derived.Test.YtmjoaipkaddkbaaGreatDoorP24
import Derived.Test.YtmjoaipkaddkbaaGreatDoorKt
noncomputable section
set_option maxRecDepth 10000000
open Go
namespace Go.Proofs.YtmjoaipkaddkbaaGreatDoor
namespace Ev
section
open Go Go.RowKit
def isA:mB:=⟨isJ.inl,isJ.row,fun f=>aEf.elem f&& !Nat.beq f 5⟩
def TA:List CE:= .run bHL:: .run bGu:: .run bF7:: .run bER:: .run (bI5 bIp):: .run bIE:: .run bIB:: .run bHN:: .run bHY:: .run bDi:: .run bEY:: .run bIC::Tx
theorem aXY:fY PG isA (pvT TA) 60 5 []=some (.b true,false):=by kernel_rfl
theorem bIF:mR PG pr3 (fY PG isA (pvT TA) 60):=aBV (aTA aKO TA) (fun _ h=>aDx h) (fun f (hf:isA f=true)=>aKO.no (aSh f hf)) (fun f h=>by
 have h1:aEf.elem f=true:=aKO.np f h
 show(aEf.elem f&& !Nat.beq f 5)=true
 rw[h1,Bool.true_and]
 cases a:Nat.beq f 5 with
 |false=>rfl
 |true=>
  obtain rfl:=Nat.eq_of_beq_eq_true a
  exact absurd (by kernel_rfl:pr3 5=none) h) 60
theorem aWr(W:World)(b:fZ W):Calls PG 5 #[] W fun e w'=>e= .returned (.bool true)/\Below W.heap.size W w':=
 Calls.mono (aHT aKg bGJ aK1 (bIF _ _ _ _ aXY) b (vs:=[]) .nil) (by
  rintro e w' ⟨v,rfl,a,c⟩
  change WT w' v (.b true)at c
  cases c
  exact⟨rfl,a⟩)
end
end Ev
section
open Go Go.RowKit Go.Proofs.YtmjoaipkaddkbaaGreatDoor.Ev Go.Proofs.YtmjoaipkaddkbaaGreatDoor
theorem aXN:LawT 4:=fun W x a hs=>by
 have e:x=bs x.data.toList:=ByteArray.ext (Array.toArray_toList).symm
 rw[e]
 exact aYN (bD6 hs a) aWr
theorem algebraicParse_proved:Rows.AlgebraicParseCardSaid:=algebraicParse_card aXN
#print axioms algebraicParse_proved
end
end Go.Proofs.YtmjoaipkaddkbaaGreatDoor
