/- Part of a proof. -/
import Derived.Test.YtmjoaipkaddkbaaGreatDoorP12
noncomputable section
set_option maxRecDepth 10000000
open Go
namespace Go.Proofs.YtmjoaipkaddkbaaGreatDoor
namespace Ev
theorem bH1:VK T0 40 46 [ex2]=some (fQ [-2,0,1],true):=by kernel_rfl
theorem bFE:VK T0 40 46 [aL7]=some (fQ [-2,0,1],true):=by kernel_rfl
def exV(l:List (Int×Int)):TV:= .im 8 ((l.map fun p=>oS p.1 1++oS p.2 1).flatten)
theorem bGj:VK T0 40 49 [fQ [-2,0,1]]=some (exV [(-3,0),(0,3)],true):=by kernel_rfl
def T1:List CE:= .run bH1:: .run bFE:: .run bGj::T0
theorem bIB:VK T1 40 16 [ex2]=some (mZ [-2,0,1] 1,false):=by kernel_rfl
end Ev
end Go.Proofs.YtmjoaipkaddkbaaGreatDoor
