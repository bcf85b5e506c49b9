/- Part of a proof. -/
import Derived.Test.YtmjoaipkaddkbaaGreatDoorP13
noncomputable section
set_option maxRecDepth 10000000
open Go
namespace Go.Proofs.YtmjoaipkaddkbaaGreatDoor.Ev
theorem bGH:VK T0 40 46 [ex2]=some (fN [-2,0,1],true):=by kernel_rfl
theorem bDO:VK T0 40 46 [aKx]=some (fN [-2,0,1],true):=by kernel_rfl
def exV(l:List (Int×Int)):TV:= .im 8 ((l.map fun p=>oI p.1 1++oI p.2 1).flatten)
theorem bFx:VK T0 40 49 [fN [-2,0,1]]=some (exV [(-3,0),(0,3)],true):=by kernel_rfl
def T1:List CE:= .run bGH:: .run bDO:: .run bFx::T0
theorem bHf:VK T1 40 16 [ex2]=some (mU [-2,0,1] 1,false):=by kernel_rfl
end Go.Proofs.YtmjoaipkaddkbaaGreatDoor.Ev