/- Part of a proof. -/
import Derived.Test.YtmjoaipkaddkbaaGreatDoorP14
noncomputable section
set_option maxRecDepth 10000000
open Go
namespace Go.Proofs.YtmjoaipkaddkbaaGreatDoor
namespace Ev
def exT:TV:= .im 1 [fQ [2],fQ [3,0]]
def exE(a b:Int):TV:= .im 4 (oS a b++oS 0 1++oS 0 1++oS 0 1)
def exS:TV:=fQ [0,1,1,0]
theorem bIe:VK T0 60 50 [exT,exE (-11) 2,exS]=some (.int .i64 (-1),false):=by kernel_rfl
theorem bIn:VK T0 60 50 [exT,exS,exE (-11) 4]=some (.int .i64 1,false):=by kernel_rfl
end Ev
end Go.Proofs.YtmjoaipkaddkbaaGreatDoor
