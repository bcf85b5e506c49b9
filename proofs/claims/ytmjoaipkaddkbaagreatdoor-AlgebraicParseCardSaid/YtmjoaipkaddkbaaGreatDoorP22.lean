/- Part of a proof. -/
import Derived.Test.YtmjoaipkaddkbaaGreatDoorP21
noncomputable section
set_option maxRecDepth 10000000
open Go
namespace Go.Proofs.YtmjoaipkaddkbaaGreatDoor
namespace Ev
theorem bFV(hc:uG):VK (TR' hc) 60 40 [.im 1 [fQ [2],fQ [3,0]],fQ [3,0,0,0]]=some (.tp [.im 1 [fQ [2],fQ [3,0]],fQ [0,0,1,0],.int .i64 ((0:Nat):Int)],true):=by kernel_rfl
def TU(hc:uG):List CE:= .run (bH3 hc):: .run (bFV hc)::TR' hc
theorem bI5(hc:uG):VK (TU hc) 60 15 [ex2,ex3]=some (ex0 ex5,false):=by kernel_rfl
end Ev
end Go.Proofs.YtmjoaipkaddkbaaGreatDoor
