/- Part of a proof. -/
import Derived.Test.YtmjoaipkaddkbaaGreatDoorP23
noncomputable section
set_option maxRecDepth 10000000
open Go
namespace Go.Proofs.YtmjoaipkaddkbaaGreatDoor
namespace Ev
def exU(l:List ((Int×Int)×(Int×Int))):TV:= .im 8 ((l.map fun p=>oS p.1.1 p.1.2++oS p.2.1 p.2.2).flatten)
theorem bHJ:VK T1 60 49 [fQ [2, -2, -1,1]]=some (exU [((-3,1),(0,1)),((3,4),(9,8)),((9,8),(3,2))],true):=by kernel_rfl
def T2:List CE:= .run bHJ::T1
theorem bHA:VK T2 60 53 [mZ [-2,0,1] 1]=some (.tp [fQ [-2,0,1],.ag (oS 0 1++oS 3 1)],false):=by kernel_rfl
theorem bGW:VK T2 60 53 [mZ [2, -2, -1,1] 2]=some (.tp [fQ [2, -2, -1,1],.ag (oS 9 8++oS 3 2)],false):=by kernel_rfl
theorem bGS:VK T2 60 34 [mZ [-2,0,1] 1]=some (.b true,false):=by kernel_rfl
theorem bGZ:VK T2 60 34 [mZ [2, -2, -1,1] 2]=some (.b true,false):=by kernel_rfl
def T3:List CE:= .run bHA:: .run bGW:: .run bGS:: .run bGZ::T2
theorem bIC:VK T3 60 18 [mZ [-2,0,1] 1,mZ [2, -2, -1,1] 2]=some (.int .i64 ((0:Nat):Int),false):=by kernel_rfl
end Ev
end Go.Proofs.YtmjoaipkaddkbaaGreatDoor
