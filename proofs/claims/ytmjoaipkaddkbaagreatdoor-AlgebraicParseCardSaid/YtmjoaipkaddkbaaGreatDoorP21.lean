/- Part of a proof. -/
import Derived.Test.YtmjoaipkaddkbaaGreatDoorP12
noncomputable section
set_option maxRecDepth 10000000
open Go
namespace Go.Proofs.YtmjoaipkaddkbaaGreatDoor
namespace Ev
def uG:Prop:=∀pr,vB pr->∀c d:List TV,0<c.length->0<d.length->c.length%4=0->d.length%4=0->c.length<=1000->d.length<=1000->iO c=true->iO d=true->jT PG pr 264 [.im 1 [.im 4 c,.im 4 d]] (.im 4 (c++d)) false
def bJ5(hc:uG):CE:=⟨264,fun a=>match a with
 | [.im 1 [.im 4 c,.im 4 d]]=>if 0<c.length/\0<d.length/\c.length%4=0/\d.length%4=0/\c.length<=1000/\d.length<=1000/\iO c=true/\iO d=true then some (.im 4 (c++d),false)else none
 |_=>none,fun pr h a R own e=>by
 split at e
 ·split at e
  ·next hh=>cases e;exact hc pr h _ _ hh.1 hh.2.1 hh.2.2.1 hh.2.2.2.1 hh.2.2.2.2.1 hh.2.2.2.2.2.1 hh.2.2.2.2.2.2.1 hh.2.2.2.2.2.2.2
  ·cases e
 ·cases e⟩
theorem bIp:uG:=fun pr h c d h1 h2 b f j k g i=>aZI (by decide) h.cat h1 h2 b f (by omega) (by omega) g i
def TC(hc:uG):List CE:=bJ5 hc::T0
theorem bHc(hc:uG):VK (TC hc) 60 109 [.im 1 [fQ [2]]]=some (.b true,false):=by kernel_rfl
theorem bHI(hc:uG):VK (TC hc) 60 109 [.im 1 [fQ [2],fQ [3,0]]]=some (.b true,false):=by kernel_rfl
def TR'(hc:uG):List CE:= .run (bHc hc):: .run (bHI hc)::TC hc
theorem bH3(hc:uG):VK (TR' hc) 60 40 [.im 1 [fQ [2]],fQ [3,0]]=some (.tp [.im 1 [fQ [2],fQ [3,0]],fQ [0,0,1,0],.int .i64 ((0:Nat):Int)],false):=by kernel_rfl
end Ev
end Go.Proofs.YtmjoaipkaddkbaaGreatDoor
