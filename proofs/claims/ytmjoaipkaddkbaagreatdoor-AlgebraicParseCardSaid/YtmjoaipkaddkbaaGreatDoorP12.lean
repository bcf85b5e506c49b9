/- Part of a proof. -/
import Derived.Test.YtmjoaipkaddkbaaGreatDoorP11
import Derived.Deep.Slices
import Derived.SizedLaws
import Derived.OpenShut
import GoSem.ClaimJoined
import Derived.Lib.LaidTab
import Derived.Shelf.Vars
import Derived.LaidMore
import Derived.Lay
import Derived.Stop.LaidErr
import Derived.LaidLaws
import Derived.Test.YtmjoaipkaddkbaaGreatDoorRows
import Derived.Deep.RegionLaw
noncomputable section
open Nat renaming reduceBEq → zB, reduceEqDiff → zC, reduceAdd → zD, reduceMul → zE, reduceSub → zF, reduceLT → zG, reduceLeDiff → zH
open Array renaming length_toList→bLC
open Bool renaming and_eq_true→bJI,and_true→bKD,eq_iff_iff→bKh,false_eq_true→bJQ,not_false→bLr,not_true→bKN,true_and→bKI
open Int renaming natAbs_mul→bKJ,natAbs_natCast→bMR
open List renaming all_cons→bKK,all_eq_true→bKq,all_nil→bLk,append_assoc→bKH,cons_append→bKm,count_append→bMU,count_cons_self→bNr,drop_zero→bJV,elem_iff→bKL,getD_eq_getElem?_getD→bK0,getElem?_eq_getElem→bKO,getElem_mem→bLR,length→bKU,length_append→bJW,length_cons→bJN,length_drop→bK3,length_map→bKo,length_nil→bKf,length_pos_iff→bKz,length_singleton→bMT,length_take→bJO,map_append→bL6,map_cons→bKc,map_map→bLs,mem_append→bKy,mem_cons→bJZ,mem_map→bKP,mem_singleton→bKF,nil_append→bKA,not_mem_nil→bLj,take_append_drop→bNa,take_length→bKp,take_of_length_le→bJU,take_succ_eq_append_getElem→bLd
open Nat renaming add_le_add_right→bLK,ble_eq_true_of_le→bKX,eq_of_beq_eq_true→bJY,le_of_ble_eq_true→bJP,le_refl→bJE,le_trans→bJH,lt_of_le_of_lt→bK9,lt_of_lt_of_le→bJK,lt_succ_self→bJT,mul_le_mul_left→bK5,mul_lt_mul''→bLA,pow_le_pow_right→bK2,sub_zero→bKW,zero_le→bJJ
open Option renaming bind_eq_some_iff→bJF,bind_some→bJM,map_eq_some_iff→bJG,map_some→bKe
open Go renaming FuncId→bR9,Program→bR8,Value→bR4,World→bR3
set_option maxRecDepth 10000000
open Go
open Go.Proofs.Tryz
open Go.Lib renaming join→di,decDigits→cm,splitB→dg,atoiAll→cw,atoiSat→dj,trimPrefix→cg,hasPrefix→ce,hid→br,TabIs→dl,wpList_append_run→dm
open Option.some renaming inj→bq,injEq→bo
namespace Go.Proofs.YtmjoaipkaddkbaaGreatDoor
namespace Ev
section
variable {m:Nat}
def mT:EC ByteArray:=⟨fun s=>[.str s],1,by decide,fun _=>rfl,fun s=>Can.cons (cQ.str s) Can.nil,fun _=>rfl,3,fun _=>by simp only[bT,cV];decide⟩
theorem aPa(l:List ByteArray):mT.row l=l.map .str:=by
 induction l with
 |nil=>rfl
 |cons a l ih=>rw[EC.row_cons,ih];rfl
theorem eSS:cW PG 61=some 9:=by kernel_rfl
theorem sSS:aY PG 9=1:=by kernel_rfl
theorem cSS:dN PG 9=true:=by kernel_rfl
theorem kSS:dG PG 9=true:=by kernel_rfl
theorem zSS:pO PG 9=some [.str ⟨#[]⟩]:=by kernel_rfl
theorem aQu{x:ByteArray}:(TV.str x).cells=[.str x]:=rfl
theorem aUq{x:ByteArray}:(TV.str x).one=true:=rfl
theorem aTZ{x:ByteArray}{y:TV}:hH [.str x] 0 [y]=some [.str x]:=rfl
theorem aUQ:TV.str ⟨#[97,108,103,101,98,114,97,105,99,32,91]⟩= .str (bs [97,108,103,101,98,114,97,105,99,32,91]):=rfl
theorem aUY:TV.str ⟨#[93,32]⟩= .str (bs [93,32]):=rfl
theorem aSS:jZ PG 9=false:=by kernel_rfl
theorem aQD(c:UInt8):∀ws:List (List UInt8),di ws [c]=cX c ws
 | []=>rfl
 | [w]=>Lib.join_one w [c]
 |w::v::ws=>by
  have ih:=aQD c (v::ws)
  unfold di at ih ⊢
  rw[List.intercalate_cons_cons,ih,cX]
  simp
theorem aUe{n:Nat}{z:Int}:iA (n+3) (tI z)=true:=by
 show([TV.b _,tW _].all (iA (n+2)))=true
 simp only[bKK,bLk,aTR,bKD];rfl
theorem bDC{z:Int}(h:z.natAbs<2^256):zT [tI z]=some (.str (bs (cD z))):=by
 have e:sK (tW (aO z.natAbs))=some (aO z.natAbs):=aFd (cU _)
 unfold zT tI ci
 simp only[e,bJM]
 rw[cO,if_pos ⟨rfl,h⟩]
 congr 2
 unfold cD rG bs
 by_cases h0:z<0
 ·rw[if_neg (by omega),ak h0];simp [h0]
 ·by_cases h1:z.natAbs=0
  ·rw[if_pos h1,if_neg h0,h1,oA (by decide)];rfl
  ·rw[if_neg h1,ai h0];simp [h0]
theorem bIO{z:Int}(h:z.natAbs<2^256):CC (VZ (m+1)) 35 [tI z] (.str (bs (cD z))):=
 aDU (.t zT) rfl (Can.cons (pM z) Can.nil) (by simp only[bT,aAW];decide) (by
  show oF zT _=_
  unfold oF
  rw[if_pos (by simp only[bKK,bLk,bKD];exact aUe),show cG [tI z]=[tI z]from(Can.cons (pM z) Can.nil).2,bDC h]
  rfl)
theorem aAq{g:List TV->Option TV}{vs:List TV}{R:TV}{a:AV}(h1:vs.all (iA nV)=true)(h2:cG vs=vs)(X:g vs=some R)(Y:sT R=some a):oF g vs=some (R,false):=by
 unfold oF
 rw[if_pos h1,h2,X]
 simp only[bJM,Y,bKe]
theorem aSa{f:bR9}{args:List TV}{R:TV}(p:PT)(Z:uK f yY=some p)(h:p.orc args=some (R,false)):VZ (m+1) f args=some (R,false):=by
 show fY PG bZ mY (m+1) _ _=_
 unfold fY
 rw[show mY f args=some (R,false) by unfold mY;rw[Z];exact h]
theorem fM.keep{α:Type}{E:EC α}{i s s':VS}{v:TV}{l:List α}(h:fM E i s v l)(hn:s.nxt<=s'.nxt)(T:∀j,j<s.nxt->s'.ob j=s.ob j):fM E i s' v l:=
 ⟨h.bld.keep hn T,bJH h.nx hn,fun j A=>(T j (bJK A h.nx)).trans (h.ob j A),h.new⟩
theorem fM.stepS{i s:VS}{v:TV}{l:List ByteArray}(h:fM mT i s v l)(q:ByteArray)(n1:l.length<=10000000):∃v' s',gT PG 9 (s.new [.str q]) v (.ow s.nxt 0 1 1)=some (v',s')/\fM mT i s' v' (l++[q]):=h.step q cSS sSS n1
theorem aJx{et:fP}{a b:List UInt8}(h:a.length+b.length<=100000000):bU et .add (.str (bs a)) (.str (bs b))=some (.str (bs (a++b))):=by
 simp only[bU]
 rw[if_pos (by rw[qT,qT];exact h),aKx]
theorem aSR{s:VS}{x:ByteArray}:dJ s [.str x]=some (.str x,false):=tN (cQ.str x) (by simp only[cV];decide)
theorem sU:type_of%(ab @eSS (ab @sSS (ab @cSS (ab @kSS (ab @aSS (ab @zSS (ab @aQu (ab @aUq (ab @aTZ (ab @aUQ (ab @aUY (@aSR)))))))))))):=(ab @eSS (ab @sSS (ab @cSS (ab @kSS (ab @aSS (ab @zSS (ab @aQu (ab @aUq (ab @aTZ (ab @aUQ (ab @aUY (@aSR))))))))))))
theorem aYz:bO PG 9 f9 [2] []=true:=by kernel_rfl
def aCG(l:List (Bool×List Nat))(r:Int):List UInt8:=if (l.all eA&&vz (l.map cE) r)=true then gW (l.map cE) r else []
theorem aPD{l:List (Bool×List Nat)}{r:Int}(h:l.length<=8)(I:∀x∈l,bD x.2/\val x.2<2^256/\x.2.length<1000)(hr: -9223372036854775808<=r/\r<9223372036854775808):VZ (m+18) 9 [tF l r]=some (.str (bs (aCG l r)),false):=by
 have cv:=(bCd (m:=m) h I hr).up (yz _)
 refine bX rfl func9 aYz rfl ?_
 simp only[f9,N1,bC,bF,bH,bG,bE,zB,zG]
 unfold aCG
 cases hV:(l.all eA&&vz (l.map cE) r)
 case false=>
  rw[hV]at cv
  simp (disch:=first|rfl|omega)only[S1,aC,aE,aM,aJ,zB,reduceCtorEq,zD,zG,zH,TF,sU,vJ 34 rfl,cv _]
  rfl
 case true=>
 rw[hV]at cv
 rw[bJI]at hV
 obtain⟨hG,C⟩:=hV
 have L:∀x∈l,eA x=true:=bKq.1 hG
 have sz:rS (l.map cE):=⟨by rw[bKo];exact h,fun z D=>by
  obtain⟨x,hx,rfl⟩:=bKP.1 D
  rw[qV];exact(I x hx).2.1⟩
 obtain⟨r0,r7⟩:=aC5 sz C
 obtain⟨rn,rfl⟩:∃rn:Nat,r=(rn:Int):=⟨r.toNat,by omega⟩
 simp (disch:=first|rfl|omega)only[S1,aN,aC,aE,aM,aJ,zB,reduceCtorEq,zD,zG,zH,TF,aQ,vJ 34 rfl,cv _]
 obtain⟨S0,d⟩:∃S0,S0=dZ.new [eV l,TV.int IntKind.i64 ((rn:Nat):Int)]:=⟨_,rfl⟩
 have a':S0.nxt=1:=by rw[d];rfl
 have M:S0.ob 0=⟨0,[eV l,TV.int IntKind.i64 ((rn:Nat):Int)]⟩:=by rw[d];rfl
 rw[←d]
 clear d
 obtain⟨ws,k⟩:∃ws:List ByteArray,ws=l.map fun x=>bs (cD (cE x)):=⟨_,rfl⟩
 have u:ws.length=l.length:=by rw[k,bKo]
 refine .up (fun j e s=>∃v,e 1=some (.po 0 0)/\e 3=some v/\e 10=some (eV l)/\e 11=some (.int .i64 (l.length:Nat))/\e 12=some (.int .i64 (j:Nat))/\fM mT S0 s v (ws.take j)) l.length ?_ (dB (by omega)) ?_
 ·refine⟨.nil, ?_, ?_, ?_, ?_, ?_,.nil _⟩<;>simp (disch:=first|rfl|omega)only[S1,zB]
 ·rintro j e s A ⟨v,J,U,F,G,H,B⟩
  have N:(ws.take j).length=j:=by rw[bJO];omega
  have b':=B.nx
  have i:s.ob 0=⟨0,[eV l,TV.int IntKind.i64 ((rn:Nat):Int)]⟩:=(B.ob 0 (by omega)).trans M
  by_cases hc:j<l.length
  ·have h1:decide (j<l.length)=true:=ak hc
   obtain⟨x,hx⟩:∃x,x=l.getD j (false,[]):=⟨_,rfl⟩
   have O:x∈l:=by rw[hx];exact zU hc
   have D:=tT (I x O).1 (L x O)
   have cf:=bIO (m:=m+16) (z:=cE x) (by rw[qV];exact(I x O).2.1)
   have P:fM mT S0 ((s.new [.b false,.nil]).set s.nxt ⟨0,[.b (decide (cE x<0)),tW (aO (cE x).natAbs)]⟩) v (ws.take j):=B.keep (by show s.nxt<=s.nxt+1;omega) (fun j A=>by
    have J:(j==s.nxt)=false:=by rw[ao];omega
    rw[gX,gY,J];rfl)
   obtain⟨v',s',ea,Q⟩:=P.stepS (bs (cD (cE x))) (by omega)
   simp only[nE,tK]at ea
   simp (disch:=first|rfl|omega)only[S1,aK,aC,aE,aM,aJ,aD,zB,reduceCtorEq,zD,zE,zH,aU,TI,sU,J,U,F,G,H,h1,pD,pI,←hx,D,vJ 35 rfl,cf _,ea]
   refine⟨hc,v',rfl, ?_⟩
   have et:ws.take (j+1)=ws.take j++[bs (cD (cE x))]:=by
    rw[bLd (by omega),hx]
    simp [k,hc]
   rw[et]
   exact Q
  ·have h1:decide (j<l.length)=false:=ai hc
   obtain rfl:j=l.length:=by omega
   rw[bJU (by omega)]at B N
   have S:di (ws.map (·.data.toList)) [32]=cX 32 ((l.map cE).map cD):=by
    rw[aQD,k,bLs,bLs]
    rfl
   have c':2<=l.length:=by
    have:=C
    unfold vz at this
    simp only[bJI,ap,bKo]at this
    exact this.1.1.1.1.1
   have d':(cX 32 ((l.map cE).map cD)).length<=10000:=by
    have:=aPJ (c:=32) (n:=80) ((l.map cE).map cD) (fun w hw=>by
     obtain⟨z,D,rfl⟩:=bKP.1 hw
     have:=(bAF z (sz.2 z D)).2
     omega)
    rw[bKo,bKo]at this
    omega
   have A:VZ (m+17) 36 [mT.t ws,.str ⟨#[32]⟩]=some (.str (bs (cX 32 ((l.map cE).map cD))),false):=aSa (.k aB1) rfl (by
    have V:mT.t ws= .im 1 (ws.map .str):=by
     unfold EC.t
     rw[aPa]
     cases ws with
     |nil=>simp at u;omega
     |cons a ws=>rfl
    have K:aB1 [TV.im 1 (ws.map TV.str),.str ⟨#[32]⟩]=some (.str (bs (cX 32 ((l.map cE).map cD)))):=by
     unfold aB1
     simp only[aPf,bJM,S]
     rw[if_pos ⟨by intro e;have:=congrArg bKU e;simp at this;rw[this]at u;simp at u;omega,by omega,by omega⟩]
     rfl
    rw[←V]at K
    refine aAq (a:= .v (.string _)) ?_ ((Can.cons (mT.t_can ws) (Can.cons (cQ.str _) Can.nil)).2) K rfl
    rw[V]
    simp [iA,nV,List.all_map])
   obtain⟨s1,s2,k1, -,W, -⟩:=B.bld.call (f:=36) (Can.cons (cQ.str _) Can.nil) (by simp only[bT,cV];decide) (show ws.length*3<=90000000 by omega) A
   have t0:s1.ob 0=⟨0,[eV l,TV.int IntKind.i64 ((rn:Nat):Int)]⟩:=(W.2 0 (by omega) (fun o n z e=>by have:=B.new 0 o n z e;omega)).trans i
   have tn:0<s1.nxt:=by have:=W.1;omega
   have ci:CC (VZ (m+17)) 37 [.int .i64 ((rn:Nat):Int)] (.str (bs (cm rn))):=aDU (.k aCv) rfl (Can.cons (cQ.int _ _) Can.nil) (by simp only[bT,cV];decide) (by
    have K:aCv [TV.int .i64 ((rn:Nat):Int)]=some (.str (bs (cm rn))):=by
     show(if rn<100 then _ else none)=_
     rw[if_pos (by omega)];rfl
    exact aAq (a:= .v (.string _)) rfl rfl K rfl)
   have e':(cm rn).length<=100:=by rw[Lib.decDigits_length,Lib.nDigits_small (by omega)];omega
   have a1:bU (fA PG 9) .add (.str (bs [97,108,103,101,98,114,97,105,99,32,91])) (.str (bs (cX 32 ((l.map cE).map cD))))=some (.str (bs (eJ++cX 32 ((l.map cE).map cD)))):=aJx (by simp only[bJN,bKf];omega)
   have f':eJ.length=11:=rfl
   have a2:bU (fA PG 9) .add (.str (bs (eJ++cX 32 ((l.map cE).map cD)))) (.str (bs [93,32]))=some (.str (bs (eJ++cX 32 ((l.map cE).map cD)++[93,32]))):=aJx (by simp only[bJW,bJN,bKf];omega)
   have a3:bU (fA PG 9) .add (.str (bs (eJ++cX 32 ((l.map cE).map cD)++[93,32]))) (.str (bs (cm rn)))=some (.str (bs (eJ++cX 32 ((l.map cE).map cD)++[93,32]++cm rn))):=aJx (by simp only[bJW,bJN,bKf];omega)
   simp (disch:=first|rfl|omega)only[S1,aC,aE,aM,aJ,zB,reduceCtorEq,zD,zH,TF,sU,aQ,J,U,G,H,h1,k1,t0,tn,a1,a2,a3,ci _]
   rfl
def fz(z:Int):Bool×List Nat:=(decide (z<0),aO z.natAbs)
theorem bII(z:Int):tX (fz z)=tI z:=rfl
theorem aTL(z:Int):cE (fz z)=z:=by
 unfold cE fz
 simp only[cO]
 exact aG5 z
theorem aJp(z:Int):eA (fz z)=true:=by
 unfold eA fz
 simp only[kJ,decide_true,bKI]
 by_cases h:z<0
 ·have:0<(aO z.natAbs).length:=xM.2 (by omega)
  simp [h,this]
 ·simp [h]
theorem aSP(zs:List Int):(zs.map fz).map cE=zs:=by
 rw[bLs]
 exact(List.map_congr_left fun z _=>aTL z).trans (List.map_id zs)
theorem aUp{zs:List Int}(h:∀z∈zs,z.natAbs<2^256):∀x∈zs.map fz,bD x.2/\val x.2<2^256/\x.2.length<1000:=fun x hx=>by
 obtain⟨z,g,rfl⟩:=bKP.1 hx
 have h1:=h z g
 exact⟨cU _,by show val (aO z.natAbs)<_;rw[cO];exact h1,bK9 (lK (k:=9) (bJK h1 (by decide))) (by decide)⟩
theorem bE1{w:List UInt8}(h:w.length<=80):CC (VZ (m+6)) 32 [.str (bs w)] (oO (gM w)):=
 .of (Can.cons (cQ.str _) Can.nil) (by simp only[bT,cV];decide) (bFB h)
theorem bHv{R J D:List UInt8}{f:Bool}(h:Lib.cut R [93,32]=(J,D,f))(Y:R.length<=100000):CC (VZ (m+1)) 30 [.str (bs R),.str ⟨#[93,32]⟩] (.tp [.str (bs J),.str (bs D),.b f]):=
 aDU (.t aEl) rfl (Can.cons (cQ.str _) (Can.cons (cQ.str _) Can.nil)) (by simp only[bT,cV];decide) (by
  refine aAq (a:= .tup [.v (.string (bs J)),.v (.string (bs D)),.b f]) rfl rfl ?_ rfl
  show(if _ then _ else _)=_
  rw[if_pos (by rw[qT];omega),aFS,show(⟨#[93,32]⟩:ByteArray).data.toList=[93,32]from rfl,h]
  rfl)
theorem bEM{ws:List (List UInt8)}{w:List UInt8}(h:∀v∈w::ws,∀b∈v,b≠32)(Y:(cX 32 (w::ws)).length<=100000):VZ (m+1) 31 [.str (bs (cX 32 (w::ws))),.str ⟨#[32]⟩]=some (.im 1 ((w::ws).map fun v=> .str (bs v)),false):=by
 refine aSa (.r aAX) rfl ?_
 have hc:Lib.countB (bs (cX 32 (w::ws))) ⟨#[32]⟩=ws.length:=bBV h
 have hs:dg ⟨#[32]⟩ 0 ws.length (bs (cX 32 (w::ws)))=(w::ws).map bs:=by
  have:=Lib.splitB_data ⟨#[32]⟩ 0 ws.length (bs (cX 32 (w::ws)))
  rw[aFS,show(⟨#[32]⟩:ByteArray).data.toList=[32]from rfl,aF9 ws w ws.length h (bJE _)]at this
  have i:∀l:List ByteArray,(l.map (·.data.toList)).map bs=l:=fun l=>by
   rw[bLs]
   refine(List.map_congr_left fun s _=> ?_).trans (List.map_id l)
   exact ByteArray.ext (Array.toArray_toList)
  rw[←i (dg _ _ _ _),this]
 have hg:aAX [.str (bs (cX 32 (w::ws))),.str ⟨#[32]⟩]=some ((w::ws).map fun v=> .str (bs v)):=by
  show(if _ then _ else _)=_
  rw[hc,hs,if_pos ⟨by rw[qT];omega,by decide,by simp⟩,bLs]
  rfl
 show aEk aAX _=_
 unfold aEk
 rw[if_pos (show [TV.str (bs (cX 32 (w::ws))),.str ⟨#[32]⟩].all (iA nV)=true from rfl),show cG [TV.str (bs (cX 32 (w::ws))),.str ⟨#[32]⟩]=[TV.str (bs (cX 32 (w::ws))),.str ⟨#[32]⟩]from rfl,hg]
 have ha:∀l:List (List UInt8),∃q,iQ lW (l.map fun v=>TV.str (bs v))=some q:=by
  intro l
  induction l with
  |nil=>exact⟨_,rfl⟩
  |cons a l ih=>obtain⟨q,e⟩:=ih;exact⟨.v (.string (bs a))::q,by rw[bKc,iQ,e];rfl⟩
 obtain⟨q,e⟩:=ha (w::ws)
 simp only[bJM,e,bKe]
theorem bD8{ws:List (List UInt8)}{w:List UInt8}(h:∀v∈w::ws,∀b∈v,b≠32)(Y:(cX 32 (w::ws)).length<=100000):CC (VZ (m+1)) 31 [.str (bs (cX 32 (w::ws))),.str ⟨#[32]⟩] (.im 1 ((w::ws).map fun v=> .str (bs v))):=
 .of (Can.cons (cQ.str _) (Can.cons (cQ.str _) Can.nil)) (by simp only[bT,cV];decide) (bEM h Y)
theorem bGR(v:Int):∃a,sT (.tp [.int .i64 v,.lit .nilIface])=some a:=by
 cases v<;>exact⟨_,rfl⟩
theorem aT0(v:Int):∃a,sT (.tp [.int .i64 v,.err])=some a:=by
 cases v<;>exact⟨_,rfl⟩
theorem bHX{D:List UInt8}(h:D.length<=80):CC (VZ (m+1)) 33 [.str (bs D)] (aKF (cw D) D):=
 aDU (.t aCz) rfl (Can.cons (cQ.str _) Can.nil) (by simp only[bT,cV];decide) (by
  have e:aCz [.str (bs D)]=some (aKF (cw D) D):=by
   show(if _ then _ else _)=_
   rw[if_pos (by rw[qT];omega),aFS]
  cases B:cw D with
  |ok v=>rw[B]at e;obtain⟨a,ha⟩:=bGR v;exact aAq rfl rfl e ha
  |range=>rw[B]at e;obtain⟨a,ha⟩:=aT0 (dj D);exact aAq rfl rfl e ha
  |_=>rw[B]at e;obtain⟨a,ha⟩:=aT0 0;exact aAq rfl rfl e ha)
def tS(l:List ByteArray):TV:=mT.t l
theorem aQJ{l:List ByteArray}:jW PG 61 (tS l)=some (.int .i64 (l.length:Nat)):=aGj (E:=mT) eSS sSS
theorem aNM{l:List ByteArray}{j:Nat}(h:j<l.length):mI PG 61 (tS l) j=some (.pi (mT.row l) (j*1)):=aFr (E:=mT) eSS kSS sSS h
theorem aOM{l:List ByteArray}{j:Nat}{s:VS}(h:j<l.length):kP PG 9 s (.pi (mT.row l) (j*1))=some (.str (l.getD j default)):=by
 rw[aI6 aSS]
 exact mT.get (l:=l) (j:=j) (o:=0) h (by decide)
theorem bI8{l:List (List UInt8)}(h:l≠ []):TV.im 1 (l.map fun v=> .str (bs v))=tS (l.map bs):=by
 unfold tS EC.t
 rw[aPa,bLs]
 cases l with
 |nil=>exact absurd rfl h
 |cons a l=>rfl
theorem aSc{l:List ByteArray}:(tS l).one=true:=mT.t_one
theorem aPe{l:List ByteArray}:(tS l).cells=[tS l]:=mT.t_cells
theorem iE:aB7 PG 66=true:=by kernel_rfl
theorem TSP:type_of%(ab @aQJ (ab @aSc (ab @aPe (@iE)))):=(ab @aQJ (ab @aSc (ab @aPe (@iE))))
theorem oC{k o n z:Nat}:(TV.ow k o n z).cells=[.ow k o n z]:=rfl
theorem oE{x a b:TV}:hH [x] 0 [a,b]=some [x,b]:=rfl
theorem aTg{s:VS}{v:TV}{l:List (Bool×List Nat)}{r:Int}(h:fV eP s v l)(Y:l.length<=1000){n:Nat}(hn:10000<=n):∃t s',fE n s (.ag [v,.int .i64 r])=some (.ag [t,.int .i64 r],s')/\iB t=eV l:=by
 obtain⟨m,rfl⟩:∃m,n=m+4:=⟨n-4,by omega⟩
 obtain⟨t,s',C,i, -⟩:=h.close (n:=m+1) (by show l.length*5+1<=_;omega)
 refine⟨t,s', ?_,i⟩
 show(cY (m+3) s [v,.int .i64 r]).map _=_
 have P:cY (m+2) s' [TV.int .i64 r]=some ([.int .i64 r],s'):=rfl
 have e4:fE (m+1) s' (TV.int .i64 r)=some (.int .i64 r,s'):=rfl
 simp only[cY]at P ⊢
 rw[C]
 simp only[bJM,e4,bKe]
theorem aQj{f:bR9}{orc:cP}{s:VS}{v R:TV}{l:List (Bool×List Nat)}{r:Int}(h:fV eP s v l)(Y:l.length<=1000)(ho:orc f [tF l r]=some (R,false))(hs:fX R=true):fF orc f [.ag [v,.int .i64 r]] s=some (R,s):=by
 obtain⟨t,s',C,i⟩:=aTg (r:=r) h Y (n:=99999999) (by decide)
 have ec:cY cL s [.ag [v,.int .i64 r]]=some ([.ag [t,.int .i64 r]],s'):=by
  show(fE 99999999 s _).bind _=_
  rw[C];rfl
 have en:cG [.ag [t,.int .i64 r]]=[tF l r]:=by
  show [TV.ag [iB t,.int .i64 r]]=_
  rw[i];rfl
 unfold fF
 rw[ec]
 simp only[bJM,en,ho,bJQ,if_false,hs,if_true]
theorem aFK{s:VS}{v:TV}{l:List (Bool×List Nat)}{r e:Int}(h:fV eP s v l)(Y:l.length<=1000):dJ s [.ag [v,.int .i64 r],.int .i64 e]=some (.tp [tF l r,.int .i64 e],false):=by
 obtain⟨t,s',C,i⟩:=aTg (r:=r) h Y (n:=99999999) (by decide)
 show(cY cL s [TV.ag [v,.int .i64 r],.int .i64 e]).map (fun p=>(TV.tp (cG p.1),false))=_
 have ec:cY cL s [.ag [v,.int .i64 r],.int .i64 e]=some ([.ag [t,.int .i64 r],.int .i64 e],s'):=by
  show(fE 99999999 s _).bind _=_
  rw[C];rfl
 have en:cG [.ag [t,.int .i64 r],.int .i64 e]=[tF l r,.int .i64 e]:=by
  show [TV.ag [iB t,.int .i64 r],_]=_
  rw[i];rfl
 rw[ec,bKe,en]
def uO:Option (List Int×Int)->TV
 |some p=> .tp [tF (p.1.map fz) p.2,.int .i64 ((0:Nat):Int)]
 |none=> .tp [tF [] 0,.int .i64 ((2:Nat):Int)]
theorem aYX:bO PG 8 f8 [3,2,63,40,28,31,29,30] []=true:=by kernel_rfl
set_option maxHeartbeats 4000000 in
theorem aJb{T:List UInt8}(hT:T.length<=80)(hS:T.count 32<=8):VZ (m+19) 8 [.str (bs T)]=some (uO (kQ T),false):=by
 obtain⟨g',h'⟩:=bA2 T eJ
 have k1:CC (VZ (m+18)) 29 [.str (bs T),.str (bs [97,108,103,101,98,114,97,105,99,32,91])] (.tp [.str (bs (cg T eJ)),.b (ce T eJ)]):=aTo (m:=m+17) (bs T) (bs eJ)
 obtain⟨J,D,f,hc,hD,⟨q,hq⟩,i'⟩:=aZs (p:=[93,32]) (by decide) (cg T eJ)
 have j':J.length<=80:=by have:=congrArg bKU hq;rw[bJW]at this;omega
 obtain⟨w,ws,Q,b',Z,a'⟩:=aS8 32 J
 obtain⟨W,S⟩:∃W,W=w::ws:=⟨_,rfl⟩
 have c:∀p,Form T p->W=p.1.map cD/\D=cm p.2.toNat/\0<=p.2/\p.2<8:=fun p O=>by
  obtain⟨h1,h2,h3⟩:=O
  have e:=hc
  rw[h1,aAp]at e
  injection e with C i
  injection i with i _
  refine⟨?_,i.symm,aC5 h3 h2⟩
  rw[S]
  refine aWN (r:=p.2) (aCr h2) b' ?_
  rw[aAp,←Q];exact C
 have d:D≠ []->J.length<=77/\J.count 32<=7:=fun h=>by
  have e:=hD h
  have C:=congrArg bKU e
  have i:=congrArg (List.count 32) e
  have P:([93,32]:List UInt8).count 32=1:=by decide
  have e4:=bKz.2 h
  simp only[bJW,bJN,bKf,bMU]at C i
  omega
 have k2:CC (VZ (m+18)) 30 [.str (bs (cg T eJ)),.str (bs [93,32])] (.tp [.str (bs J),.str (bs D),.b f]):=bHv (m:=m+17) hc (by omega)
 have k3:CC (VZ (m+18)) 31 [.str (bs J),.str ⟨#[32]⟩] (tS (W.map bs)):=by
  have:=bD8 (m:=m+17) (w:=w) (ws:=ws) b' (by rw[←Q];omega)
  rw[←Q,←S,bI8 (by rw[S];simp)]at this
  exact this
 have F:=bHX (m:=m+17) (D:=D) (by omega)
 have l':∀v∈W,v.length<=80:=fun v hv=>bJH (a' v (by rw[←S];exact hv)) j'
 have a2:W.length<=81:=by rw[S,bJN,Z];have:=List.count_le_length (a:=(32:UInt8)) (l:=J);omega
 have m':J=cX 32 W:=by rw[S];exact Q
 have n':W≠ []:=by rw[S];simp
 have H:∀s:VS,dJ s [.ag [.nil,.int .i64 ((0:Nat):Int)],.int .i64 ((2:Nat):Int)]=some (.tp [tF [] 0,.int .i64 ((2:Nat):Int)],false):=fun s=>aFK (l:=[]) (.nil s) (by decide)
 have o':T=[]->∀zs:List Int,W≠zs.map cD:=fun e zs g=>by
  rw[e,show cg [] eJ=[]from rfl]at hq
  have p':J=[]:=(List.append_eq_nil_iff.1 hq.symm).1
  rw[p']at Q
  cases ws with
  | nil=>
   have hw:w=[]:=Q.symm
   rw[S,hw]at g
   cases zs with
   |nil=>cases g
   |cons z zs=>
    rw[bKc]at g
    injection g with g _
    unfold cD at g
    split at g
    ·cases g
    ·exact aE0 _ g.symm
  |cons v ws=>
   rw[cX]at Q
   simp at Q
 generalize cg T eJ=R at*
 generalize ce T eJ=O at*
 clear hc b' Z a' hq hD i' g' h' Q S w ws
 refine bX rfl func8 aYX rfl ?_
 simp only[f8,N1,bC,bF,bH,bG,bE,zB,zG]
 obtain⟨ts,c'⟩:∃ts:List ByteArray,ts=W.map bs:=⟨_,rfl⟩
 rw[←c']at k3
 have a3:ts.length=W.length:=by rw[c',bKo]
 simp (disch:=first|rfl|omega)only[S1,aN,aC,aE,aM,aJ,zB,TF,sU,TSP,vJ 29 rfl,k1 _,vJ 30 rfl,k2 _,vJ 31 rfl,k3 _]
 obtain⟨S0,N⟩:∃S0,S0=(dZ.new [TV.nil,.int .i64 ((0:Nat):Int)]).new [TV.nil,.int .i64 ((0:Nat):Int)]:=⟨_,rfl⟩
 have q':S0.nxt=2:=by rw[N];rfl
 have r':S0.ob 0=⟨0,[TV.nil,.int .i64 ((0:Nat):Int)]⟩:=by rw[N];rfl
 have t':S0.ob 1=⟨0,[TV.nil,.int .i64 ((0:Nat):Int)]⟩:=by rw[N];rfl
 rw[←N]
 clear N
 refine .up (fun j e s=>∃(v:TV) (zs:List Int),e 0=some (.str (bs T))/\e 2=some (.po 0 0)/\e 3=some (.int .i64 ((0:Nat):Int))/\e 7=some (.str (bs D))/\e 9=some (.po 1 0)/\e 28=some (tS ts)/\e 29=some (.int .i64 (ts.length:Nat))/\e 30=some (.int .i64 (j:Nat))/\s.ob 0=⟨0,[TV.nil,.int .i64 ((0:Nat):Int)]⟩/\s.ob 1=⟨0,[v,.int .i64 ((0:Nat):Int)]⟩/\2<=s.nxt/\W.take j=zs.map cD/\fV eP s v (zs.map fz)/\(∀k o n z,v= .ow k o n z->2<=k)) ts.length ?_ (dB (by omega)) ?_
 ·refine⟨.nil,[], ?_, ?_, ?_, ?_, ?_, ?_, ?_, ?_, ?_, ?_, ?_,rfl,.nil _,fun _ _ _ _ h=>by cases h⟩<;>simp (disch:=first|rfl|omega)only[S1,zB,zH,q',r',t']
 ·rintro j e s hj ⟨v,zs,e0,i,P,e7,e9,I,K,L,s0,s1,sn,g,hb,hv⟩
  have a4:zs.length=min j W.length:=by have:=congrArg bKU g;rw[bJO,bKo]at this;exact this.symm
  by_cases hc:j<ts.length
  ·have h1:decide (j<ts.length)=true:=ak hc
   have U:j<W.length:=by omega
   obtain⟨u,hu⟩:∃u,u=W.getD j []:=⟨_,rfl⟩
   have hm:u∈W:=by rw[hu];simp [U]
   have hx:ts.getD j default=bs u:=by rw[hu,c'];simp [U]
   have kp:=bE1 (m:=m+12) (l' u hm)
   have b0:(0==s.nxt)=false:=by rw[ao];omega
   have b1:(1==s.nxt)=false:=by rw[ao];omega
   have p1:1<s.nxt+1:=by omega
   cases V:gM u with
   | none=>
    have hn:kQ T=none:=tB fun p O=>by
     have e:=(c p O).1
     rw[e]at hm
     obtain⟨y, -,hy⟩:=bKP.1 hm
     exact bHd V y hy.symm
    rw[V]at kp
    have kp:CC (VZ (m+18)) 32 [.str (bs u)] (.tp [tI 0,.int .i64 ((2:Nat):Int)]):=kp
    rw[hn]
    clear c d
    simp (disch:=first|rfl|omega)only[S1,aC,aE,aM,aJ,aD,zB,reduceCtorEq,zD,zH,TF,TI,sU,i,P,I,K,L,s0,h1,aNM,aOM,hx,vJ 32 rfl,kp _,b0,fO,H,uO]
   |some z=>
   rw[V]at kp
   have kp:CC (VZ (m+18)) 32 [.str (bs u)] (.tp [tI z,.int .i64 ((0:Nat):Int)]):=kp
   have u':fM eP ⟨2,s.ob⟩ ((s.new [.b false,.nil]).set s.nxt ⟨0,[.b (decide (z<0)),tW (aO z.natAbs)]⟩) v (zs.map fz):=⟨hb.keep (by show s.nxt<=s.nxt+1;omega) (fun j hj=>by
    have C:(j==s.nxt)=false:=by rw[ao];omega
    rw[gX,gY,C];rfl),by show 2<=s.nxt+1;omega,fun j hj=>by
    have hj:j<2:=hj
    have C:(j==s.nxt)=false:=by rw[ao];omega
    rw[gX,gY,C];rfl,hv⟩
   obtain⟨v',s',ea,M⟩:=u'.step (fz z) cI' sI (by rw[bKo];omega)
   have ea:gT PG 47 (((s.new [.b false,.nil]).set s.nxt ⟨0,[.b (decide (z<0)),tW (aO z.natAbs)]⟩).new [.b (decide (z<0)),tW (aO z.natAbs)]) v (.ow (s.nxt+1) 0 1 2)=some (v',s'):=ea
   have t0:s'.ob 0=⟨0,[TV.nil,.int .i64 ((0:Nat):Int)]⟩:=(M.ob 0 (Nat.zero_lt_succ 1)).trans s0
   have t1:s'.ob 1=⟨0,[v,.int .i64 ((0:Nat):Int)]⟩:=(M.ob 1 (bJT 1)).trans s1
   have p2:1<s'.nxt:=M.nx
   have b2:(s.nxt==1)=false:=by rw[ao];omega
   rcases M.bld with ⟨-,e⟩|⟨k,rfl,g2,g3⟩
   ·simp at e
   have d':2<=k:=M.new k 0 _ _ rfl
   have b3:(k==1)=false:=by rw[ao];omega
   have et:(zs++[z]).map fz=zs.map fz++[fz z]:=by rw[bL6];rfl
   have ez:W.take (j+1)=(zs++[z]).map cD:=by
    rw[bLd U,g,bL6,List.map_singleton,←aBH V,hu]
    simp [U]
   clear c d
   simp (disch:=first|rfl|omega)only[S1,aK,aC,aE,aM,aJ,aD,zB,reduceCtorEq,zD,zE,zH,aU,TF,TI,sU,aQ,e0,i,P,e7,e9,I,K,L,s1,h1,aNM,aOM,hx,vJ 32 rfl,kp _,b1,p1,ea,t0,t1,p2,oC]
   refine⟨hc,_,zs++[z],rfl,M.nx,ez,.inr ⟨k,by rw[et],g2, ?_⟩,fun k' o n z e=>by cases e;exact d'⟩
   rw[et,gX,b3]
   exact g3
  ·have h1:decide (j<ts.length)=false:=ai hc
   obtain rfl:j=ts.length:=by omega
   rw[bJU (by omega)]at g
   have e':zs≠ []:=fun e=>by rw[e]at g;exact n' g
   rcases hb with ⟨-,e⟩|⟨k,rfl,g2,g3⟩
   ·exact absurd (List.map_eq_nil_iff.1 e) e'
   have d':2<=k:=hv k 0 _ _ rfl
   have b3:(k==1)=false:=by rw[ao];omega
   have p1:1<s.nxt:=by omega
   have X:(0==(1:Nat))=false:=rfl
   have p0:0<s.nxt:=by omega
   have A:(∀v,cw D≠ .ok v)->kQ T=none:=fun h=>tB fun p O=>by
    obtain⟨-,f2,f3,f4⟩:=c p O
    exact h ((p.2.toNat:Nat):Int) (by rw[f2];exact aPR (by omega))
   rcases B:cw D with r|_|_
   rotate_left
   ·have hn:=A (fun v e=>by rw[B]at e;cases e)
    rw[B]at F
    have F:CC (VZ (m+18)) 33 [.str (bs D)] (.tp [.int .i64 (0:Int),.err]):=F
    rw[hn]
    clear c d A
    simp (disch:=first|rfl|omega)only[S1,aC,aE,aM,aJ,aD,zB,reduceCtorEq,zD,zH,TF,TSP,aQ,i,P,e7,e9,K,L,s0,s1,h1,vJ 33 rfl,F _,p1,p0,X,fO,H,uO]
   ·have hn:=A (fun v e=>by rw[B]at e;cases e)
    rw[B]at F
    have F:CC (VZ (m+18)) 33 [.str (bs D)] (.tp [.int .i64 (dj D),.err]):=F
    rw[hn]
    clear c d A
    simp (disch:=first|rfl|omega)only[S1,aC,aE,aM,aJ,aD,zB,reduceCtorEq,zD,zH,TF,TSP,aQ,i,P,e7,e9,K,L,s0,s1,h1,vJ 33 rfl,F _,p1,p0,X,fO,H,uO]
   rw[B]at F
   have F:CC (VZ (m+18)) 33 [.str (bs D)] (.tp [.int .i64 r,.lit .nilIface]):=F
   obtain⟨w',hr⟩:=aWI B
   obtain⟨j1,j2⟩:=d w'
   have hsz:rS zs:=aJ4 e' (by rw[m',g]) j1 j2
   have hF:VZ (m+18) 9 [tF (zs.map fz) r]=some (.str (bs (aCG (zs.map fz) r)),false):=aPD (by rw[bKo];exact hsz.1) (aUp hsz.2) hr
   have x':fV eP (s.set 1 ⟨0,[.ow k 0 (zs.map fz).length eP.sz,.int .i64 r]⟩) (.ow k 0 (zs.map fz).length eP.sz) (zs.map fz):= .inr ⟨k,rfl,g2,by rw[gX,b3];exact g3⟩
   have f':(zs.map fz).length<=1000:=by rw[bKo];have:=hsz.1;omega
   have kF:=aQj x' f' hF rfl
   have y':aCG (zs.map fz) r=if vz zs r=true then gW zs r else []:=by
    unfold aCG
    rw[aSP,show(zs.map fz).all eA=true from bKq.2 fun x hx=>by obtain⟨z, -,rfl⟩:=bKP.1 hx;exact aJp z,bKI]
   rw[y']at kF
   by_cases hV:vz zs r=true/\T=gW zs r
   ·have hn:kQ T=some (zs,r):=aIo ⟨hV.2,hV.1,hsz⟩
    rw[if_pos hV.1,←hV.2]at kF
    have hq:bU (fA PG 9) .neq (.str (bs T)) (.str (bs T))=some (.b false):=by
     simp only[bU,beq_self_eq_true,bKN]
    have z':fV eP ((s.set 1 ⟨0,[.ow k 0 (zs.map fz).length eP.sz,.int .i64 r]⟩).set 0 ⟨0,[.ow k 0 (zs.map fz).length eP.sz,.int .i64 r]⟩) (.ow k 0 (zs.map fz).length eP.sz) (zs.map fz):= .inr ⟨k,rfl,g2,by rw[gX,show(k==0)=false by rw[ao];omega,gX,b3];exact g3⟩
    have H:=aFK (r:=r) (e:=((0:Nat):Int)) z' f'
    rw[hn]
    clear c d A
    simp (disch:=first|rfl|omega)only[S1,aC,aE,aM,aJ,zB,reduceCtorEq,zD,zH,TF,TSP,aQ,e0,i,P,e7,e9,K,L,s0,s1,h1,vJ 33 rfl,F _,p1,p0,kF,hq,H,X,uO,vJ 9 rfl]
   ·have hn:kQ T=none:=tB fun p O=>by
     obtain⟨f1,f2,f3,f4⟩:=c p O
     have f5:zs=p.1:=aER (g.symm.trans f1)
     rw[f2,aPR (by omega)]at B
     injection B with B
     obtain rfl:r=p.2:=by omega
     exact hV ⟨by rw[f5];exact O.2.1,by rw[f5];exact O.1⟩
    obtain⟨G,hG⟩:∃G,G=if vz zs r=true then gW zs r else []:=⟨_,rfl⟩
    have a0:G≠T:=fun e=>by
     rw[e]at hG
     split at hG
     ·next h=>exact hV ⟨h,hG⟩
     ·exact o' hG zs g
    rw[←hG]at kF
    have hq:bU (fA PG 9) .neq (.str (bs G)) (.str (bs T))=some (.b true):=by
     simp only[bU]
     rw[vF,vF,beq_eq_false_iff_ne.2 a0];rfl
    rw[hn]
    clear c d A
    simp (disch:=first|rfl|omega)only[S1,aC,aE,aM,aJ,aD,zB,reduceCtorEq,zD,zH,TF,TSP,aQ,e0,i,P,e7,e9,K,L,s0,s1,h1,vJ 33 rfl,F _,p1,p0,kF,hq,X,fO,H,uO,vJ 9 rfl]
end
section
open Go Go.RowKit
variable {m:Nat}
theorem aZX:bO PG 11 f11 [4,38,24,19] []=true:=by kernel_rfl
theorem bBP{zs:List Int}{r:Int}(h:zs.length<=1000)(b:∀z∈zs,z.natAbs<2^256):VX (m+4) 11 [tF (zs.map fz) r,tF (zs.map fz) r]=some (.b true,false):=by
 obtain⟨l,c⟩:∃l,l=zs.map fz:=⟨_,rfl⟩
 have q:l.length=zs.length:=by rw[c,bKo]
 rw[←c]
 have t:decide (l.length=l.length)=true:=ak rfl
 have u:decide (r=r)=true:=ak rfl
 refine bX rfl func11 aZX rfl ?_
 simp only[f11,N1,bC,bF,bH,bG,bE,zB,zG]
 simp (disch:=first|rfl|omega)only[S1,aN,aC,aE,aM,aJ,zB,reduceCtorEq,zD,zG,zH,TF,aQ,aJF]
 refine .up (fun j e s=>s.nxt=2/\s.ob 0=⟨0,[eV l,.int .i64 r]⟩/\s.ob 1=⟨0,[eV l,.int .i64 r]⟩/\e 2=some (.po 0 0)/\e 3=some (.po 1 0)/\e 4=some (.b false)/\e 5=some (.int .i64 (j:Nat))) l.length ?_ (dB (by omega)) ?_
 ·refine⟨rfl,rfl,rfl, ?_, ?_, ?_, ?_⟩<;>simp (disch:=first|rfl|omega)only[S1,zB]
 ·rintro j e s A ⟨sn,i,s1,k,n,o,p⟩
  by_cases hc:j<l.length
  ·have h1:decide (j<l.length)=true:=ak hc
   obtain⟨z,a⟩:∃z,z=zs.getD j 0:=⟨_,rfl⟩
   have x:z∈zs:=by rw[a];simp [show j<zs.length by omega]
   have hx:tX (l.getD j (false,[]))=tI z:=by
    rw[a,c]
    simp [show j<zs.length by omega,bII]
   have fz9:aX 9 z.natAbs:=Nat.lt_trans (b z x) (by decide)
   have c1:=aR0 (m:=m+1) (z:=z) (w:=z) (fz9.mono (by decide)) (fz9.mono (by decide))
   rw[ak (rfl:z=z)]at c1
   simp (disch:=first|rfl|omega)only[S1,aN,aC,aE,aM,aJ,zB,reduceCtorEq,zD,zG,zH,TF,aQ,sn,i,s1,k,n,o,p,h1,pD,pI,hx,c1 _]
   exact hc
  ·have h1:decide (j<l.length)=false:=ai hc
   simp (disch:=first|rfl|omega)only[S1,aN,aC,aE,aM,aJ,zB,reduceCtorEq,zD,zG,zH,TF,aQ,sn,i,k,o,p,h1]
theorem aWR{zs:List Int}{r:Int}(h:zs.length<=1000)(b:∀z∈zs,z.natAbs<2^256){w:bR3}(d:fZ w){v v':bR4}(f:WT w v (tF (zs.map fz) r))(g:WT w v' (tF (zs.map fz) r)):
  Calls PG 11 #[v,v'] w fun e w'=>e= .returned (.bool true)/\Below w.heap.size w w':=by
 refine(aAm (bBP (m:=0) h b) d (.cons f (.cons g .nil))).mono ?_
 rintro e w' ⟨v,rfl,y,f⟩
 cases f
 exact⟨rfl,y⟩
end
section
open Go Go.RowKit Go.ChangeShapes Go.WideShapes Go.Deep
section
variable {H:Type}{enc:TypeId×bR4->H}{w:bR3}
theorem aWH{a:Addr}{v:bR4}(h:w.cell? a=some v):a=⟨a.block,a.off,none⟩/\∃cs el fr,w.heap[a.block]? =some (.cells cs el fr):=by
 obtain⟨b,o,s⟩:=a
 unfold World.cell? at h
 split at h
 ·next c el fr d=>
  cases s with
  |none=>exact⟨rfl,c,el,fr,d⟩
  |some s=>simp at h
 ·cases h
end
end
section
variable {m:Nat}
theorem CC.ofN{orc:cP}{f:bR9}{args a2:List TV}{R:TV}(h:dI args=true)(hn:cG args=a2)(hs:bT args<=cL)(ho:orc f a2=some (R,false)):CC orc f args R:=fun s=>by
 have e:dC orc f args s=some (R,s):=by
  unfold dC
  rw[qR h hs]
  simp only[bJM,hn,ho,bJQ,if_false]
 exact⟨e,by rw[aDe h hs];exact e⟩
structure NV(z:Int)(v:TV):Prop where
 cl:cI v=true
 nr:iB v=tW (aO z.natAbs)
 sz:cV v<=5
 one:v.one=true
theorem NV.tw(z:Int):NV z (tW (aO z.natAbs)):=by
 have h:=pM z
 unfold tI ci at h
 refine⟨?_, ?_,by rw[fK];decide,aEa⟩
 ·have:=h.1;simp only[cI,dI,bKD,bKI]at this;exact this
 ·have:=h.2;simp only[iB,cG]at this;injection this with this;injection this with _ this;injection this
theorem NV.nil:NV 0 .nil:=⟨rfl,by rw[show aO (0:Int).natAbs=[]from gH];rfl,by decide,rfl⟩
def nI(z:Int)(v:TV):TV:= .ag [.b (decide (z<0)),v]
theorem NV.cl1{z:Int}{v:TV}(h:NV z v):cI (nI z v)=true:=by
 unfold nI;simp only[cI,dI,h.cl,bKD]
theorem NV.nr1{z:Int}{v:TV}(h:NV z v):iB (nI z v)=tI z:=by
 unfold nI;simp only[iB,cG,h.nr];rfl
theorem NV.sz1{z:Int}{v:TV}(h:NV z v):cV (nI z v)<=20:=by
 have:=h.sz
 unfold nI;simp only[cV,bT];omega
theorem aRV{z:Int}{v:TV}(d:NV z v)(h:aX 9 z.natAbs):CC (VZ (m+1)) 106 [.ag [.b (decide (z<0)),v]] (.str (bs (cD z))):=by
 refine .ofN (a2:=[tI z]) (by have:=d.cl1;unfold nI at this;simp only[dI,this,bKD]) (by have:=d.nr1;unfold nI at this;simp only[cG,this]) (by have:=d.sz1;unfold nI at this;simp only[bT];exact bJH (bLK (bLK this _) _) (by decide)) ?_
 show fY PG bZ mY (m+1) _ _=_
 unfold fY
 have e:mY 106 [tI z]=(PT.t yZ).orc [tI z]:=by unfold mY;rfl
 have J:(PT.t yZ).orc [tI z]=some (.str (bs (cD z)),false):=by
  refine aAq (a:= .v (.string (bs (cD z)))) ?_ (Can.cons (pM z) Can.nil).2 (bBW h) rfl
  simp only[bKK,bLk,bKD];exact aUe
 rw[e,J]
theorem bDk{z w:Int}{v:TV}(d:NV z v)(h:aX 3000000 z.natAbs)(h':aX 3000000 w.natAbs):CC (VZ (m+4)) 104 [.ag [.b (decide (z<0)),v],tI w] (tI (z*w)):=by
 have h1:=d.cl1;have h2:=d.nr1;have B:=d.sz1
 unfold nI at h1 h2 B
 refine .ofN (a2:=[tI z,tI w]) (by simp only[dI,h1,(pM w).1,bKD]) (by simp only[cG,h2,(pM w).2]) (by simp only[bT,aAW];exact bJH (bLK (bLK B _) _) (by decide)) ?_
 exact yz _ _ _ _ (xy _ _ _ _ (aUn h h'))
theorem bDF{z:Int}{v:TV}(d:NV z v)(h:aX 9000000 z.natAbs):CC (VZ (m+3)) 105 [.ag [.b (decide (z<0)),v]] (tI (-z)):=by
 have h1:=d.cl1;have h2:=d.nr1;have B:=d.sz1
 unfold nI at h1 h2 B
 refine .ofN (a2:=[tI z]) (by simp only[dI,h1,bKD]) (by simp only[cG,h2]) (by simp only[bT];exact bJH (bLK (bLK B _) _) (by decide)) ?_
 exact yz _ _ _ _ (xy _ _ _ _ (aTS h))
theorem bDV{z:Int}{v:TV}(d:NV z v){e:Int}{s:VS}:dJ s [.ag [.b (decide (z<0)),v],.int .i64 e]=some (.tp [tI z,.int .i64 e],false):=by
 have h1:=d.cl1;have h2:=d.nr1;have B:=d.sz1
 unfold nI at h1 h2 B
 show(cY cL s _).map (fun p=>(TV.tp (cG p.1),false))=_
 rw[qR (by simp only[dI,h1,bKD];rfl) (by simp only[bT,cV];simp only[cV]at B;exact bJH (bLK (bLK B _) _) (by decide))]
 simp only[bKe,cG,iB,d.nr]
 rfl
theorem n8s:nP PG 5 2=some .i64:=by kernel_rfl
theorem bAH:bO PG 38 f38 [3,2,60,54,38,26,19] []=true:=by kernel_rfl
set_option maxHeartbeats 4000000 in
theorem bEj{w:List UInt8}(h:w.length<=80):VZ (m+7) 38 [.str (bs w)]=some (oO (gM w),false):=by
 obtain⟨ds,V⟩:∃ds,ds=cg w [45]:=⟨_,rfl⟩
 obtain⟨ng,L⟩:∃ng,ng=ce w [45]:=⟨_,rfl⟩
 have M:∀y,w=cD y->ds=cm y.natAbs/\ng=decide (y<0):=fun y e=>by
  rw[V,L,e];exact aFO y
 have j:=aQk w
 rw[←V,←L]at j
 have g1:decide (65536<w.length)=false:=ai (by omega)
 have i':ds.length<=80:=by
  have:=congrArg bKU j
  cases ng with
  |true=>rw[if_pos rfl,bJN]at this;omega
  |false=>rw[if_neg (by decide)]at this;omega
 have Q:w=[]->ng=false:=fun e=>by
  cases ng with
  |false=>rfl
  |true=>rw[if_pos rfl,e]at j;cases j
 have S:w≠ []->(ng=decide ((w.getD 0 0).toNat=45)):=fun e=>by
  rw[L]
  cases w with
  |nil=>exact absurd rfl e
  |cons b l=>
   show ce (b::l) [45]=decide (b.toNat=45)
   unfold ce
   simp only[List.isPrefixOf,bKD]
   rw[bKh,decide_eq_true_iff,beq_iff_eq]
   exact⟨fun e=>by rw[←e];rfl,fun e=>(UInt8.toNat.inj (e:b.toNat=(45:UInt8).toNat)).symm⟩
 have o:∀b∈ds,¬(48<=b.toNat/\b.toNat<=57)->gM w=none:=fun b I j'=>aDp fun y e=>j' (by
  rw[(M y e).1]at I;exact aDj _ b I)
 have q:∀K,fL ds=K->(w≠cD (sgZ ng K)->gM w=none):=fun K D hn=>aDp fun y e=>hn (by
  obtain⟨h1,h2⟩:=M y e
  rw[h1,yE]at D
  rw[e,←D,h2]
  congr 1
  unfold sgZ
  by_cases hy:y<0
  ·rw[ak hy,if_pos rfl];omega
  ·rw[ai hy,if_neg (by decide)];omega)
 clear V L
 have E:decide (ds.length<w.length)=ng:=by
  cases ng with
  |true=>rw[if_pos rfl]at j;rw[j,bJN];exact ak (bJT _)
  |false=>rw[if_neg (by decide)]at j;rw[j];exact ai (Nat.lt_irrefl _)
 refine bX rfl func38 bAH rfl ?_
 simp only[f38,N1,bC,bF,bH,bG,bE,zB,zG]
 have A:∀s:VS,dJ s [.ag [.b false,.nil],.int .i64 ((2:Nat):Int)]=some (oO none,false):=fun s=>aBK
 by_cases h0:w=[]
 focus
  have g0:decide (0<w.length)=false:=by rw[h0];rfl
  have hd:w=ds:=by have h1:=Q h0;rw[h1,if_neg (by decide)]at j;exact j
  simp (disch:=first|rfl|omega)only[S1,aN,aC,aE,aM,aJ,aD,zB,zD,zG,TS,g1,g0,fO]
 rotate_left
 focus
  have F:0<w.length:=bKz.2 h0
  have g0:decide (0<w.length)=true:=ak F
  have r:=aB2 F
  have hh:=S h0
  by_cases hn:ng=true
  focus
   have hd:(w.drop 1).take (w.length-1)=ds:=by
    rw[hn,if_pos rfl]at j
    rw[bJU (by rw[bK3];exact bJE _),j];rfl
   rw[hn]at hh
   have o':1<=w.length:=F
   simp (disch:=first|rfl|omega)only[S1,aN,aC,aE,aM,aJ,aD,zB,zD,zG,TS,g1,g0,r,hh.symm,fO,lG,hd]
  rotate_left
  focus
   have hn:ng=false:=by cases ng with |true=>exact absurd rfl hn|false=>rfl
   have hd:w=ds:=by rw[hn,if_neg (by decide)]at j;exact j
   rw[hn]at hh
   simp (disch:=first|rfl|omega)only[S1,aN,aC,aE,aM,aJ,aD,zB,zD,zG,TS,g1,g0,r,hh.symm,fO]
 all_goals
  clear S Q g0
  refine .up (fun i e s=>(∀b∈ds.take i,48<=b.toNat/\b.toNat<=57)/\(∃v,NV ((fL (ds.take i):Nat):Int) v/\s.ob 1=⟨0,[.b false,v]⟩)/\s.nxt=2/\s.ob 0=⟨0,[.b false,.nil]⟩/\e 0=some (.str (bs w))/\e 2=some (.po 0 0)/\e 3=some (.int .i64 ((0:Nat):Int))/\e 4=some (.str (bs ds))/\e 5=some (.po 1 0)/\e 6=some (.int .i64 (i:Nat))) ds.length ?_ (dB (by omega)) ?_
  ·refine⟨(fun b I=>by cases I),⟨.nil,NV.nil, ?_⟩, ?_, ?_, ?_, ?_, ?_, ?_, ?_, ?_⟩<;>simp (disch:=first|rfl|omega)only[S1,zB,zD]
   first|done|rw[hd]
  ·clear hd
   rintro i e s hi ⟨hr,⟨v,d,s1⟩,sn,W,e0,J,X,Y,Z,e6⟩
   have g:=d.one
   by_cases hc:i<ds.length
   ·have h1:decide (i<ds.length)=true:=ak hc
    have r:=aB2 hc
    have T:ds.getD i 0∈ds:=by rw[bK0,bKO hc];exact bLR hc
    have k':=(ds.getD i 0).toNat_lt
    have hf:=o _ T
    have N:ds.take (i+1)=ds.take i++[ds.getD i 0]:=by
     rw[bLd hc,bK0,bKO hc];rfl
    obtain⟨b,I⟩:∃b,b=ds.getD i 0:=⟨_,rfl⟩
    rw[←I]at r k' hf N
    clear T o q
    by_cases b':b.toNat<48
    ·have h2:decide (b.toNat<48)=true:=ak b'
     rw[hf (by omega)]
     simp (disch:=first|rfl|omega)only[S1,aN,aC,aE,aM,aJ,aD,zB,reduceCtorEq,zD,zG,zH,TS,J,X,Y,e6,W,sn,h1,r,h2,fO,A]
    have h2:decide (b.toNat<48)=false:=ai b'
    by_cases c':57<b.toNat
    ·have B:decide (57<b.toNat)=true:=ak c'
     rw[hf (by omega)]
     simp (disch:=first|rfl|omega)only[S1,aN,aC,aE,aM,aJ,aD,zB,reduceCtorEq,zD,zG,zH,TS,J,X,Y,e6,W,sn,h1,r,h2,B,fO,A]
    have B:decide (57<b.toNat)=false:=ai c'
    obtain⟨K,D⟩:∃K,K=fL (ds.take i):=⟨_,rfl⟩
    have U:K<10^80:=by
     rw[D]
     refine bJK (yF _ fun b I=>(hr b I).2) (bK2 (by decide) ?_)
     rw[bJO];omega
    have C:aX 9 K:=bJK U (by decide)
    have d':fL (ds.take (i+1))=10*K+(b.toNat-48):=by rw[N,aIe,←D]
    obtain⟨K',e'⟩:∃K',K'=10*K+(b.toNat-48):=⟨_,rfl⟩
    rw[←D]at d
    have O:decide (((K:Nat):Int)<0)=false:=ai (by omega)
    have k1:CC (VZ (m+6)) 20 [.int .i64 ((10:Nat):Int)] (tI ((10:Nat):Int)):=((xQ (m:=m+2) (z:=((10:Nat):Int)) (by decide) (by decide)).up (xy _)).up (yz _)
    have k2:=bDk (m:=m+2) (w:=((10:Nat):Int)) d (C.mono (k:=3000000) (by decide)) ((show aX 1 10 from(by decide:10<4294967296^1)).mono (k:=3000000) (by decide))
    rw[O,show((K:Nat):Int)*((10:Nat):Int)=((10*K:Nat):Int) by omega]at k2
    have k3:CC (VZ (m+6)) 20 [.int .i64 ((b.toNat-48:Nat):Int)] (tI ((b.toNat-48:Nat):Int)):=((xQ (m:=m+2) (z:=((b.toNat-48:Nat):Int)) (by omega) (by omega)).up (xy _)).up (yz _)
    have f1:aX 10 (10*K):=by
     have:10^81<=4294967296^10:=by decide
     unfold aX;omega
    have f2:aX 10 (b.toNat-48):=by
     have:300<=4294967296^10:=by decide
     unfold aX;omega
    have k4:CC (VZ (m+6)) 103 [tI ((10*K:Nat):Int),tI ((b.toNat-48:Nat):Int)] (tI ((K':Nat):Int)):=by
     have h:=aCw (m:=m+2) (z:=((10*K:Nat):Int)) (w:=((b.toNat-48:Nat):Int)) (f1.mono (by decide)) (f2.mono (by decide))
     rw[show((10*K:Nat):Int)+((b.toNat-48:Nat):Int)=((K':Nat):Int) by omega]at h
     exact(h.up (xy _)).up (yz _)
    have l':decide (((K':Nat):Int)<0)=false:=ai (by omega)
    have a':=NV.tw ((K':Nat):Int)
    have m':∀c∈ds.take (i+1),48<=c.toNat/\c.toNat<=57:=fun c f'=>by
     rw[N]at f'
     rcases bKy.1 f' with h|h
     ·exact hr c h
     ·rw[bKF.1 h];omega
    rw[d',←e']
    clear hr hf N d' e' U C f1 f2 E M j
    have g':=aQb (et:=fA PG 5) (x:=b.toNat) (by omega) (by omega)
    simp (disch:=first|rfl|omega)only[S1,aN,aC,aE,aM,aJ,zB,reduceCtorEq,zD,zG,zH,TI,TS,e0,J,X,Y,Z,e6,W,s1,sn,h1,r,h2,B,g',n8s,k1 _,k3 _,k2 _,k4 _,l']
    exact⟨hc,m',_,a',rfl⟩
   ·obtain rfl:i=ds.length:=by omega
    have h1:decide (ds.length<ds.length)=false:=ai hc
    rw[bKp]at d hr
    obtain⟨K,D⟩:∃K,K=fL ds:=⟨_,rfl⟩
    have C:aX 9 K:=by
     rw[D]
     exact bJK (yF ds fun b I=>(hr b I).2) (bJH (bK2 (n:=10) (by decide) i') (by decide))
    have H:=q K D.symm
    rw[←D]at d
    have O:decide (((K:Nat):Int)<0)=false:=ai (by omega)
    have P:∀G:List UInt8,bU (fA PG 9) .neq (.str (bs G)) (.str (bs w))=some (.b (!decide (w=G))):=fun G=>by
     simp only[bU]
     rw[vF,vF]
     congr 3
     rw[bKh,beq_iff_eq,decide_eq_true_iff]
     exact eq_comm
    clear q o M j hr D
    cases ng with
    | false=>
     have H:w≠cD ((K:Nat):Int)->gM w=none:=H
     have k1:=aRV (m:=m+5) d C
     have kr:=fun s=>bDV (s:=s) (e:=((0:Nat):Int)) d
     rw[O]at k1 kr
     by_cases hq:w=cD ((K:Nat):Int)
     ·have u:decide (w=cD ((K:Nat):Int))=true:=ak hq
      rw[show gM w=some ((K:Nat):Int) by rw[hq,yB]]
      clear hq H
      simp (disch:=first|rfl|omega)only[S1,aN,aC,aE,aM,aJ,zB,reduceCtorEq,zD,zG,zH,TS,e0,J,X,Y,Z,e6,W,s1,sn,h1,E,vJ 106 rfl,k1 _,P,u,g,kr,oO]
     ·have u:decide (w=cD ((K:Nat):Int))=false:=ai hq
      rw[H hq]
      clear hq H
      simp (disch:=first|rfl|omega)only[S1,aN,aC,aE,aM,aJ,aD,zB,reduceCtorEq,zD,zG,zH,TS,e0,J,X,Y,Z,e6,W,s1,sn,h1,E,vJ 106 rfl,k1 _,P,u,fO,A]
    | true=>
     have H:w≠cD (-((K:Nat):Int))->gM w=none:=H
     have k0:=bDF (m:=m+3) d (C.mono (k:=9000000) (by decide))
     rw[O]at k0
     obtain⟨z,hz⟩:∃z,z= -((K:Nat):Int):=⟨_,rfl⟩
     have n':aX 9 z.natAbs:=by rw[hz,Int.natAbs_neg];exact C
     rw[←hz]at k0 H
     have a':=NV.tw z
     have k1:CC (VZ (m+6)) 106 [tI z] (.str (bs (cD z))):=aRV (m:=m+5) a' n'
     have kr:=fun s=>aJz (s:=s) (z:=z) (e:=((0:Nat):Int))
     by_cases hq:w=cD z
     ·have u:decide (w=cD z)=true:=ak hq
      rw[show gM w=some z by rw[hq,yB]]
      clear hq H
      simp (disch:=first|rfl|omega)only[S1,aN,aC,aE,aM,aJ,zB,reduceCtorEq,zD,zG,zH,TI,TS,e0,J,X,Y,Z,e6,W,s1,sn,h1,E,vJ 105 rfl,k0 _,vJ 106 rfl,k1 _,P,u,kr,oO]
     ·have u:decide (w=cD z)=false:=ai hq
      rw[H hq]
      clear hq H
      simp (disch:=first|rfl|omega)only[S1,aN,aC,aE,aM,aJ,aD,zB,reduceCtorEq,zD,zG,zH,TI,TS,e0,J,X,Y,Z,e6,W,s1,sn,h1,E,vJ 105 rfl,k0 _,vJ 106 rfl,k1 _,P,u,fO,A]
end
section
variable {m:Nat}
theorem aDu:bO PG 39 f39 [3,2,29,19] []=true:=by kernel_rfl
theorem aSF{z:Int}(h:aX 9 z.natAbs):∃v o,VZ (m+5) 39 [tI z]=some (.tp [.int .i64 v,.b o],false)/\(o=true->v=z)/\(-9223372036854775808<=z->z<9223372036854775808->o=true):=by
 have k1:=((yM (m:=m+1) (z:=z) (h.mono (by decide))).up (xy _)).up (yz _)
 have d:=cU z.natAbs
 by_cases h2:2<(aO z.natAbs).length
 ·have g2:decide (2<(aO z.natAbs).length)=true:=ak h2
  refine⟨0,false, ?_,(fun e=>(by cases e)),fun c a=>absurd (lK (k:=2) (n:=z.natAbs) (bK9 (show z.natAbs<=9223372036854775808 by omega) (by decide))) (by omega)⟩
  refine bX rfl func39 aDu rfl ?_
  simp only[f39,N1,bC,bF,bH,bG,bE,zB,zG]
  simp (disch:=first|rfl|omega)only[S1,aN,aC,aE,aM,aJ,zB,reduceCtorEq,zD,zG,zH,TI,aQ,vJ 67 rfl,k1 _,g2]
  rfl
 ·have g2:decide (2<(aO z.natAbs).length)=false:=ai h2
  have g:z.natAbs<18446744073709551616:=by
   have c:=jE d
   rw[cO]at c
   exact bJK c (bJH (bK2 (by decide) (Nat.not_lt.1 h2)) (by decide))
  have k2:CC (VZ (m+4)) 107 [tW (aO z.natAbs)] (.int .u64 (z.natAbs:Nat)):=by
   have:=aJR (m:=m+3) (Nat.not_lt.1 h2) d
   rw[cO]at this
   exact(this.up (xy _)).up (yz _)
  obtain⟨N,b⟩:∃N,N=z.natAbs:=⟨_,rfl⟩
  rw[←b]at k2 g2 g
  by_cases f:z<0
  ·have e:tI z= .ag [.b true,tW (aO N)]:=by unfold tI ci;rw[ak f,b]
   by_cases a:N<=9223372036854775808
   ·have g4:decide (N<=9223372036854775808)=true:=ak a
    refine⟨z,true, ?_,fun _=>rfl,fun _ _=>rfl⟩
    have i:vD .neg (.int .i64 (IntKind.i64.wrap ((N:Nat):Int)))=some (.int .i64 z):=by
     simp only[vD]
     congr 2
     rw[IntKind.wrap_i64,IntKind.wrap_i64];omega
    rw[e]
    rw[e]at k1
    refine bX rfl func39 aDu rfl ?_
    simp only[f39,N1,bC,bF,bH,bG,bE,zB,zG]
    simp (disch:=first|rfl|omega)only[S1,aN,aC,aE,aM,aJ,zB,reduceCtorEq,zD,zG,zH,aQ,vJ 67 rfl,k1 _,vJ 107 rfl,k2 _,g2,g4,i]
    rfl
   ·have g4:decide (N<=9223372036854775808)=false:=ai a
    refine⟨0,false, ?_,(fun e=>(by cases e)),fun j l=>absurd a (by omega)⟩
    rw[e]
    rw[e]at k1
    refine bX rfl func39 aDu rfl ?_
    simp only[f39,N1,bC,bF,bH,bG,bE,zB,zG]
    simp (disch:=first|rfl|omega)only[S1,aN,aC,aE,aM,aJ,zB,reduceCtorEq,zD,zG,zH,aQ,vJ 67 rfl,k1 _,vJ 107 rfl,k2 _,g2,g4]
    rfl
  ·have e:tI z= .ag [.b false,tW (aO N)]:=by unfold tI ci;rw[ai f,b]
   by_cases a:N<9223372036854775808
   ·have g4:decide (N<9223372036854775808)=true:=ak a
    refine⟨z,true, ?_,fun _=>rfl,fun _ _=>rfl⟩
    rw[e]
    rw[e]at k1
    refine bX rfl func39 aDu rfl ?_
    simp only[f39,N1,bC,bF,bH,bG,bE,zB,zG]
    simp (disch:=first|rfl|omega)only[S1,aN,aC,aE,aM,aJ,zB,reduceCtorEq,zD,zG,zH,aQ,vJ 67 rfl,k1 _,vJ 107 rfl,k2 _,g2,g4]
    rw[show(N:Int)=z by omega];rfl
   ·have g4:decide (N<9223372036854775808)=false:=ai a
    refine⟨0,false, ?_,(fun e=>(by cases e)),fun j l=>absurd a (by omega)⟩
    rw[e]
    rw[e]at k1
    refine bX rfl func39 aDu rfl ?_
    simp only[f39,N1,bC,bF,bH,bG,bE,zB,zG]
    simp (disch:=first|rfl|omega)only[S1,aN,aC,aE,aM,aJ,zB,reduceCtorEq,zD,zG,zH,aQ,vJ 67 rfl,k1 _,vJ 107 rfl,k2 _,g2,g4]
    rfl
end
def uJ(ys:List Int)(r:Int):List UInt8:=cX 32 (ys.map cD)++93::32::cm r.toNat
def wF(zs:List Int):List UInt8:=zs.flatMap fun z=>cD z++[32]
theorem bBg(y r:Int):uJ [y] r=cD y++93::32::cm r.toNat:=rfl
theorem aZ8(y i:Int)(ys:List Int)(r:Int):uJ (y::i::ys) r=cD y++32::uJ (i::ys) r:=by
 unfold uJ
 simp only[bKc,cX,bKH,bKm]
theorem aN9:∀(zs:List Int) (z:Int),cX 32 ((zs++[z]).map cD)=wF zs++cD z
 | [],z=>rfl
 | [a],z=>by simp [wF,cX]
 |a::b::zs,z=>by
  have ih:=aN9 (b::zs) z
  simp only[bKm,bKc,cX]at ih ⊢
  rw[ih]
  simp only[wF,List.flatMap_cons,bKH,bKm,bKA]
theorem aZJ(zs:List Int)(z:Int):wF (zs++[z])=wF zs++(cD z++[32]):=by
 simp only[wF,List.flatMap_append,List.flatMap_cons,List.flatMap_nil,List.append_nil]
def aCM(s:List UInt8)(n:Nat):Prop:=n<=s.length/\(∀b∈s.take n,b≠32/\b≠93)/\(n<s.length->s.getD n 0=32\/s.getD n 0=93)
theorem aRc{u rest:List UInt8}{c:UInt8}{n:Nat}(t:∀b∈u,b≠32/\b≠93)(hc:c=32\/c=93)(h:aCM (u++c::rest) n):n=u.length:=by
 obtain⟨h1,h2,f⟩:=h
 rw[bJW,bJN]at h1 f
 rcases Nat.lt_trichotomy n u.length with h|h|h
 ·have h4:=f (by omega)
  have v:(u++c::rest).getD n 0=u[n]:=by rw[bK0,List.getElem?_append_left h,bKO h];rfl
  rw[v]at h4
  have:=t u[n] (bLR h)
  rcases h4 with h4|h4
  ·exact absurd h4 this.1
  ·exact absurd h4 this.2
 ·exact h
 ·have w:c∈(u++c::rest).take n:=by
   have e:(u++c::rest).take n=u++(c::rest).take (n-u.length):=by
    rw[List.take_append,bJU (by omega)]
   rw[e]
   obtain⟨k,A⟩:∃k,n-u.length=k+1:=⟨n-u.length-1,by omega⟩
   rw[A,List.take_succ_cons]
   exact List.mem_append_right _ List.mem_cons_self
  have:=h2 c w
  rcases hc with hc|hc
  ·exact absurd hc this.1
  ·exact absurd hc this.2
theorem aPn{r:Int}(h:0<=r):cD r=cm r.toNat:=by
 unfold cD
 rw[if_neg (by omega),show r.natAbs=r.toNat by omega]
def RdI(T:List UInt8)(zs:List Int)(s:List UInt8):Prop:=(∀p,Form T p->∃y ys,p.1=zs++y::ys/\s=uJ (y::ys) p.2)/\T=eJ++(wF zs++s)
def RdE(T:List UInt8)(zs:List Int)(s:List UInt8):Prop:=(∀p,Form T p->p.1=zs/\s=32::cm p.2.toNat)/\T=eJ++(cX 32 (zs.map cD)++93::s)/\zs≠ []
theorem aOo{T:List UInt8}{p:List Int×Int}(h:Form T p):T=eJ++uJ p.1 p.2:=by
 rw[h.1]
 unfold gW uJ
 simp only[bKH,bKm,bKA]
theorem bB5{T:List UInt8}(h:T.take 11=eJ):RdI T [] (T.drop 11):=by
 have B:T=eJ++T.drop 11:=by rw[←h,bNa]
 refine⟨fun p d=> ?_,B⟩
 have h1:=aOo d
 have h2:T.drop 11=uJ p.1 p.2:=by rw[h1];rfl
 have f:=aCr d.2.1
 cases g:p.1 with
 |nil=>exact absurd g f
 |cons y ys=>exact⟨y,ys,rfl,by rw[h2,g]⟩
theorem aOn{T:List UInt8}(h:T.take 11≠eJ):kQ T=none:=tB fun p d=>h (by rw[aOo d];rfl)
theorem aIf{y r:Int}{s:List UInt8}{zs:List Int}{n:Nat}(e:s=uJ (y::zs) r)(h:aCM s n):n<s.length/\s.take n=cD y/\((zs=[]/\s.getD n 0=93/\s.drop (n+1)=32::cm r.toNat)\/(∃i ys,zs=i::ys/\s.getD n 0=32/\s.drop (n+1)=uJ zs r)):=by
 cases zs with
 |nil=>
  rw[bBg]at e
  subst e
  obtain rfl:=aRc (aFV y) (.inr rfl) h
  refine⟨by simp,by simp,.inl ⟨rfl,by simp,by simp⟩⟩
 |cons i ys=>
  rw[aZ8]at e
  subst e
  obtain rfl:=aRc (aFV y) (.inl rfl) h
  refine⟨by simp,by simp,.inr ⟨i,ys,rfl,by simp,by simp⟩⟩
theorem aS1{T s:List UInt8}{zs:List Int}{n:Nat}(h:RdI T zs s)(hs:aCM s n)(hb:gM (s.take n)=none\/n=s.length):kQ T=none:=tB fun p d=>by
 obtain⟨y,ys, -,e⟩:=h.1 p d
 obtain⟨h1,h2, -⟩:=aIf e hs
 rcases hb with hb|hb
 ·rw[h2,yB]at hb;cases hb
 ·omega
theorem aP5{s:List UInt8}{n:Nat}(h:n<s.length):s=s.take n++s.getD n 0::s.drop (n+1):=by
 have e:s.getD n 0=s[n]:=by simp [h]
 rw[e,List.getElem_cons_drop,bNa]
theorem bFn{T s:List UInt8}{zs:List Int}{n:Nat}{z:Int}(h:RdI T zs s)(hs:aCM s n)(hn:n<s.length)(g:gM (s.take n)=some z)(hc:s.getD n 0=32):RdI T (zs++[z]) (s.drop (n+1)):=by
 have j:=aBH g
 refine⟨fun p d=> ?_, ?_⟩
 ·obtain⟨y,ys,o,e⟩:=h.1 p d
  obtain⟨-,h2,f⟩:=aIf e hs
  obtain rfl:z=y:=aFC (j.symm.trans h2)
  rcases f with ⟨-,f, -⟩|⟨i,ys',rfl, -,h4⟩
  ·rw[f]at hc;exact absurd hc (by decide)
  ·exact⟨i,ys',by rw[o];simp,h4⟩
 ·rw[aZJ,←j]
  refine h.2.trans ?_
  rw[bKH,bKH]
  have e:=aP5 hn
  rw[hc]at e
  exact congrArg (fun x=>eJ++(wF zs++x)) e
theorem bFu{T s:List UInt8}{zs:List Int}{n:Nat}{z:Int}(h:RdI T zs s)(hs:aCM s n)(hn:n<s.length)(g:gM (s.take n)=some z)(hc:s.getD n 0=93):RdE T (zs++[z]) (s.drop (n+1)):=by
 have j:=aBH g
 refine⟨fun p d=> ?_, ?_,by simp⟩
 ·obtain⟨y,ys,o,e⟩:=h.1 p d
  obtain⟨-,h2,f⟩:=aIf e hs
  obtain rfl:z=y:=aFC (j.symm.trans h2)
  rcases f with ⟨rfl, -,h4⟩|⟨i,ys', -,f, -⟩
  ·exact⟨o,h4⟩
  ·rw[f]at hc;exact absurd hc (by decide)
 ·rw[aN9,←j]
  refine h.2.trans ?_
  rw[bKH]
  have e:=aP5 hn
  rw[hc]at e
  exact congrArg (fun x=>eJ++(wF zs++x)) e
theorem aRM{T s:List UInt8}{zs:List Int}(h:RdE T zs s)(hb:s.head? ≠some 32):kQ T=none:=tB fun p d=>hb (by rw[(h.1 p d).2];rfl)
theorem aJA{T s:List UInt8}{zs:List Int}{p:List Int×Int}(h:RdE T zs s)(d:Form T p):s.drop 1=cD p.2/\0<=p.2/\p.2<8:=by
 have l:=aC5 d.2.2 d.2.1
 refine⟨?_,l⟩
 rw[(h.1 p d).2,aPn l.1];rfl
theorem aYj{T s:List UInt8}{zs:List Int}(h:RdE T zs s)(hb:gM (s.drop 1)=none):kQ T=none:=tB fun p d=>by
 rw[(aJA h d).1,yB]at hb;cases hb
theorem aKi{T s:List UInt8}{zs:List Int}{r:Int}(h:RdE T zs s)(g:gM (s.drop 1)=some r)(hb:r<0\/8<=r):kQ T=none:=tB fun p d=>by
 obtain⟨h1,h2⟩:=aJA h d
 rw[h1,yB]at g
 cases g
 omega
theorem aRt{T s:List UInt8}{zs:List Int}(h:RdE T zs s)(hs:s.head? =some 32)(m:T.length<=80)(hc:T.count 32<=8):rS zs:=by
 cases s with
 |nil=>cases hs
 | cons b s=>
  obtain rfl:b=32:=bq hs
  obtain⟨-,e,h0⟩:=h
  rw[e]at m hc
  simp only[bJW,bJN,bMU]at m hc
  have h1:eJ.length=11:=rfl
  have h2:eJ.count 32=1:=by decide
  have f:(93::32::s).count (32:UInt8)=s.count 32+1:=by
   rw[List.count_cons_of_ne (by decide),bNr]
  rw[f]at hc
  exact aJ4 h0 rfl (by omega) (by omega)
theorem bI1{T s:List UInt8}{zs:List Int}{r:Int}(h:RdE T zs s)(hs:s.head? =some 32)(m:T.length<=80)(hc:T.count 32<=8)(g:gM (s.drop 1)=some r)(l:0<=r):kQ T=if vz zs r=true then some (zs,r)else none:=by
 have hsz:=aRt h hs m hc
 split
 ·next q=>
  refine aIo ⟨?_,q,hsz⟩
  have j:=aBH g
  cases s with
  |nil=>cases hs
  |cons b s=>
   obtain rfl:b=32:=bq hs
   have j:s=cD r:=j
   show T=gW zs r
   rw[h.2.1,j,aPn l]
   unfold gW
   simp only[bKH,bKm,bKA]
 ·next q=>
  refine tB fun p d=>q ?_
  obtain⟨h1, -⟩:=aJA h d
  rw[h1,yB]at g
  cases g
  rw[←(h.1 p d).1]
  exact d.2.1
section
variable {m:Nat}
theorem aQy{w:List UInt8}(h:w.length<=80):CC (VZ (m+7)) 38 [.str (bs w)] (oO (gM w)):=
 .of (Can.cons (cQ.str _) Can.nil) (by simp only[bT,cV];decide) (bEj h)
theorem aZe:bO PG 12 f12 [3,2,111,105,79,72,56,39,20] []=true:=by kernel_rfl
set_option maxHeartbeats 4000000 in
theorem bCu{T:List UInt8}(hT:T.length<=80)(hS:T.count 32<=8):VZ (m+21) 12 [.str (bs T)]=some (uO (kQ T),false):=by
 have p:∀s:VS,dJ s [.ag [.nil,.int .i64 ((0:Nat):Int)],.int .i64 ((2:Nat):Int)]=some (uO none,false):=fun s=>aFK (l:=[]) (.nil s) (by decide)
 refine bX rfl func12 aZe rfl ?_
 simp only[f12,N1,bC,bF,bH,bG,bE,zB,zG]
 by_cases d':T.length<11
 ·have g1:decide (T.length<11)=true:=ak d'
  rw[aOn (T:=T) fun e=>by have:=congrArg bKU e;rw[bJO]at this;have h2:eJ.length=11:=rfl;omega]
  simp (disch:=first|rfl|omega)only[S1,aN,aC,aE,aM,aJ,zB,reduceCtorEq,zD,zG,zH,TF,TS,g1,fO,p]
 have g1:decide (T.length<11)=false:=ai d'
 have f':bU (fA PG 9) .neq (.str (bs (T.take 11))) (.str ⟨#[97,108,103,101,98,114,97,105,99,32,91]⟩)=some (.b (!decide (T.take 11=eJ))):=by
  simp only[bU]
  rw[vF,show(⟨#[97,108,103,101,98,114,97,105,99,32,91]⟩:ByteArray).toList=eJ from vF eJ]
  congr 3
  rw[bKh,beq_iff_eq,decide_eq_true_iff]
 have g3:(11:Nat)<=T.length:=by omega
 by_cases hp:T.take 11=eJ
 case neg=>
  have g2:decide (T.take 11=eJ)=false:=ai hp
  rw[aOn hp]
  simp (disch:=first|rfl|omega)only[S1,aN,aC,aE,aM,aJ,zB,reduceCtorEq,zD,zF,zG,zH,TF,TS,g1,fO,p,lG,g3,f',g2]
 have g2:decide (T.take 11=eJ)=true:=ak hp
 have m':=hp
 have d:(T.drop 11).take (T.length-11)=T.drop 11:=bJU (by rw[bK3];exact bJE _)
 simp (disch:=first|rfl|omega)only[S1,aN,aC,aE,aM,aJ,zB,zF,zH,TF,TS,g1,lG,g3,f',g2,d]
 clear d f' d' hp g1 g2 g3
 obtain⟨S0,g'⟩:∃S0,S0=T.drop 11:=⟨_,rfl⟩
 have f:=bB5 m'
 rw[←g']at f ⊢
 have n':S0.length<=80:=by rw[g',bK3];omega
 clear g' m'
 refine .loop (fun n e s=>∃(v:TV) (zs:List Int) (S:List UInt8),n=S.length/\RdI T zs S/\zs.length+S.length<=80/\fV eP s v (zs.map fz)/\(∀k o n z,v= .ow k o n z->2<=k)/\2<=s.nxt/\s.ob 0=⟨0,[.nil,.int .i64 ((0:Nat):Int)]⟩/\s.ob 1=⟨0,[v,.int .i64 ((0:Nat):Int)]⟩/\e 0=some (.str (bs S))/\e 2=some (.po 0 0)/\e 3=some (.int .i64 ((0:Nat):Int))/\e 4=some (.po 1 0)) S0.length ?_ (dB (by omega)) ?_
 ·refine⟨.nil,[],S0,rfl,f,by simpa using n',.nil _,(fun _ _ _ _ h=>(by cases h)), ?_, ?_, ?_, ?_, ?_, ?_, ?_⟩<;>simp (disch:=first|rfl|omega)only[S1,zB,zD,zH]
 clear f n' S0
 rintro n e s ⟨v,zs,S,rfl,hI,a2,hb,hv,sn,M,s1,e0,B,C,D⟩
 simp (disch:=first|rfl|omega)only[S1,aC,aE,aM,aJ]
 refine WC.mono (Q:=fun o K s'=>o= .exit 2/\s'=s/\K 0=some (.str (bs S))/\K 2=some (.po 0 0)/\K 3=some (.int .i64 ((0:Nat):Int))/\K 4=some (.po 1 0)/\∃n,K 5=some (.int .i64 (n:Nat))/\aCM S n) (.up (fun i K s'=>s'=s/\K 0=some (.str (bs S))/\K 2=some (.po 0 0)/\K 3=some (.int .i64 ((0:Nat):Int))/\K 4=some (.po 1 0)/\K 5=some (.int .i64 (i:Nat))/\∀b∈S.take i,b≠32/\b≠93) S.length ?_ (dB (by omega)) ?_) ?_
 ·refine⟨rfl, ?_, ?_, ?_, ?_, ?_,fun b hb=>by cases hb⟩<;>simp (disch:=first|rfl|omega)only[S1,zB,e0,B,C,D]
 ·clear e0 B C D
  rintro i K s' hi ⟨rfl,e0,B,C,D,H,hr⟩
  by_cases hc:i<S.length
  ·have h1:decide (i<S.length)=true:=ak hc
   have g:=aB2 hc
   have d:S.take (i+1)=S.take i++[S.getD i 0]:=by
    rw[bLd hc,bK0,bKO hc];rfl
   obtain⟨b,E⟩:∃b,b=S.getD i 0:=⟨_,rfl⟩
   rw[←E]at g d
   by_cases Y:b=32
   ·have h2:decide (b.toNat=32)=true:=ak (by rw[Y];rfl)
    simp (disch:=first|rfl|omega)only[S1,aN,aC,aE,aM,aJ,zB,TS,e0,B,C,D,H,h1,g,h2]
    exact⟨_,rfl,hi,hr,fun _=> .inl (by rw[←E];exact Y)⟩
   have h2:decide (b.toNat=32)=false:=ai fun e=>Y (UInt8.toNat.inj e)
   by_cases Z:b=93
   ·have O:decide (b.toNat=93)=true:=ak (by rw[Z];rfl)
    simp (disch:=first|rfl|omega)only[S1,aN,aC,aE,aM,aJ,zB,TS,e0,B,C,D,H,h1,g,h2,O]
    exact⟨_,rfl,hi,hr,fun _=> .inr (by rw[←E];exact Z)⟩
   have O:decide (b.toNat=93)=false:=ai fun e=>Z (UInt8.toNat.inj e)
   simp (disch:=first|rfl|omega)only[S1,aN,aC,aE,aM,aJ,zB,TS,e0,B,C,D,H,h1,g,h2,O]
   refine⟨hc,fun c o'=> ?_⟩
   rw[d]at o'
   rcases bKy.1 o' with h|h
   ·exact hr c h
   ·rw[bKF.1 h];exact⟨Y,Z⟩
  ·have h1:decide (i<S.length)=false:=ai hc
   simp (disch:=first|rfl|omega)only[S1,aN,aC,aE,aM,aJ,zB,TS,e0,B,C,D,H,h1]
   exact⟨_,rfl,hi,hr,fun h=>absurd h hc⟩
 clear e0 B C D
 rintro o K s' ⟨rfl,rfl,e0,B,C,D,n,H,f⟩
 have t:n<=S.length:=f.1
 have i':(S.take n).length<=80:=by rw[bJO];omega
 have k1:=aQy (m:=m+13) i'
 have a5:(S.drop 0).take n=S.take n:=by rw[bJV]
 have P:(0==s'.nxt)=false:=by rw[ao];omega
 have R:(1==s'.nxt)=false:=by rw[ao];omega
 have U:1<s'.nxt+1:=by omega
 cases J:gM (S.take n)with
 |none=>
  rw[J]at k1
  have k1:CC (VZ (m+20)) 38 [.str (bs (S.take n))] (.tp [tI 0,.int .i64 ((2:Nat):Int)]):=k1
  rw[aS1 hI f (.inl J)]
  clear hI f
  simp (disch:=first|rfl|omega)only[S1,aC,aE,aM,aJ,aD,zB,zC,reduceCtorEq,zD,zH,TF,TI,TS,e0,B,C,D,H,M,s1,lG,t,bJJ,bKW,vJ 38 rfl,k1 _,P,fO,p]
 |some z=>
 rw[J]at k1
 have k1:CC (VZ (m+20)) 38 [.str (bs (S.take n))] (.tp [tI z,.int .i64 ((0:Nat):Int)]):=k1
 by_cases hq:n=S.length
 ·have g1:decide (n=S.length)=true:=ak hq
  rw[aS1 hI f (.inr hq)]
  clear hI f hq
  simp (disch:=first|rfl|omega)only[S1,aN,aC,aE,aM,aJ,aD,zB,zC,reduceCtorEq,zD,zH,TF,TI,TS,e0,B,C,D,H,M,s1,lG,t,bJJ,bKW,vJ 38 rfl,k1 _,P,fO,p,g1]
 have g1:decide (n=S.length)=false:=ai hq
 have V:n<S.length:=by omega
 have a6:n+1<=S.length:=V
 have g:=aB2 V
 have x':fM eP ⟨2,s'.ob⟩ ((s'.new [.b false,.nil]).set s'.nxt ⟨0,[.b (decide (z<0)),tW (aO z.natAbs)]⟩) v (zs.map fz):=⟨hb.keep (by show s'.nxt<=s'.nxt+1;omega) (fun j hj=>by
  have e1:(j==s'.nxt)=false:=by rw[ao];omega
  rw[gX,gY,e1];rfl),by show 2<=s'.nxt+1;omega,fun j hj=>by
  have hj:j<2:=hj
  have e1:(j==s'.nxt)=false:=by rw[ao];omega
  rw[gX,gY,e1];rfl,hv⟩
 obtain⟨v',N,ea,E⟩:=x'.step (fz z) cI' sI (by rw[bKo];omega)
 have ea:gT PG 47 (((s'.new [.b false,.nil]).set s'.nxt ⟨0,[.b (decide (z<0)),tW (aO z.natAbs)]⟩).new [.b (decide (z<0)),tW (aO z.natAbs)]) v (.ow (s'.nxt+1) 0 1 2)=some (v',N):=ea
 have t0:N.ob 0=⟨0,[TV.nil,.int .i64 ((0:Nat):Int)]⟩:=(E.ob 0 (Nat.zero_lt_succ 1)).trans M
 have t1:N.ob 1=⟨0,[v,.int .i64 ((0:Nat):Int)]⟩:=(E.ob 1 (bJT 1)).trans s1
 have p2:1<N.nxt:=E.nx
 have b2:(s'.nxt==1)=false:=by rw[ao];omega
 rcases E.bld with ⟨-,e⟩|⟨k,rfl,q2,q3⟩
 ·simp at e
 have y':2<=k:=E.new k 0 _ _ rfl
 have b3:(k==1)=false:=by rw[ao];omega
 have et:(zs++[z]).map fz=zs.map fz++[fz z]:=by rw[bL6];rfl
 obtain⟨S',q⟩:∃S',S'=S.drop (n+1):=⟨_,rfl⟩
 have a3:S'.length+(n+1)=S.length:=by rw[q,bK3];omega
 have d:S'.take (S.length-(n+1))=S':=bJU (by omega)
 by_cases hl:S.getD n 0=93
 case neg=>
  have hc:S.getD n 0=32:=(f.2.2 V).resolve_right hl
  have p':=bFn hI f V J hc
  have g2:decide ((S.getD n 0).toNat=93)=false:=ai fun e=>hl (UInt8.toNat.inj e)
  rw[←q]at p'
  clear hI f hl hc i' J
  simp (disch:=first|rfl|omega)only[S1,aK,aN,aC,aE,aM,aJ,aD,zB,zC,reduceCtorEq,zD,zE,zH,aU,TF,TI,TS,aQ,e0,B,C,D,H,M,s1,lG,t,bJJ,bKW,vJ 38 rfl,k1 _,R,U,p2,g1,ea,t0,t1,oC,g,g2,q.symm,d]
  refine⟨S'.length,by omega,_,zs++[z],S',rfl,p',by rw[bJW,bMT];omega,.inr ⟨k,by rw[et],q2, ?_⟩,(fun k' o n z e=>by cases e;exact y'),E.nx,rfl,rfl⟩
  rw[et,gX,b3]
  exact q3
 have I:=bFu hI f V J hl
 have g2:decide ((S.getD n 0).toNat=93)=true:=ak (by rw[hl];rfl)
 rw[←q]at I
 clear hI f hl i' J
 have a7:(zs++[z]).length<=80:=by rw[bJW,bMT];omega
 have a4:S'.length<=80:=by omega
 by_cases G:S'=[]
 ·have h1:decide (S'=[])=true:=ak G
  rw[aRM I (by rw[G];simp)]
  clear I G
  simp (disch:=first|rfl|omega)only[S1,aK,aN,aC,aE,aM,aJ,aD,zB,zC,reduceCtorEq,zD,zE,zH,aU,TF,TI,TS,aQ,e0,B,C,D,H,M,s1,lG,t,bJJ,bKW,vJ 38 rfl,k1 _,R,U,p2,fO,g1,ea,t0,t1,oC,g,g2,q.symm,d,h1,p]
 have h1:decide (S'=[])=false:=ai G
 have u:=aB2 (l:=S') (j:=0) (bKz.2 G)
 have a':S'.head? =some 32↔(S'.getD 0 0).toNat=32:=by
  cases S' with
  |nil=>exact absurd rfl G
  |cons b l=>exact⟨fun e=>by rw[bq e];rfl,fun e=>congrArg some (UInt8.toNat.inj e)⟩
 have L:1<=S'.length:=bKz.2 G
 by_cases A:S'.head? =some 32
 case neg=>
  have h2:decide ((S'.getD 0 0).toNat=32)=false:=ai fun e=>A (a'.2 e)
  rw[aRM I A]
  clear I G A a'
  simp (disch:=first|rfl|omega)only[S1,aK,aN,aC,aE,aM,aJ,aD,zB,zC,reduceCtorEq,zD,zE,zH,aU,TF,TI,TS,aQ,e0,B,C,D,H,M,s1,lG,t,bJJ,bKW,vJ 38 rfl,k1 _,R,U,p2,fO,g1,ea,t0,t1,oC,g,g2,q.symm,d,h1,h2,u,p]
 have h2:decide ((S'.getD 0 0).toNat=32)=true:=ak (a'.1 A)
 clear a' G
 have F:(S'.drop 1).take (S'.length-1)=S'.drop 1:=bJU (by rw[bK3];exact bJE _)
 have k2:=aQy (m:=m+13) (w:=S'.drop 1) (by rw[bK3];omega)
 have b4:(0==N.nxt)=false:=by rw[ao];omega
 have b5:(1==N.nxt)=false:=by rw[ao];omega
 have p3:1<N.nxt+1:=by omega
 cases a:gM (S'.drop 1)with
 |none=>
  rw[a]at k2
  have k2:CC (VZ (m+20)) 38 [.str (bs (S'.drop 1))] (.tp [tI 0,.int .i64 ((2:Nat):Int)]):=k2
  obtain⟨v3,o3,W, -, -⟩:=aSF (m:=m+15) (z:=0) (show 0<4294967296^9 by decide)
  have W:CC (VZ (m+20)) 39 [tI 0] (.tp [.int .i64 v3,.b o3]):= .of (sD 0) (sJ 0) W
  rw[aYj I a]
  clear I a A
  simp (disch:=first|rfl|omega)only[S1,aK,aN,aC,aE,aM,aJ,aD,zB,zC,reduceCtorEq,zD,zE,zH,aU,TF,TI,TS,aQ,e0,B,C,D,H,M,s1,lG,t,bJJ,bKW,vJ 38 rfl,k1 _,k2 _,vJ 39 rfl,W _,R,U,p2,fO,g1,ea,t0,t1,oC,g,g2,q.symm,d,h1,h2,u,F,L,b4,p]
 | some r=>
  rw[a]at k2
  have k2:CC (VZ (m+20)) 38 [.str (bs (S'.drop 1))] (.tp [tI r,.int .i64 ((0:Nat):Int)]):=k2
  have z':aX 9 r.natAbs:=by
   have O:=aQN (z:=r) (n:=80) (by rw[←aBH a,bK3];omega)
   exact bJK O (by decide)
  obtain⟨v3,o3,W,ho,j'⟩:=aSF (m:=m+15) (z:=r) z'
  have W:CC (VZ (m+20)) 39 [tI r] (.tp [.int .i64 v3,.b o3]):= .of (sD r) (sJ r) W
  cases o3 with
  | false=>
   rw[aKi I a (by
    rcases Int.lt_or_le r 0 with h|h
    ·exact .inl h
    ·rcases Int.lt_or_le r 8 with h'|h'
     ·have:=j' (by omega) (by omega);cases this
     ·exact .inr h')]
   clear I a A ho j'
   simp (disch:=first|rfl|omega)only[S1,aK,aN,aC,aE,aM,aJ,aD,zB,zC,reduceCtorEq,zD,zE,zH,aU,TF,TI,TS,aQ,e0,B,C,D,H,M,s1,lG,t,bJJ,bKW,vJ 38 rfl,k1 _,k2 _,vJ 39 rfl,W _,R,U,p2,fO,g1,ea,t0,t1,oC,g,g2,q.symm,d,h1,h2,u,F,L,b4,p]
  | true=>
   have q':v3=r:=ho rfl
   rw[←q']at a
   clear ho j' q'
   by_cases l':v3<0
   ·have O:decide (v3<0)=true:=ak l'
    rw[aKi I a (.inl l')]
    clear I a A
    simp (disch:=first|rfl|omega)only[S1,aK,aN,aC,aE,aM,aJ,aD,zB,zC,reduceCtorEq,zD,zE,zH,aU,TF,TI,TS,aQ,e0,B,C,D,H,M,s1,lG,t,bJJ,bKW,vJ 38 rfl,k1 _,k2 _,vJ 39 rfl,W _,R,U,p2,fO,g1,ea,t0,t1,oC,g,g2,q.symm,d,h1,h2,u,F,L,b4,p,sB,O]
   have O:decide (v3<0)=false:=ai l'
   by_cases r':((1073741824:Nat):Int)<v3
   ·have h4:decide (((1073741824:Nat):Int)<v3)=true:=ak r'
    rw[aKi I a (.inr (by omega))]
    clear I a A
    simp (disch:=first|rfl|omega)only[S1,aK,aN,aC,aE,aM,aJ,aD,zB,zC,reduceCtorEq,zD,zE,zH,aU,TF,TI,TS,aQ,e0,B,C,D,H,M,s1,lG,t,bJJ,bKW,vJ 38 rfl,k1 _,k2 _,vJ 39 rfl,W _,R,U,p2,fO,g1,ea,t0,t1,oC,g,g2,q.symm,d,h1,h2,u,F,L,b4,p,sB,yH,O,h4]
   have h4:decide (((1073741824:Nat):Int)<v3)=false:=ai r'
   have hsz:=aRt I A hT hS
   rw[bI1 I A hT hS a (by omega)]
   clear I A a hT hS
   obtain⟨X,hX⟩:∃X,X=(((N.set 1 ⟨0,[.ow k 0 (zs.map fz++[fz z]).length eP.sz,.int .i64 ((0:Nat):Int)]⟩).new [.b false,.nil]).set N.nxt ⟨0,[.b (decide (r<0)),tW (aO r.natAbs)]⟩).set 1 ⟨0,[.ow k 0 (zs.map fz++[fz z]).length eP.sz,.int .i64 v3]⟩:=⟨_,rfl⟩
   have b6:(k==N.nxt)=false:=by rw[ao];omega
   have b7:(k==0)=false:=by rw[ao];omega
   have b8:(1==N.nxt)=false:=by rw[ao];omega
   have t':X.nxt=N.nxt+1:=by rw[hX];rfl
   have u':X.ob k=⟨0,eP.row ((zs++[z]).map fz)⟩:=by rw[hX,et,gX,b3,gX,b6,gY,nE,b6,gX,b3];exact q3
   have a8:X.ob 1=⟨0,[.ow k 0 (zs.map fz++[fz z]).length eP.sz,.int .i64 v3]⟩:=by rw[hX];rfl
   have a9:X.ob 0=⟨0,[.nil,.int .i64 ((0:Nat):Int)]⟩:=by rw[hX,gX,show(0==(1:Nat))=false from rfl,gX,b4,gY,nE,b4,gX,show(0==(1:Nat))=false from rfl];exact t0
   have a0:fV eP X (.ow k 0 (zs.map fz++[fz z]).length eP.sz) ((zs++[z]).map fz):= .inr ⟨k,by rw[et],by rw[t'];omega,u'⟩
   have w':((zs++[z]).map fz).length<=1000:=by rw[bKo];omega
   have b':VZ (m+20) 7 [tF ((zs++[z]).map fz) v3]=some (.b (vz (zs++[z]) v3),false):=by
    have h:=aZz (m:=m) (l:=(zs++[z]).map fz) (r:=v3) (by rw[bKo];have:=hsz.1;omega) (aUp hsz.2) ⟨by omega,by omega⟩
    rw[aSP,show((zs++[z]).map fz).all eA=true from bKq.2 fun x hx=>by obtain⟨y, -,rfl⟩:=bKP.1 hx;exact aJp y,bKI]at h
    exact yz _ _ _ _ (xy _ _ _ _ h)
   have kV:=aQj a0 w' b' rfl
   clear b' hsz
   cases hV:vz (zs++[z]) v3 with
   |false=>
    rw[hV]at kV
    rw[hX]at kV
    have p0:(0==(1:Nat))=false:=rfl
    simp (disch:=first|rfl|omega)only[S1,aK,aN,aC,aE,aM,aJ,aD,zB,zC,reduceCtorEq,zD,zE,zH,aU,TF,TI,TS,aQ,e0,B,C,D,H,M,s1,lG,t,bJJ,bKW,vJ 38 rfl,k1 _,k2 _,vJ 39 rfl,W _,R,U,p2,fO,g1,ea,t0,t1,oC,g,g2,q.symm,d,h1,h2,u,F,L,b4,b5,p3,sB,yH,O,h4,kV,vJ 7 rfl,p]
   |true=>
    rw[hV]at kV
    have c':∀c,dJ (X.set 0 c) [.ag [.ow k 0 (zs.map fz++[fz z]).length eP.sz,.int .i64 v3],.int .i64 ((0:Nat):Int)]=some (.tp [tF ((zs++[z]).map fz) v3,.int .i64 ((0:Nat):Int)],false):=fun c=>aFK (.inr ⟨k,by rw[et],by rw[nE,t'];omega,by rw[gX,b7];exact u'⟩) w'
    rw[hX]at kV c'
    simp (disch:=first|rfl|omega)only[S1,aK,aN,aC,aE,aM,aJ,aD,zB,zC,reduceCtorEq,zD,zE,zH,aU,TF,TI,TS,aQ,e0,B,C,D,H,M,s1,lG,t,bJJ,bKW,vJ 38 rfl,k1 _,k2 _,vJ 39 rfl,W _,R,U,p2,g1,ea,t0,t1,oC,g,g2,q.symm,d,h1,h2,u,F,L,b4,b5,p3,sB,yH,O,h4,kV,vJ 7 rfl,c',uO]
end
section
open Go Go.RowKit
theorem bAQ{T:List UInt8}:∃(zs:List Int) (r ec:Int),uO (kQ T)= .tp [tF (zs.map fz) r,.int .i64 ec]/\zs.length<=1000/\∀z∈zs,z.natAbs<2^256:=by
 cases h:kQ T with
 |none=>exact⟨[],0,2,rfl,by decide,fun z hz=>by cases hz⟩
 |some p=>
  obtain⟨-, -,h3⟩:=aNi h
  exact⟨p.1,p.2,0,rfl,bJH h3.1 (by decide),h3.2⟩
theorem bG2{T:List UInt8}{j:Nat}(_:j<(bs T).size)(h':j<T.length):(bs T)[j]=T[j]:=by
 show T.toArray[j]=_
 simp
theorem bAC{T:List UInt8}{j n:Nat}(hn:n=T.length)(hj:j<n)(hs:j<(bs T).size):((((bs T)[j]).toNat:Int)==32)=true/\(T.take (j+1)).count 32=(T.take j).count 32+1\/((((bs T)[j]).toNat:Int)==32)=false/\(T.take (j+1)).count 32=(T.take j).count 32:=by
 have h':j<T.length:=by omega
 have h2:((bs T)[j]).toNat=(T[j]).toNat:=congrArg UInt8.toNat (bG2 hs h')
 rw[bLd h',bMU]
 by_cases h:T[j]=32
 ·have h3:(T[j]).toNat=32:=by rw[h];rfl
  refine .inl ⟨by rw[beq_iff_eq];omega, ?_⟩
  rw[h];rfl
 ·have h3:(T[j]).toNat≠32:=fun e=>h (UInt8.toNat.inj e)
  refine .inr ⟨by rw[ao];omega, ?_⟩
  rw[List.count_cons_of_ne h];rfl
set_option maxRecDepth 100000 in
set_option maxHeartbeats 4000000 in
theorem aYN{T:List UInt8}{w:bR3}(htw:fZ w)
  (haw:∀W,fZ W->Calls PG 5 #[] W fun e w'=>e= .returned (.bool true)/\Below W.heap.size W w'):
  Calls PG 4 #[.string (bs T)] w fun e w'=>e= .returned (.bool true)/\bY w w':=by
 have HAW:=br haw
 have HT:=br htw
 clear haw htw
 obtain⟨n,hn⟩:∃n,n=T.length:=⟨_,rfl⟩
 have hsz:(bs T).size=n:=by rw[qT,hn]
 have HN:=br hn
 clear hn
 go_enter func4,ntmps4
 go_wp2_with fail
 refine(HAW.out _ HT.out).mono ?_
 rintro e w1 ⟨rfl,hx1⟩
 have HE1:Hid (bY w w1):=hx1
 clear hx1
 by_cases h80:80<n
 ·go_wp2_with fail
  refine(HAW.out _ (HT.out.below HE1.out)).mono ?_
  rintro e w2 ⟨rfl,hx2⟩
  go_wp2_with fail
  go_ret
  exact⟨rfl,bY.trans HE1.out hx2⟩
 ·have hl80:n<=80:=by omega
  clear h80
  go_upto_region 5 with fail
  go_loopg [3,19] n (fun gk x y wr=>∃j:Nat,y= .int .i64 (j:Int)/\x= .int .i64 (((T.take j).count 32:Nat):Int)/\j+gk=n/\wr=w1)
  case atStart=>exact⟨0,rfl,rfl,by omega,rfl⟩
  case round=>
   obtain⟨j,rfl,rfl,hj,rfl⟩:=hrel
   by_cases hlt:j<n
   ·have HC:=br (bAC HN.out hlt)
    have hcj:(T.take j).count 32<=80:=bJH List.count_le_length (by rw[bJO];omega)
    go_wp2_with fail
    ·next h=>
     have h1:=(HC.out (by omega)).resolve_right fun e=>by rw[e.1]at h;cases h
     go_roundg (n-(j+1))
     case measure=>omega
     case rel=>exact⟨j+1,by simp,by rw[h1.2];simp,by omega,rfl⟩
    ·next h=>
     have h1:=(HC.out (by omega)).resolve_left fun e=>by rw[e.1]at h;cases h
     go_roundg (n-(j+1))
     case measure=>omega
     case rel=>exact⟨j+1,by simp,by rw[h1.2],by omega,rfl⟩
   ·have hjn:j=n:=by omega
    subst hjn
    have hct:(T.take j).count 32=T.count 32:=by rw[HN.out,bKp]
    rw[hct]
    clear hct
    obtain⟨q,hq⟩:∃q,q=T.count 32:=⟨_,rfl⟩
    rw[←hq]
    have HQ:=br hq
    clear hq hj
    by_cases h8:8<q
    ·go_wp2_with fail
     go_ret
     exact⟨rfl,HE1.out⟩
    ·have hq8:q<=8:=by omega
     clear h8
     obtain⟨zs,r,ec,hres,hz1,hz2⟩:=bAQ (T:=T)
     have hT1:=HT.out.below HE1.out
     have hpc:=aOO (aJb (m:=0) (T:=T) (by have:=HN.out;omega) (by have:=HQ.out;omega)) hT1 (.cons (.str _) .nil)
     rw[hres]at hpc
     have HPC:=br hpc
     have HRES:=br hres
     have HZ1:=br hz1
     have HZ2:=br hz2
     have HT1:=br hT1
     clear hpc hres hz1 hz2 hT1
     go_wp2_with fail
     refine HPC.out.mono ?_
     rintro e w2 ⟨v2,rfl,hx2,hv2⟩
     cases hv2 with |tp hv2=>
     cases hv2 with |cons ha hv2=>
     cases hv2 with |cons hb hv2=>
     cases hv2
     cases hb
     cases ha with |ag ha=>
     cases ha with |cons hp hq=>
     cases hq with |cons hq hl=>
     cases hl
     cases hq
     obtain⟨A2,cA2,rfl, -⟩:=aE9 (n:=(zs.map fz).length) (sz:=2) (by decide) (ts:=eP.row (zs.map fz)) (eP.row_len _) (show WT w2 _ (eV (zs.map fz))from hp)
     obtain⟨k,hk⟩:∃k,k=(zs.map fz).length:=⟨_,rfl⟩
     rw[←hk]at hp ⊢
     have HK:=br hk
     clear hk
     have hv3:WT w2 (.agg #[.slice A2 k cA2,.int .i64 r]) (tF (zs.map fz) r):= .ag (.cons hp (.cons (.int _ _) .nil))
     obtain⟨w3,hw3⟩:∃w3,w2.alloc (.cells #[.slice A2 k cA2,.int .i64 r] 24)=w3:=⟨_,rfl⟩
     have hx3:bY w2 w3:=by rw[←hw3];exact bY.alloc _ _
     have hb3:w3.heap[w2.heap.size]? =some (.cells #[.slice A2 k cA2,.int .i64 r] 24 (0,0)):=by rw[←hw3];exact Below.heap_new _ _
     have hs3:w2.heap.size<w3.heap.size:=by rw[←hw3];simp
     have HX3:Hid (bY wr w3):=bY.trans hx2 hx3
     have HV3:=br (hv3.ext hx3.block)
     have HB3:=br hb3
     have hpc:=aOO (bCu (m:=0) (T:=T) (by have:=HN.out;omega) (by have:=HQ.out;omega)) (HT1.out.below HX3.out) (.cons (.str _) .nil)
     rw[HRES.out]at hpc
     have HPD:=br hpc
     clear hpc hb3 hx3 hv3 hp hx2 HPC
     go_upto_region 13 with fail
     clear hw3
     go_wp2_with fail
     refine HPD.out.mono ?_
     rintro e w4 ⟨v4,rfl,hx4,hv4⟩
     cases hv4 with |tp hv4=>
     cases hv4 with |cons ha hv4=>
     cases hv4 with |cons hb hv4=>
     cases hv4
     cases hb
     cases ha with |ag ha=>
     cases ha with |cons hp hq=>
     cases hq with |cons hq hl=>
     cases hl
     cases hq
     obtain⟨A4,cA4,rfl, -⟩:=aE9 (n:=(zs.map fz).length) (sz:=2) (by decide) (ts:=eP.row (zs.map fz)) (eP.row_len _) (show WT w4 _ (eV (zs.map fz))from hp)
     rw[←HK.out]at hp ⊢
     have hv5:WT w4 (.agg #[.slice A4 k cA4,.int .i64 r]) (tF (zs.map fz) r):= .ag (.cons hp (.cons (.int _ _) .nil))
     obtain⟨w5,hw5⟩:∃w5,w4.alloc (.cells #[.slice A4 k cA4,.int .i64 r] 24)=w5:=⟨_,rfl⟩
     have hx5:bY w4 w5:=by rw[←hw5];exact bY.alloc _ _
     obtain⟨y0,y1,y2,y3⟩:=aEz (show w5.heap[w4.heap.size]? =some (.cells #[.slice A4 k cA4,.int .i64 r] 24 (0,0)) by rw[←hw5];exact Below.heap_new _ _)
     have hx35:bY w3 w5:=bY.trans hx4 hx5
     obtain⟨x0,x1,x2,x3⟩:=aEz ((bY.block' hx35 hs3).trans HB3.out)
     have HX5:Hid (bY wr w5):=bY.trans HX3.out hx35
     have HSC:=br (aWR (zs:=zs) (r:=r) HZ1.out HZ2.out (HT1.out.below HX5.out) (HV3.out.ext hx35.block) (hv5.ext hx5.block))
     clear hp hv5 hx5 hx35 hx4 HPD HB3
     go_upto_region 14 with fail
     clear hw5
     go_wp2_with fail
     refine HSC.out.mono ?_
     rintro e w6 ⟨rfl,hx6⟩
     go_wp2_with fail
     go_ret
     exact⟨rfl,bY.trans HE1.out (bY.trans HX5.out hx6)⟩
end
section
open Go Go.RowKit Go.Proofs.YtmjoaipkaddkbaaGreatDoor
theorem aLW{Γ:aP}{k:IntKind}:∀l:List Nat,bW Γ (l.map (AV.i k)) (l.map fun n=>Value.int k ((n:Nat):Int))
 | []=> .nil
 |n::l=> .cons (.i k n) (aLW l)
theorem aVO{P:bR8}{W:bR3}{name:String}{k:IntKind}{zs:List Int}{rest:List (String×DataW Unit)}{ps:List MemPlace}{g:Nat}{t e:TypeId}{n:Nat}
  (C:P.globalNamed name=some g) (D:(P.globals[g]?).map (·.type)=some t) (M:P.underlying t=some (.array n e)) (N:P.underlying e=some (.int k)) (E:P.cellsOf e=1) (F:P.cellsOf t=n)
  (h:DataW.LaidVars P W ((name,Lib.tabData k zs)::rest) ps):dl P W name k zs:=by
 obtain⟨V,X,cs,fuel,p,q,G,H,r,O,_,_⟩:=h
 obtain rfl:=bq (C.symm.trans G)
 obtain rfl:=bq (D.symm.trans H)
 unfold dl
 rw[r,←Lib.cells_of_tab M N E F O]
theorem aNg{P:bR8}{W:bR3}{x:String×DataW Unit}{rest:List (String×DataW Unit)}{ps:List MemPlace}(h:DataW.LaidVars P W (x::rest) ps):∃q,DataW.LaidVars P W rest q:=by
 obtain⟨n,d⟩:=x
 obtain⟨_,_,_,_,_,q,_,_,_,_,h,_⟩:=h
 exact⟨q,h⟩
def aEw:List Nat:=[1,10,100,1000,10000,100000,1000000,10000000,100000000,1000000000,10000000000,100000000000,1000000000000,10000000000000,100000000000000,1000000000000000,10000000000000000,100000000000000000,1000000000000000000,10000000000000000000]
theorem bAq{w:bR3}(h:laidMetH PG Rows.algebraicParseRow.laid w):dl PG w "internal/strconv.uint64pow10" .u64 (aEw.map fun n=>((n:Nat):Int)):=by
 rw[MakeChecks.laidMetH_plain _ _ _ (by kernel_rfl)]at h
 obtain⟨Y,h0, -⟩:=h
 obtain⟨Z,h1⟩:=aNg h0
 obtain⟨p2,h2⟩:=aNg h1
 exact aVO (t:=265) (e:=103) (n:=20) (g:=3) (by kernel_rfl) (by kernel_rfl) (by kernel_rfl) (by kernel_rfl) (by kernel_rfl) (by kernel_rfl) h2
theorem aPT: "*" ++ "errors.errorString" = "*errors.errorString" :=by decide
theorem aQZ(u:TypeId)(h:PG.typeName? 3 u=some "*errors.errorString"):u=260:=
 typeName_ptr_named (nm:= "errors.errorString") (by rw[aPT];kernel_rfl) (by kernel_rfl) (by decide) u (by rw[aPT];exact h)
theorem aXI{w:bR3}(h:laidMetH PG Rows.algebraicParseRow.laid w):(∃a,w.var? PG "strconv.ErrSyntax" =some #[.iface 260 (.pointer (some a))])/\∃a,w.var? PG "strconv.ErrRange" =some #[.iface 260 (.pointer (some a))]:=by
 rw[MakeChecks.laidMetH_plain _ _ _ (by kernel_rfl)]at h
 have J:=h.tail.tail.tail.tail
 obtain⟨a,_,e, -⟩:=laid_sentinel (g:=2) (ti:=66) (te:=262) (ts:=9) J (by kernel_rfl) (by kernel_rfl) underlying66 aQZ underlying260 underlying262 rfl rfl underlying9 (by kernel_rfl) (by kernel_rfl)
 obtain⟨b,_,Q, -⟩:=laid_sentinel (g:=1) (ti:=66) (te:=262) (ts:=9) J.tail (by kernel_rfl) (by kernel_rfl) underlying66 aQZ underlying260 underlying262 rfl rfl underlying9 (by kernel_rfl) (by kernel_rfl)
 exact⟨⟨b,Q⟩,a,e⟩
theorem aIB{w:bR3}{n:String}{g:Nat}{cs:Array bR4}(C:PG.globalNamed n=some g)(h:w.var? PG n=some cs):∃el fr,w.heap[g]? =some (.cells cs el fr):=by
 unfold World.var? at h
 rw[C]at h
 simp only[bJM]at h
 split at h
 ·next c el fr R=>
  cases h
  exact⟨el,fr,R⟩
 ·cases h
theorem bD6{W:bR3}(hs:W.ShapedOpen PG)(K:laidMetH PG Rows.algebraicParseRow.laid W):fZ W:=by
 obtain⟨m,L⟩:=Go.Proofs.cell_of_shapedOpen_int (P:=PG) (g:=0) (t:=3) (zero:= #[.int .i64 0]) (k:= .i64) hs (ae (by kernel_rfl)) (by kernel_rfl) rfl (by kernel_rfl) (by kernel_rfl) (by kernel_rfl)
 obtain⟨-,c0,el0,fr0,j⟩:=aWH L
 have j:W.heap[0]? =some (.cells c0 el0 fr0):=j
 have f:c0[0]? =some (.int .i64 m):=by rw[←L,yI j]
 have S:W.var? PG "internal/strconv.uint64pow10" =some ((aEw.map fun n=>((n:Nat):Int)).map fun z=>Value.int .u64 z).toArray:=bAq K
 obtain⟨el3,fr3,o⟩:=aIB (show PG.globalNamed "internal/strconv.uint64pow10" =some 3 by kernel_rfl) S
 obtain⟨⟨a1,T⟩,a2,U⟩:=aXI K
 obtain⟨el1,fr1,s⟩:=aIB (show PG.globalNamed "strconv.ErrSyntax" =some 1 by kernel_rfl) T
 obtain⟨el2,fr2,v⟩:=aIB (show PG.globalNamed "strconv.ErrRange" =some 2 by kernel_rfl) U
 obtain⟨c3,hc⟩:∃c3,c3=((aEw.map fun n=>((n:Nat):Int)).map fun z=>Value.int .u64 z).toArray:=⟨_,rfl⟩
 have y:c3.toList=aEw.map fun n=>Value.int .u64 ((n:Nat):Int):=by rw[hc,List.toList_toArray,bLs];rfl
 rw[←hc]at o
 have I:0<c0.size:=(Array.getElem?_eq_some_iff.1 f).1
 have A:c3.size=20:=by rw[←bLC,y];rfl
 refine⟨fun g=>if g=0 then c0.size else if g=3 then 20 else 1,fun q hq=> ?_⟩
 unfold mO at hq
 simp only[bJZ,bLj,or_false]at hq
 rcases hq with rfl|rfl|rfl|rfl
 ·refine⟨aDE j,.of (el:=el0) (cs:=c0) (by rw[j];rfl) rfl I ?_ (fun h=>by cases h)⟩
  have:c0.toList.take 1=[.int .i64 m]:=by
   rw[←Array.getElem?_toList]at f
   cases B:c0.toList with
   |nil=>rw[B]at f;cases f
   |cons x l=>rw[B]at f;simp at f;subst f;rfl
  show bW _ [AV.fn (.yield 1) [] []] (c0.toList.take 1)
  rw[this]
  exact .cons (.anyI m) .nil
 ·exact⟨aDE s,.of (el:=el1) (cs:= #[.iface 260 (.pointer (some a1))]) (by rw[s];rfl) rfl (bJE 1) (.cons (.anyE _ _) .nil) (fun h=>by cases h)⟩
 ·exact⟨aDE v,.of (el:=el2) (cs:= #[.iface 260 (.pointer (some a2))]) (by rw[v];rfl) rfl (bJE 1) (.cons (.anyE _ _) .nil) (fun h=>by cases h)⟩
 ·refine⟨aDE o,.of (el:=el3) (cs:=c3) (by rw[o];rfl) A (bJE 20) ?_ (fun _=>rfl)⟩
  rw[bJU (by rw[bLC,A];exact bJE 20),y]
  exact aLW aEw
end
def aEt(f:Nat):Nat->Option (List Nat):=Nat.rec (fun n=>Bool.rec none (some []) (Nat.beq n 0)) (fun _ ih n=>Bool.rec ((ih (n/4294967296)).map (n%4294967296:: ·)) (some []) (Nat.beq n 0)) f
theorem aG7:∀(f n:Nat) (l:List Nat),aEt f n=some l->l=aO n
 |0,n,l,h=>by
  have h':(Bool.rec (motive:=fun _=>Option (List Nat)) none (some []) (Nat.beq n 0))=some l:=h
  cases k:Nat.beq n 0 with
  |true=>rw[k]at h';cases h';rw[bJY k,gH]
  |false=>rw[k]at h';cases h'
 | f+1,n,l,h=>by
  have h':(Bool.rec (motive:=fun _=>Option (List Nat)) ((aEt f (n/4294967296)).map (n%4294967296:: ·)) (some []) (Nat.beq n 0))=some l:=h
  cases k:Nat.beq n 0 with
  |true=>rw[k]at h';cases h';rw[bJY k,gH]
  |false=>
   rw[k]at h'
   simp only[bJG]at h'
   obtain⟨m,h1,rfl⟩:=h'
   rw[aG7 f _ m h1]
   conv=>rhs;rw[aO]
   rw[dif_neg (Nat.ne_of_beq_eq_false k)]
def wV(z:Int):Option TV:=(aEt 400 z.natAbs).map fun l=> .ag (ci (decide (z<0)) l)
theorem aAB{z:Int}{t:TV}(h:wV z=some t):t=tI z:=by
 simp only[wV,bJG]at h
 obtain⟨l,h1,rfl⟩:=h
 rw[aG7 _ _ _ h1];rfl
def wQ(q:Rat):Option TV:=(aEt 400 q.num.natAbs).bind fun a=>(aEt 400 q.den).map fun b=> .ag [.b (decide (q.num<0)),tW a,.b false,tW b]
theorem aAC{q:Rat}{t:TV}(h:wQ q=some t):t=tR q:=by
 simp only[wQ,bJF,bJG]at h
 obtain⟨a,h1,b,h2,rfl⟩:=h
 rw[aG7 _ _ _ h1,aG7 _ _ _ h2]
 have:decide ((q.den:Int)<0)=false:=ai (by omega)
 unfold tR cR
 rw[this];rfl
def aE1:TV->Option (List Nat)
 | .em=>some []
 | .im 1 (c::cs)=>sK (.im 1 (c::cs))
 |_=>none
theorem aHR{t:TV}{xs:List Nat}(h:aE1 t=some xs):bD xs/\t=tW xs:=by
 unfold aE1 at h
 split at h
 ·cases h;exact⟨fun _ h=>absurd h bLj,rfl⟩
 ·obtain⟨h1,⟨h2,_⟩|h2⟩:=aEW h
  ·cases h2
  ·refine⟨h1, ?_⟩
   cases xs with
   |nil=>cases h2
   |cons x xs=>exact h2
 ·cases h
def aEs:TV->Option Int
 | .ag [.b s,t]=>(aE1 t).bind fun xs=>if eA (s,xs)=true/\xs.length<=100 then some (cE (s,xs))else none
 |_=>none
theorem aJo{xs:List Nat}(o:bD xs)(h:xs.length<=100):aX 100 (val xs):=bJK (jE o) (bK2 (by decide) h)
theorem aJN{t:TV}{z:Int}(h:aEs t=some z):t=tI z/\aX 100 z.natAbs:=by
 unfold aEs at h
 split at h
 ·next s t=>
  simp only[bJF]at h
  obtain⟨xs,h1,h2⟩:=h
  split at h2
  ·next r=>
   cases h2
   obtain⟨o,rfl⟩:=aHR h1
   exact⟨tT o r.1,by rw[qV];exact aJo o r.2⟩
  ·cases h2
 ·cases h
def aBb:TV->Option Rat
 | .ag [.b s,t,.b u,v]=>(aE1 t).bind fun xs=>(aE1 v).bind fun ys=>
  if h:(eA (s,xs)=true/\eA (false,ys)=true/\u=false/\xs.length<=100/\ys.length<=100)/\val ys≠0/\Nat.gcd (cE (s,xs)).natAbs (val ys)=1 then some ⟨cE (s,xs),val ys,h.2.1,h.2.2⟩else none
 |_=>none
theorem aDA{t:TV}{q:Rat}(h:aBb t=some q):t=tR q/\FR 100 q:=by
 unfold aBb at h
 split at h
 ·next s t u v=>
  simp only[bJF]at h
  obtain⟨xs,h1,ys,h2,w⟩:=h
  split at w
  ·next r=>
   cases w
   obtain⟨o,rfl⟩:=aHR h1
   obtain⟨y,rfl⟩:=aHR h2
   obtain⟨⟨g1,g2,rfl,g4,B⟩,H,I⟩:=r
   refine⟨?_,by show aX 100 (cE (s,xs)).natAbs;rw[qV];exact aJo o g4,aJo y B⟩
   have g:=tT (x:=(s,xs)) o g1
   have i:=tT (x:=(false,ys)) y g2
   injection g with g
   injection i with i
   have E:cE (false,ys)=(val ys:Int):=rfl
   rw[E]at i
   show TV.ag (ci s xs++ci false ys)=TV.ag (ci _ _++ci _ _)
   have g:ci s xs=ci (decide (cE (s,xs)<0)) (aO (cE (s,xs)).natAbs):=g
   have i:ci false ys=ci (decide ((val ys:Int)<0)) (aO (val ys:Int).natAbs):=i
   rw[g,i]
  ·cases w
 ·cases h
def yN:List TV->Option (List Rat)
 | []=>some []
 |a::b::c::d::l=>(aBb (.ag [a,b,c,d])).bind fun q=>(yN l).map (q:: ·)
 |_=>none
theorem aOe:∀(l:List TV) (qs:List Rat),yN l=some qs->l=bP.row qs/\∀q∈qs,FR 100 q
 | [],_,h=>by simp only[yN]at h;cases h;exact⟨rfl,fun _ h=>by cases h⟩
 | a::b::c::d::l,_,h=>by
  simp only[yN,bJF,bJG]at h
  obtain⟨q,h1,qs,h2,rfl⟩:=h
  obtain⟨g,f1⟩:=aDA h1
  obtain⟨i,f2⟩:=aOe l qs h2
  injection g with g
  refine⟨?_,fun x hx=> ?_⟩
  ·rw[EC.row_cons,←i]
   show _=cR q++l
   rw[←g];rfl
  ·rcases bJZ.1 hx with rfl|hx
   ·exact f1
   ·exact f2 x hx
 | [_],_,h=>by simp [yN]at h
 | [_,_],_,h=>by simp [yN]at h
 | [_,_,_],_,h=>by simp [yN]at h
def aKV:TV->Option (List Rat)
 | .em=>some []
 | .im 4 (c::cs)=>yN (c::cs)
 |_=>none
theorem bDw{t:TV}{l:List Rat}(h:aKV t=some l):t=tP l/\∀q∈l,FR 100 q:=by
 unfold aKV at h
 split at h
 ·cases h;exact⟨rfl,fun _ h=>by cases h⟩
 ·next c cs=>
  obtain⟨e,f⟩:=aOe _ _ h
  refine⟨?_,f⟩
  show _=tL 4 (bP.row l)
  rw[←e];rfl
 ·cases h
def aEd:List TV->Option (List (List Rat))
 | []=>some []
 |a::l=>(aKV a).bind fun p=>(aEd l).map (p:: ·)
theorem aPt:∀(l:List TV) (C:List (List Rat)),aEd l=some C->l=iY.row C/\∀p∈C,∀q∈p,FR 100 q
 | [],_,h=>by simp only[aEd]at h;cases h;exact⟨rfl,fun _ h=>by cases h⟩
 | a::l,_,h=>by
  simp only[aEd,bJF,bJG]at h
  obtain⟨p,h1,C,h2,rfl⟩:=h
  obtain⟨g,f1⟩:=bDw h1
  obtain⟨i,f2⟩:=aPt l C h2
  refine⟨?_,fun x hx=> ?_⟩
  ·rw[EC.row_cons,←i,g];rfl
  ·rcases bJZ.1 hx with rfl|hx
   ·exact f1
   ·exact f2 x hx
def aL6:TV->Option (List (List Rat))
 | .em=>some []
 | .im 1 (c::cs)=>aEd (c::cs)
 |_=>none
theorem bEi{t:TV}{C:List (List Rat)}(h:aL6 t=some C):t=tC C/\∀p∈C,∀q∈p,FR 100 q:=by
 unfold aL6 at h
 split at h
 ·cases h;exact⟨rfl,fun _ h=>by cases h⟩
 ·next c cs=>
  obtain⟨e,f⟩:=aPt _ _ h
  refine⟨?_,f⟩
  show _=tL 1 (iY.row C)
  rw[←e];rfl
 ·cases h
theorem aTY{j:Nat}:∀(l:List Rat),(∀q∈l,q.den<2^j/\q.num.natAbs<2^j)->WD (j*(l.length+1)+1) l
 | [],_=>⟨1,by decide,Nat.one_lt_two_pow (by omega),fun _ h=>by cases h⟩
 | q::l,h=>by
  obtain⟨D,d1,d2,d3⟩:=aTY l fun x hx=>h x (.tail _ hx)
  obtain⟨A,F⟩:=h q (.head _)
  have G:2^(j*((q::l).length+1)+1)=2^(j*(l.length+1)+1)*2^j:=by rw[←Nat.pow_add];congr 1;rw[bJN,Nat.mul_succ];omega
  rw[WD,G]
  refine⟨D*q.den,Nat.mul_pos d1 q.den_pos,bLA d2 A,fun x hx=> ?_⟩
  rcases bJZ.1 hx with rfl|hx
  ·refine⟨x.num*D, ?_,by rw[bKJ,bMR,Nat.mul_comm];exact bLA d2 F⟩
   have h1:=aBJ x
   simp only[Rat.natCast_mul,Rat.intCast_mul,Rat.intCast_natCast,←h1]
   grind
  ·obtain⟨n,g,i⟩:=d3 x hx
   refine⟨n*q.den, ?_,by rw[bKJ,bMR];exact bLA i A⟩
   simp only[Rat.natCast_mul,Rat.intCast_mul,Rat.intCast_natCast,←g]
   grind
section
variable {m:Nat}
theorem bGl(z:Int):tX (decide (z<0),aO z.natAbs)=tI z:=rfl
theorem bAv(z:Int):eA (decide (z<0),aO z.natAbs)=true:=by
 simp only[eA,bJI,Bool.or_eq_true,ap,kJ,true_and]
 by_cases h:z<0
 ·right
  have:=mt tA.1 (show z.natAbs≠0 by omega)
  exact bKz.2 this
 ·left;rw[ai h];rfl
theorem aPA{z:Int}(h:aX 9000000 z.natAbs):CC (VX (m+1)) 84 [tI z] (.b true):=by
 have:=aOp (m:=m) (x:=(decide (z<0),aO z.natAbs)) (by have:=h.len;show(aO z.natAbs).length<_;omega)
 rw[bAv,bGl]at this
 exact this
theorem bDv:bO PG 125 f125 [2] []=true:=by kernel_rfl
theorem bAK{q:Rat}(h:FR 9000 q):VX (m+8) 125 [tR q]=some (.b true,false):=by
 have h1:=aPA (m:=m+6) (z:=q.num) (h.1.mono (by decide))
 have h2:=aPA (m:=m+6) (z:=(q.den:Int)) (h.2.mono (by decide))
 have a:=aC4 (m:=m+6) (z:=(q.den:Int)) (h.2.mono (by decide))
 have b:=aKc (m:=m+1) (z:=q.num) (w:=(q.den:Int)) (h.1.mono (by decide)) (h.2.mono (by decide))
 have c:=aBL (m:=m+6) (z:=((1:Nat):Int))
 rw[show(q.den:Int).sign=((1:Nat):Int)from Int.sign_eq_one_of_pos (by have:=q.den_pos;omega)]at a
 rw[show Int.gcd q.num (q.den:Int)=1 from q.reduced]at b
 rw[show decide (((1:Nat):Int)=1)=true from rfl]at c
 refine bX rfl func125 bDv rfl ?_
 simp only[f125,N1,bC,bF,bH,bG,bE,zB,zG]
 simp (disch:=first|rfl|omega)only[S1,aC,aE,aM,aJ,zB,reduceCtorEq,zD,zG,zH,TQ,aQ,vJ 84 rfl,h1 _,h2 _,vJ 85 rfl,a _,vJ 87 rfl,b _,vJ 206 rfl,c _,aG3,show decide ((0:Int)<((1:Nat):Int))=true from rfl]
end
section
open Go Go.RowKit
theorem dH.ownW{Γ:aP}{st:St}{w w':bR3}(h:dQ st Γ w)(hx:Below w.heap.size w w'){b:cK}{g:Nat}{cs:Array bR4}{el:TypeId}(hg:w.heap.size<=g)(S:w'.heap[g]? =some (.cells cs el (0,0)))(hc:bW Γ b.cells (cs.toList.take b.cells.length))(E:b.cells.length<=cs.size)(he:b.exact=true->cs.size=b.cells.length):
  dH st Γ w (st.new b) (Γ.add st.nxt g cs.size) w':=by
 have hn:Γ st.nxt=none:=h.fresh _ (bJE _)
 have z:aP.le Γ (Γ.add st.nxt g cs.size):=aP.add_le hn _ _
 have g':g<w'.heap.size:=by
  rcases Nat.lt_or_ge g w'.heap.size with h1|h1
  ·exact h1
  ·rw[Array.getElem?_eq_none h1]at S;cases S
 have C:(st.new b).nxt.nat=st.nxt.nat+1:=Id.nat_succ _
 refine⟨⟨?_, ?_, ?_, ?_,h.glob.mono z,h.flo⟩,z,rfl,fun id G=>aP.add_ne _ (fun e=>by rw[e]at G;omega) _ _,hx.os,hx.tape,hx.output,hx.size,rfl,rfl,by rw[C];omega, ?_, ?_, ?_⟩
 ·intro id c H
  by_cases e:id=st.nxt
  ·subst e
   obtain rfl:=St.new_look_self H
   exact⟨g,cs.size,aP.add_self _ _ _ _,g',.thw (.of S rfl E (hc.mono z) he)⟩
  ·obtain⟨p,s,t,D,T⟩:=h.blk id c (St.new_look H e)
   exact⟨p,s,z _ _ t,bJK D hx.size,by rw[hx.block p D];exact T.mono z⟩
 ·intro id O c c' p s s' H Q h' t B
  by_cases e:id=st.nxt
  ·by_cases U:O=st.nxt
   ·rw[e,U]
   ·subst e
    rw[aP.add_self]at t;injection t with t;injection t with i' i
    rw[aP.add_ne _ U]at B
    obtain⟨Y,s2,i,D,_⟩:=h.blk O c' (St.new_look Q U)
    rw[B]at i;injection i with i;injection i with i _;omega
  ·rw[aP.add_ne _ e]at t
   by_cases U:O=st.nxt
   ·subst U
    rw[aP.add_self]at B;injection B with B;injection B with i' i
    obtain⟨Y,s2,i,D,_⟩:=h.blk id c (St.new_look H e)
    rw[t]at i;injection i with i;injection i with i _;omega
   ·rw[aP.add_ne _ U]at B
    exact h.inj id O c c' p s s' (St.new_look H e) (St.new_look Q U) h' t B
 ·intro id G
  rw[C]at G
  have:id≠st.nxt:=fun e=>by rw[e]at G;omega
  rw[aP.add_ne _ this];exact h.fresh id (by omega)
 ·intro id G
  rw[C]at G
  exact(Tr.put_other _ _ _ _ (fun e=>by rw[←e]at G;omega)).trans (h.top id (by omega))
 ·intro q hq _
  exact hx.block q hq
 ·intro q id c s hq H hr t
  by_cases e:id=st.nxt
  ·subst e;rw[aP.add_self]at t;injection t with t;injection t with t _;omega
  ·rw[aP.add_ne _ e]at t;exact⟨id,c,s,St.new_look H e,hr,t⟩
 ·intro id G _
  exact Tr.put_other _ _ _ _ (fun e=>by rw[←e]at G;omega)
def aCH(sz:Nat)(st:St)(a:AV):Option (List AV):=match a with
 | .sl id off len _ I=>match Tr.find id st.heap with
  |some b=>if (Nat.beq I sz&&aBg st id&& !mS b.cells&&Nat.ble (off+len*sz) b.cells.length&&Nat.ble 1 len&&Nat.ble len 1000000)=true then some ((b.cells.drop off).take (len*sz))else none
  |none=>none
 |_=>none
def aBi(sz:Nat):List AV->St->KS->OR:=fun args st k=>match args with
 | [a]=>match aCH 1 st a with
  | some [x,y]=>match aCH sz st x with
   |some c=>match aCH sz st y with
    |some d=>if (jG c&&jG d)=true then k (.sl st.nxt 0 ((c.length+d.length)/sz) none sz) (st.new ⟨c++d,false⟩)else none
    |none=>none
   |none=>none
  |_=>none
 |_=>none
structure aHb(w:bR3)(sz:Nat)(A:Addr)(n c:Nat)(xs:List bR4):Prop where
 pos:0<n
 cap:n<=c
 lim:n<=1000000
 len:xs.length=n*sz
 cells:∀j u,xs[j]? =some u->w.cell? (A.add j)=some u
 lt:A.block<w.heap.size
def aUy(P:bR8)(f:bR9)(sz:Nat):Prop:=∀(w:bR3) (p0 o0 p1 o1 Y o2 c0 n m c d:Nat) (xs ys:List bR4),aHb w 1 ⟨p0,o0,none⟩ 2 c0 [.slice (some ⟨p1,o1,none⟩) n c,.slice (some ⟨Y,o2,none⟩) m d]->aHb w sz ⟨p1,o1,none⟩ n c xs->aHb w sz ⟨Y,o2,none⟩ m d ys->
 (∀u∈xs,u.oneCell'=true)->(∀u∈ys,u.oneCell'=true)->
 Calls P f #[.slice (some ⟨p0,o0,none⟩) 2 c0] w fun e w'=>Below w.heap.size w w'/\∃g cap cs el,w.heap.size<=g/\w'.heap[g]? =some (.cells cs el (0,0))/\cs.toList.take ((n+m)*sz)=xs++ys/\n+m<=cap/\cap*sz=cs.size/\e= .returned (.slice (some ⟨g,0,none⟩) (n+m) cap)
theorem aHX{sz:Nat}{st:St}{Γ:aP}{w:bR3}(hs:dQ st Γ w){a:AV}{v:bR4}{l:List AV}(h:aCH sz st a=some l)(q:CR Γ a v):∃p o n c xs,v= .slice (some ⟨p,o,none⟩) n c/\aHb w sz ⟨p,o,none⟩ n c xs/\bW Γ l xs:=by
 unfold aCH at h
 split at h
 ·next id off len cap I=>
  cases q with
  | sl hΓ j' J hsz=>
   rename_i p s c
   split at h
   ·next b T=>
    split at h
    ·next hc=>
     simp only[bJI,Bool.not_eq_true']at hc
     obtain⟨⟨⟨⟨⟨c0,c1⟩,c2⟩,c3⟩,c4⟩,c5⟩:=hc
     obtain rfl:=bJY c0
     cases h
     obtain⟨p',s',g1,g2,cs,el,g3,rfl,g5,g6,_⟩:=hs.blkc id b ⟨⟨aBM.1 c1,T⟩,c2⟩
     rw[hΓ]at g1
     cases g1
     have z:=bJP c3
     have g7:=(g6.drop off).take (len*I)
     have e:((cs.toList.take b.cells.length).drop off).take (len*I)=(cs.toList.drop off).take (len*I):=by
      rw[List.drop_take,List.take_take,Nat.min_eq_left (by omega)]
     rw[e]at g7
     refine⟨_,_,_,_,_,rfl,⟨bJP c4,j',bJP c5, ?_,fun j u hj=> ?_,g2⟩,g7⟩
     ·rw[bJO,bK3,bLC];omega
     ·rw[pL,yI g3]
      rw[List.getElem?_take]at hj
      split at hj
      ·rw[List.getElem?_drop]at hj
       simpa using hj
      ·cases hj
    ·cases h
   ·cases h
 ·cases h
theorem bEu{P:bR8}{f:bR9}{sz:Nat}(Z:0<sz)(h:aUy P f sz):aAR P f (aBi sz):=fun {args st k r Γ w vs} q hs hc=>by
 unfold aBi at q
 split at q
 ·next a=>
  obtain⟨va,rfl,k'⟩:=hc.inv1
  split at q
  ·next x y hr=>
   obtain⟨p0,o0,n0,c0,xs0,rfl,r1,m'⟩:=aHX hs hr k'
   obtain⟨vx,vy,rfl,hx,hy⟩:=m'.inv2
   split at q
   ·next c n'=>
    split at q
    ·next d o'=>
     split at q
     ·next S=>
      rw[bJI]at S
      obtain⟨p1,o1,n,cA,xs,rfl,r2,V⟩:=aHX hs n' hx
      obtain⟨Y,o2,m,cB,ys,rfl,r3,W⟩:=aHX hs o' hy
      have q':n0=2:=by have:=r1.len;simp at this;omega
      subst q'
      intro K hK
      refine Calls.mono (h w p0 o0 p1 o1 Y o2 c0 n m cA cB xs ys r1 r2 r3 (aD5 V S.1) (aD5 W S.2)) ?_
      rintro e w' ⟨T,g,cap,cs,el,hg,hw,r',J,hsz,rfl⟩
      have R:c.length=n*sz:=V.length.trans r2.len
      have a':d.length=m*sz:=W.length.trans r3.len
      have b':(c++d).length=(n+m)*sz:=by rw[bJW,R,a',Nat.add_mul]
      have z:(n+m)*sz<=cs.size:=by rw[←hsz];exact Nat.mul_le_mul_right _ J
      have t':=dH.ownW hs T (b:=⟨c++d,false⟩) hg hw (by rw[b',r'];exact V.app W) (by show(c++d).length<=_;rw[b'];exact z) (fun e=>by cases e)
      refine hK _ _ _ _ _ q t' ?_
      have e1:(c.length+d.length)/sz=n+m:=by rw[R,a',←Nat.add_mul,Nat.mul_div_cancel _ Z]
      rw[e1]
      exact .sl (p:=g) (s:=cs.size) (aP.add_self _ _ _ _) J (fun k hk=>by cases hk) (by omega)
     ·cases q
    ·cases q
   ·cases q
  ·cases q
 ·cases q
theorem aIr{sz:Nat}{st:St}{F:Id->Prop}(hv:∀id,F id->st.vis id)(Z:0<sz){a:AV}{cs:List TV}(q:TR st.heap eF eI F a (.im sz cs))(h0:0<cs.length)(h1:cs.length<=1000000):∃l,aCH sz st a=some l/\bM st.heap eF eI F l cs:=by
 cases q with
 |imv=>cases h0
 |imse=>cases h0
 | im hF hf H hc=>
  rename_i id off len cap blk
  have E:=hc.length
  rw[bJO,bK3]at E
  have t:1<=len:=by
   cases len with
   |zero=>omega
   |succ n=>omega
  have hm:len*1<=len*sz:=bK5 _ Z
  refine⟨(blk.cells.drop off).take (len*sz), ?_,hc⟩
  show(match Tr.find id st.heap with
   |some b=>if (Nat.beq sz sz&&aBg st id&& !mS b.cells&&Nat.ble (off+len*sz) b.cells.length&&Nat.ble 1 len&&Nat.ble len 1000000)=true then some ((b.cells.drop off).take (len*sz))else none
   |none=>none)=_
  rw[hf.hf]
  simp only
  rw[if_pos (by rw[aBM.2 (hv _ hF),hf.nm,bKX H,bKX t,bKX (show len<=1000000 by omega),Nat.beq_refl];rfl)]
theorem aZI{P:bR8}{pr:cN}{f:bR9}{sz:Nat}(Z:0<sz)(t:pr f=some (aBi sz)){c d:List TV}(hc:0<c.length)(hd:0<d.length)(u':c.length%sz=0)(v':d.length%sz=0)(x':c.length<=1000000)(y':d.length<=1000000)(z':iO c=true)(a0:iO d=true):
  jT P pr f [.im 1 [.im sz c,.im sz d]] (.im sz (c++d)) false:=by
 intro st aS F X hT D L a6 a4 a5
 cases hT with
 |cons ha a2=>
 rename_i a as'
 cases a2
 obtain⟨l,r1,H⟩:=aIr L (by omega) ha (by simp) (by simp)
 cases H with
 |cons hx Q=>
 rename_i x l'
 cases Q with
 |cons hy d'=>
 rename_i y l''
 cases d'
 obtain⟨cc,r2,M⟩:=aIr L Z hx hc x'
 obtain⟨dd,r3,N⟩:=aIr L Z hy hd y'
 have T:dI (c++d)=true:=by
  simp only[pQ,oP,cI,dI,bJI,bKD]at X
  rw[aHP,X.1,X.2];rfl
 have R:(cc++dd).length=c.length+d.length:=by rw[bJW,M.length,N.length]
 have a3:Sb st.heap eF eI F (st.new ⟨cc++dd,false⟩).heap eF eI (fun id=>F id\/id=st.nxt):=⟨fun id hF=>vM st _ (D id hF),fun _ h=> .inl h,fun _ h=>h,fun _ _=>rfl⟩
 have f':(c.length+d.length)/sz*sz=c.length+d.length:=Nat.div_mul_cancel (Nat.dvd_of_mod_eq_zero (by rw[Nat.add_mod,u',v'];simp))
 refine⟨.sl st.nxt 0 ((cc.length+dd.length)/sz) none sz,st.new ⟨cc++dd,false⟩,fun id=>F id\/id=st.nxt,⟨?_, ?_,fun _ h=> .inl h,fun id h=>h.imp (fun h=>h) fun e=> ?_,fun id G=>vM st _ G,rfl,rfl, ?_,fun h=>by cases h⟩,0,fun n _ k=> ?_⟩
 ·rw[M.length,N.length]
  refine .im (blk:=⟨cc++dd,false⟩) (.inr rfl) ⟨Tr.put_same _ _ _,(M.app N).nm⟩ (by show _<=(cc++dd).length;omega) ?_
  rw[f',←R]
  simp only[bJV,bKp]
  exact bM.mono a3 (M.app N)
 ·simpa only[cI]using T
 ·rw[e];exact⟨bJE _,by rw[mE];exact bJT _⟩
 ·rw[mE];exact Nat.le_succ _
 show(Option.rec (motive:=fun _=>IH->List AV->St->KS->OR) (wY P (P.funcs[f]?)) (fun p _=>p) (pr f)) _ [a] st k=_
 rw[t]
 show aBi sz [a] st k=_
 unfold aBi
 simp only[r1,r2,r3]
 rw[if_pos (by rw[vO M z',vO N a0];rfl)]
end
end Ev
section
open Go Go.RowKit
theorem aNa{a X b:bR3}{row:Option Nat}(c:X.grownBy b row)(h:bY a X)(d:∀r,row=some r->a.heap.size<=r):bY a b:=Below.grown h c h.size d
def qF{α:Type}(row:Option Nat)(R:bR3->List bR4->α->Prop)(w:bR3)(ds:List bR4)(x:α):Prop:=∀w',w.grownBy w' row->R w' ds x
section
variable {α:Type}{T sz:Nat}{R:bR3->List bR4->α->Prop}{base:Nat}{w w':bR3}{v:bR4}{l:List α}
section
variable {α:Type}{T sz:Nat}{R:bR3->List bR4->α->Prop}{base:Nat}{w w':bR3}{v:bR4}{l:List α}
end
end
section
variable {P:bR8}
end
end
section
open Go Go.RowKit
theorem bEl:(prog.info? 78).map (fun i=>(i.zero,i.size,i.bytes))=some (some (.agg #[.bool false,.slice none 0 0,.bool false,.slice none 0 0]),4,64):=by kernel_rfl
theorem aPZ:∃i,prog.info? 78=some i/\i.zero=some (.agg #[.bool false,.slice none 0 0,.bool false,.slice none 0 0])/\i.size=4/\i.bytes=64:=by
 have h:=bEl
 cases hi:prog.info? 78 with
 |none=>rw[hi]at h;cases h
 |some i=>
  rw[hi]at h
  simp only[bKe,bo,Prod.mk.injEq]at h
  exact⟨i,rfl,h.1,h.2.1,h.2.2⟩
set_option maxHeartbeats 2000000 in
theorem bB0{n:Nat}(h0:0<n)(hn:n<=2000000){w:bR3}:Calls prog 296 #[.slice none 0 0,.int .i64 (n:Int)] w fun e w'=>
  ∃cap dE,e= .returned (.slice (some ⟨w.heap.size,0,none⟩) 0 cap)/\w'=w.drew.alloc (.cells dE 78)/\cap<=maxLen/\dE.size=cap*4:=by
 obtain⟨i,hi,hz,hs,hb⟩:=aPZ
 have hr:∀ty,(Builtin.append_ #[35,3] ty #[.slice none 0 0,.int .i64 (n:Int)]).run prog w=_:=fun ty=>Lib.run_append_nil_zeros w 35 3 ty 78 i _ .i64 .i64 underlying35 underlying3 hi hz n h0 (by omega) (by omega) (by rw[hb];omega)
 have hGn:n<=grownCap w n 0 78:=grownCap_ge w _ _ _
 have hG63:=grownCap_le_maxLen w n 0 78 (by unfold maxLen;omega)
 generalize hG:grownCap w n 0 78=G at*
 have hsize:(Builtin.zeroCells (Value.agg #[.bool false,.slice none 0 0,.bool false,.slice none 0 0]).cells n++Builtin.zeroCells (Value.agg #[.bool false,.slice none 0 0,.bool false,.slice none 0 0]).cells (G-n)).size=G*4:=by
  rw[Array.size_append,size_zeroCells,size_zeroCells]
  show n*4+(G-n)*4=G*4
  omega
 generalize (Builtin.zeroCells (Value.agg #[.bool false,.slice none 0 0,.bool false,.slice none 0 0]).cells n++Builtin.zeroCells (Value.agg #[.bool false,.slice none 0 0,.bool false,.slice none 0 0]).cells (G-n))=dE at*
 have HS:=br hsize
 have HM:=br hG63
 have hG63':G<=9223372036854775807:=by unfold maxLen at hG63;omega
 clear hsize hG63 hG hi hz hs hb
 go_enter func296,ntmps296
 go_wp2_with (at_builtin;refine dm _ rfl _ _ _ _ rfl _ _ rfl rfl _ _ (hr _) ?_)
 go_ret
 exact⟨G,dE,rfl,rfl,HM.out,HS.out⟩
def rL(n m:Nat):Nat->Nat
 |0=>0
 |1=>n
 |_=>n+m
def bJ2(xs ys:List bR4):Nat->List bR4
 |0=>[]
 |1=>xs
 |_=>xs++ys
set_option maxHeartbeats 4000000 in
theorem aW8{p0 o0 p1 o1 p2 o2 c0 n m c d:Nat}{xs ys:List bR4}{w:bR3}(hn:0<n)(hm:0<m)(hn1:n<=1000000)(hm1:m<=1000000)(_:2<=c0)(_:n<=c)(_:m<=d)
  (h0:w.cell? ⟨p0,o0,none⟩=some (.slice (some ⟨p1,o1,none⟩) n c)) (h1:w.cell? ⟨p0,o0+1,none⟩=some (.slice (some ⟨p2,o2,none⟩) m d)) (l0:p0<w.heap.size) (l1:p1<w.heap.size) (l2:p2<w.heap.size)
  (hx:xs.length=n*4) (hy:ys.length=m*4) (hxc:∀j u,xs[j]? =some u->w.cell? (Addr.add ⟨p1,o1,none⟩ j)=some u) (hyc:∀j u,ys[j]? =some u->w.cell? (Addr.add ⟨p2,o2,none⟩ j)=some u) (hxo:∀u∈xs,u.oneCell'=true) (hyo:∀u∈ys,u.oneCell'=true):
  Calls prog 264 #[.slice (some ⟨p0,o0,none⟩) 2 c0] w fun e w'=>Below w.heap.size w w'/\∃g cap,e= .returned (.slice (some ⟨g,0,none⟩) (n+m) cap)/\w'.ownsRow w.heap.size 78 4 (.slice (some ⟨g,0,none⟩) (n+m) cap) (n+m) (xs++ys):=by
 obtain⟨i,hi,hz,hs,hb⟩:=aPZ
 have HA1:=br (fun(wr:bR3) (g cap:Nat) (hbw:Below w.heap.size w wr) (ho:wr.ownsRow w.heap.size 78 4 (.slice (some ⟨g,0,none⟩) 0 cap) 0 [])=>
  run_append_lies (P:=prog) wr 35 35 w.heap.size 78 i _ 4 64 underlying35 hi hz hs hb rfl (by decide) _ 0 [] ho ⟨p1,o1,none⟩ n c xs hx (fun j u hj=>by
   have:=hxc j u hj
   rw[Addr.add_lit]at this ⊢
   exact(hbw.cell (p:=⟨p1,o1+j,none⟩) l1).trans this) hxo hn (by unfold maxLen;omega) (by omega) hbw.size wr.heap.size rfl)
 have HA2:=br (fun(wr:bR3) (g cap:Nat) (hbw:Below w.heap.size w wr) (ho:wr.ownsRow w.heap.size 78 4 (.slice (some ⟨g,0,none⟩) n cap) n xs)=>
  run_append_lies (P:=prog) wr 35 35 w.heap.size 78 i _ 4 64 underlying35 hi hz hs hb rfl (by decide) _ n xs ho ⟨p2,o2,none⟩ m d ys hy (fun j u hj=>by
   have:=hyc j u hj
   rw[Addr.add_lit]at this ⊢
   exact(hbw.cell (p:=⟨p2,o2+j,none⟩) l2).trans this) hyo hm (by unfold maxLen;omega) (by omega) hbw.size wr.heap.size rfl)
 have HG:=br (bB0 (n:=n+m) (by omega) (by omega) (w:=w))
 clear hi hz hs hb hx hy hxc hyc hxo hyo
 go_enter func264,ntmps264
 go_wp2_with fail
 go_loopg [3,11] 2 (fun gk s i wr=>∃j:Nat,j+gk=2/\i= .int .i64 (j:Int)/\s= .int .i64 ((rL n m j:Nat):Int)/\wr=w)
 case atStart=>exact⟨0,rfl,rfl,rfl,rfl⟩
 case round=>
  obtain⟨j,hj,rfl,rfl,hwr⟩:=hrel
  have hwr':=hwr.symm
  clear hwr
  subst hwr'
  obtain rfl|rfl|rfl:j=0\/j=1\/j=2:=by omega
  ·simp only[rL]
   go_wp2_with fail
   go_roundg 1
   case measure=>omega
   case rel=>exact⟨1,rfl,rfl,by simp [rL],rfl⟩
  ·simp only[rL]
   go_wp2_with fail
   go_roundg 0
   case measure=>omega
   case rel=>exact⟨2,rfl,rfl,by simp [rL],rfl⟩
  ·simp only[rL]
   go_wp2_with fail
   refine HG.out.mono ?_
   rintro e w1 ⟨cap,dE,rfl,hw1,hcm,hcs⟩
   have hb1:Below w.heap.size w w1:=by rw[hw1];exact(bY.drew w).palloc _
   have hown:w1.ownsRow w.heap.size 78 4 (.slice (some ⟨w.heap.size,0,none⟩) 0 cap) 0 []:=⟨rfl,.inr ⟨w.heap.size,cap,dE,rfl,bJE _,by rw[hw1];exact Below.heap_new w.drew (.cells dE 78),bJJ _,hcm,hcs,by simp⟩⟩
   have HB1:=br hb1
   have HO:=br hown
   clear hw1 hcm hcs hb1 hown HG
   go_wp2_with fail
   go_loopg [6,27] 2 (fun gk v i wr=>∃j:Nat,j+gk=2/\i= .int .i64 (j:Int)/\∃g cap,v= .slice (some ⟨g,0,none⟩) (rL n m j) cap/\Hid (Below w.heap.size w wr)/\Hid (wr.ownsRow w.heap.size 78 4 (.slice (some ⟨g,0,none⟩) (rL n m j) cap) (rL n m j) (bJ2 xs ys j)))
   case atStart=>exact⟨0,rfl,rfl,w.heap.size,cap,rfl,HB1,HO⟩
   case round=>
    clear HB1 HO
    obtain⟨j,hj,rfl,g,cp,rfl,HB,HO⟩:=hrel
    have q0:=(HB.out.cell (p:=⟨p0,o0,none⟩) l0).trans h0
    have q1:=(HB.out.cell (p:=⟨p0,o0+1,none⟩) l0).trans h1
    obtain rfl|rfl|rfl:j=0\/j=1\/j=2:=by omega
    ·obtain⟨g',cp',w',hr,ho,hg,hat, -⟩:=HA1.out wr g cp HB.out HO.out
     have hb':Below w.heap.size w w':=aNa hg HB.out (fun r hr=>by obtain⟨h1,_⟩:=HO.out.lt r hr;exact h1)
     have HB':=br hb'
     have HO':=br ho
     clear ho hg hat hb'
     simp only[rL,Nat.zero_add]at*
     go_wp2_with (at_builtin;refine dm _ rfl _ _ _ _ rfl _ _ rfl rfl _ _ hr ?_)
     go_roundg 1
     case measure=>omega
     case rel=>exact⟨1,rfl,rfl,g',cp',rfl,HB',HO'⟩
    ·obtain⟨g',cp',w',hr,ho,hg,hat, -⟩:=HA2.out wr g cp HB.out HO.out
     have hb':Below w.heap.size w w':=aNa hg HB.out (fun r hr=>by obtain⟨h1,_⟩:=HO.out.lt r hr;exact h1)
     have HB':=br hb'
     have HO':=br ho
     clear ho hg hat hb'
     simp only[rL]at*
     go_wp2_with (at_builtin;refine dm _ rfl _ _ _ _ rfl _ _ rfl rfl _ _ hr ?_)
     go_roundg 0
     case measure=>omega
     case rel=>exact⟨2,rfl,rfl,g',cp',rfl,HB',HO'⟩
    ·simp only[rL]at*
     go_wp2_with fail
     go_ret
     exact⟨HB.out,g,cp,rfl,HO.out⟩
end
namespace Ev
section
theorem xz{n:Nat}{f:bR9}{args:List TV}{r:TV×Bool}(h:VX n f args=some r):VZ n f args=some r:=yz _ _ _ _ (xy _ _ _ _ h)
structure CZ where
 f:bR9
 o:List TV->Option TV
 ok:∀args R,o args=some R->∃n,VZ n f args=some (R,false)
def o1Q(g:Rat->Option TV):List TV->Option TV
 | [a]=>(aBb a).bind g
 |_=>none
def o2Q(g:Rat->Rat->Option TV):List TV->Option TV
 | [a,b]=>(aBb a).bind fun x=>(aBb b).bind (g x)
 |_=>none
def o1I(g:Int->Option TV):List TV->Option TV
 | [a]=>(aEs a).bind g
 |_=>none
def o2I(g:Int->Int->Option TV):List TV->Option TV
 | [a,b]=>(aEs a).bind fun x=>(aEs b).bind (g x)
 |_=>none
def oZ(g:Int->Option TV):List TV->Option TV
 | [.int .i64 z]=>if-9223372036854775808<=z/\z<9223372036854775808 then g z else none
 |_=>none
section
variable {f:bR9}
theorem aKy{g:Rat->Option TV}(h:∀q R,FR 100 q->g q=some R->∃n,VZ n f [tR q]=some (R,false)):∀args R,o1Q g args=some R->∃n,VZ n f args=some (R,false):=fun args R e=>by
 unfold o1Q at e
 split at e
 ·simp only[bJF]at e
  obtain⟨q,j,v⟩:=e
  obtain⟨rfl,hf⟩:=aDA j
  exact h q R hf v
 ·cases e
theorem aDZ{g:Rat->Rat->Option TV}(h:∀q r R,FR 100 q->FR 100 r->g q r=some R->∃n,VZ n f [tR q,tR r]=some (R,false)):∀args R,o2Q g args=some R->∃n,VZ n f args=some (R,false):=fun args R e=>by
 unfold o2Q at e
 split at e
 ·simp only[bJF]at e
  obtain⟨q,j,r,v,A⟩:=e
  obtain⟨rfl,hf⟩:=aDA j
  obtain⟨rfl,I⟩:=aDA v
  exact h q r R hf I A
 ·cases e
theorem bGr{g:Int->Option TV}(h:∀q R,aX 100 q.natAbs->g q=some R->∃n,VZ n f [tI q]=some (R,false)):∀args R,o1I g args=some R->∃n,VZ n f args=some (R,false):=fun args R e=>by
 unfold o1I at e
 split at e
 ·simp only[bJF]at e
  obtain⟨q,j,v⟩:=e
  obtain⟨rfl,hf⟩:=aJN j
  exact h q R hf v
 ·cases e
theorem aCk{g:Int->Int->Option TV}(h:∀q r R,aX 100 q.natAbs->aX 100 r.natAbs->g q r=some R->∃n,VZ n f [tI q,tI r]=some (R,false)):∀args R,o2I g args=some R->∃n,VZ n f args=some (R,false):=fun args R e=>by
 unfold o2I at e
 split at e
 ·simp only[bJF]at e
  obtain⟨q,j,r,v,A⟩:=e
  obtain⟨rfl,hf⟩:=aJN j
  obtain⟨rfl,I⟩:=aJN v
  exact h q r R hf I A
 ·cases e
theorem aU7{g:Int->Option TV}(h:∀z R, -9223372036854775808<=z->z<9223372036854775808->g z=some R->∃n,VZ n f [.int .i64 z]=some (R,false)):∀args R,oZ g args=some R->∃n,VZ n f args=some (R,false):=fun args R e=>by
 unfold oZ at e
 split at e
 ·split at e
  ·next hh=>exact h _ R hh.1 hh.2 e
  ·cases e
 ·cases e
end
theorem FR.up{q:Rat}(h:FR 100 q){k:Nat}(K:100<=k):FR k q:=h.mono K
def bAX:CZ:=⟨86,oZ wV,aU7 fun z R h1 h2 e=>⟨0+3,by rw[aAB e];exact xz (aMB h1 h2)⟩⟩
def bJn:CZ:=⟨275,o1I fun z=>wV (-z),bGr fun z R h e=>⟨0+3,by rw[aAB e];exact xz (aSC (h.mono (by decide)))⟩⟩
def bJt:CZ:=⟨136,o2I fun z w=>wV (z*w),aCk fun z w R h h' e=>⟨0+3,by rw[aAB e];exact xz (aSn (h.mono (by decide)) (h'.mono (by decide)))⟩⟩
def bIX:CZ:=⟨270,o2I fun z w=>wV (z+w),aCk fun z w R h h' e=>⟨0+4,by rw[aAB e];exact xz (aSA (h.mono (by decide)) (h'.mono (by decide)))⟩⟩
def bJj:CZ:=⟨88,o2I fun z w=>some (.int .i64 (z-w).sign),aCk fun z w R h h' e=>⟨0+4,by cases e;exact xz (aT9 (h.mono (by decide)) (h'.mono (by decide)))⟩⟩
def bJ3:CZ:=⟨87,o2I fun z w=>wV (Int.gcd z w:Nat),aCk fun z w R h h' e=>⟨0+6,by rw[aAB e];exact xz (aSg (h.mono (by decide)) (h'.mono (by decide)))⟩⟩
def bDh:CZ:=⟨135,o2I fun z w=>if w=0 then none else(wV (z.fdiv w)).bind fun a=>(wV (z.fmod w)).map fun b=> .tp [a,b,.int .i64 ((0:Nat):Int)],aCk fun z w R h h' e=>⟨0+6,by
 split at e
 ·cases e
 ·next F=>
  simp only[bJF,bJG]at e
  obtain⟨a,h1,b,h2,rfl⟩:=e
  rw[aAB h1,aAB h2]
  exact xz (aO0 (h.mono (by decide)) (h'.mono (by decide)) F)⟩⟩
def bBA:CZ:=⟨43,oZ fun z=>wQ (z:Rat),aU7 fun z R h1 h2 e=>⟨0+5,by rw[aAC e];exact xz (aI1 h1 h2)⟩⟩
def bIG:CZ:=⟨139,o1Q fun q=>some (.int .i64 (gB q)),aKy fun q R h e=>⟨0+2,by cases e;exact xz (aQU (h.up (by decide)))⟩⟩
def bGz:CZ:=⟨125,o1Q fun _=>some (.b true),aKy fun q R h e=>⟨0+8,by cases e;exact xz (bAK (h.up (by decide)))⟩⟩
def bJ4:CZ:=⟨211,o1Q fun q=>wQ (-q),aKy fun q R h e=>⟨0+4,by rw[aAC e];exact xz (aRW (h.up (by decide)))⟩⟩
def bJq:CZ:=⟨55,o2Q fun q r=>some (.int .i64 (gB (q-r))),aDZ fun q r R h h' e=>⟨0+5,by cases e;exact xz (aSk (h.up (by decide)) (h'.up (by decide)))⟩⟩
def bIZ:CZ:=⟨200,o2Q fun q r=>wQ (q+r),aDZ fun q r R h h' e=>⟨0+9,by rw[aAC e];exact xz (aKE (h.up (by decide)) (h'.up (by decide)))⟩⟩
def bJs:CZ:=⟨143,o2Q fun q r=>wQ (q-r),aDZ fun q r R h h' e=>⟨0+10,by rw[aAC e];exact xz (aRX (h.up (by decide)) (h'.up (by decide)))⟩⟩
def bJo:CZ:=⟨142,o2Q fun q r=>wQ (q*r),aDZ fun q r R h h' e=>⟨0+9,by rw[aAC e];exact xz (aKu (h.up (by decide)) (h'.up (by decide)))⟩⟩
def bJ8:CZ:=⟨202,o2Q fun q r=>if r=0 then none else(wQ (q/r)).map fun a=> .tp [a,.int .i64 ((0:Nat):Int)],aDZ fun q r R h h' e=>⟨0+9,by
 split at e
 ·cases e
 ·next F=>
  simp only[bJG]at e
  obtain⟨a,h1,rfl⟩:=e
  rw[aAC h1]
  exact xz (aTM (h.up (by decide)) (h'.up (by decide)) F)⟩⟩
def bIf:CZ:=⟨181,o2I fun z w=>if w=0 then none else(wQ (Rat.divInt z w)).map fun a=> .tp [a,.int .i64 ((0:Nat):Int)],aCk fun z w R h h' e=>⟨0+9,by
 split at e
 ·cases e
 ·next F=>
  simp only[bJG]at e
  obtain⟨a,h1,rfl⟩:=e
  rw[aAC h1]
  exact xz (aQm (h.mono (by decide)) (h'.mono (by decide)) F)⟩⟩
theorem bIU(n:Nat):(4294967296:Nat)^n=2^(32*n):=by rw[show(4294967296:Nat)=2^32 from rfl,←Nat.pow_mul]
theorem aSp{q:Rat}(h:FR 100 q):q.den<2^3200/\q.num.natAbs<2^3200:=by
 obtain⟨h1,h2⟩:=h
 have e:=bIU 100
 rw[show 32*100=3200 from rfl]at e
 unfold aX at h1 h2
 rw[e]at h1 h2
 exact⟨h2,h1⟩
def aL5:List TV->Option TV
 | [a,b]=>(aL6 a).bind fun C=>(aBb b).bind fun x=>if C.length<=30/\C.all (fun p=>decide (p.length<=20))=true then some (.int .i64 (gO C x:Nat))else none
 |_=>none
theorem bHE{C:List (List Rat)}{x:Rat}(h:pR C x):VY 1 130 [tC C,tR x]=some (.int .i64 (gO C x:Nat),false):=by
 have i:qH 130 [tC C,tR x]=some (.int .i64 (gO C x:Nat),false):=aT3 h
 show(match qH _ _ with |some r=>some r|none=>_)=_
 rw[i]
theorem bG8:∀args R,aL5 args=some R->∃n,VZ n 130 args=some (R,false):=fun args R e=>by
 unfold aL5 at e
 split at e
 ·simp only[bJF]at e
  obtain⟨C,j,x,v,A⟩:=e
  split at A
  ·next hc=>
   cases A
   obtain⟨rfl,hf⟩:=bEi j
   obtain⟨rfl,hx⟩:=aDA v
   refine⟨1,yz _ _ _ _ (bHE ⟨3200,by omega,fun p i=> ?_,aSp hx,by decide⟩)⟩
   have G:p.length<=20:=ae (bKq.1 hc.2 p i)
   refine⟨(aTY p fun q hq=>aSp (hf p i q hq)).mono ?_,by omega, ?_⟩
   ·have:=bK5 3200 (show p.length+1<=21 by omega)
    omega
   ·have:=bK5 3201 G
    omega
  ·cases A
 ·cases e
def bJf:CZ:=⟨130,aL5,bG8⟩
structure vB(pr:cN):Prop where
 pv:aCE PG pr mY
 u:pr 178=some (mK wG)
 np:∀f,pr f≠none->bZ.prim f=true
 cat:pr 264=some (aBi 4)
theorem vB.no{pr:cN}(h:vB pr){f:bR9}(hf:bZ.prim f=false):pr f=none:=by
 cases i:pr f with
 |none=>rfl
 |some p=>have:=h.np f (by rw[i];exact fun h=>by cases h);rw[hf]at this;cases this
theorem aSD:∀f,bZ f=true->bZ.prim f=false:=fun f h=>by
 have:=bKL.1 (show aEo.elem f=true from h)
 simp only[aEo,bJZ,bLj,or_false]at this
 rcases this with rfl|rfl|rfl|rfl|rfl|rfl|rfl<;>rfl
def pr3:cN:=fun f=>bif Nat.beq f 264 then some (aBi 4)else rO f
theorem aKo{f:bR9}(h:f≠264):pr3 f=rO f:=by
 unfold pr3
 cases B:Nat.beq f 264 with
 |true=>exact absurd (bJY B) h
 |false=>rfl
theorem bGb:aUy PG 264 4:=fun w U V W X Y Z c0 n m c d xs ys H D E hx L=>
 Calls.mono (aW8 D.pos E.pos D.lim E.lim H.cap D.cap E.cap (H.cells 0 _ rfl) (by have:=H.cells 1 _ rfl;rwa [pL]at this) H.lt D.lt E.lt D.len E.len D.cells E.cells hx L) (by
  rintro e w' ⟨B,g,cap,rfl,h1,h2⟩
  rcases h2 with ⟨h2, -⟩|⟨g',cap',dE,h2,M,N,O,h6,P,S⟩
  ·cases h2
  ·cases h2
   exact⟨B,g,cap,dE,_,M,N,S,O,P.symm,rfl⟩)
theorem bGJ:lH PG pr3:=fun f p h=>by
 by_cases hf:f=264
 ·subst hf
  cases h
  exact⟨⟨_,(by kernel_rfl:PG.funcs[264]? =some f264),fun h=>by cases h⟩,bEu (by decide) bGb⟩
 ·rw[aKo hf]at h;exact aSy f p h
theorem aKO:vB pr3:=⟨fun f vs R own h=>by
 unfold mY at h
 split at h
 ·next p i=>
  refine PT.callV ?_ h
  rw[aKo (fun e=>by rw[e]at i;cases i)]
  unfold rO;rw[i]
 ·exact aRi (by kernel_rfl) (by kernel_rfl) (by kernel_rfl) (by kernel_rfl) f vs R own h,by kernel_rfl,fun f h=>by
 by_cases hf:f=264
 ·rw[hf];rfl
 ·rw[aKo hf]at h;exact aRd f h,rfl⟩
theorem aSf{pr:cN}(h:vB pr)(n:Nat):mR PG pr (VZ n):=aBV h.pv (fun _ h=>aDx h) (fun f hf=>h.no (aSD f hf)) h.np n
structure CE where
 f:bR9
 o:List TV->Option (TV×Bool)
 ok:∀pr,vB pr->∀args R own,o args=some (R,own)->jT PG pr f args R own
def CE.ofZ(c:CZ):CE:=⟨c.f,fun a=>(c.o a).map (·,false),fun pr h args R own e=>by
 rw[bJG]at e
 obtain⟨Q,h1,h2⟩:=e
 cases h2
 obtain⟨n,hn⟩:=c.ok args _ h1
 exact aSf h n _ _ _ _ hn⟩
def cT:List CE:=[.ofZ bJo,.ofZ bIZ,.ofZ bIG,.ofZ bGz,.ofZ bBA,.ofZ bJ4,.ofZ bJs,.ofZ bJq,.ofZ bJ8,.ofZ bIf,.ofZ bAX,.ofZ bJn,.ofZ bJt,.ofZ bIX,.ofZ bJj,.ofZ bJ3,.ofZ bDh,.ofZ bJf]
def orE(f:bR9)(args:List TV)(last:Option (TV×Bool)):List CE->Option (TV×Bool)
 | []=>last
 |e::l=>bif Nat.beq f e.f then(match e.o args with |some r=>some r|none=>orE f args last l)else orE f args last l
theorem aKa{pr:cN}(h:vB pr){f:bR9}{args:List TV}{last:Option (TV×Bool)}{R:TV}{own:Bool}(G:last=some (R,own)->jT PG pr f args R own):∀ {l:List CE},orE f args last l=some (R,own)->jT PG pr f args R own
 | [],e=>G e
 | x::l,e=>by
  unfold orE at e
  cases B:Nat.beq f x.f with
  | true=>
   rw[B]at e
   simp only[cond_true]at e
   cases J:x.o args with
   |some r=>
    rw[J]at e
    cases e
    obtain rfl:=bJY B
    exact x.ok pr h args R own J
   |none=>rw[J]at e;exact aKa h G e
  |false=>rw[B]at e;exact aKa h G e
def pvT(T:List CE):cP:=fun f args=>orE f args (xD f args) T
theorem aTA{pr:cN}(h:vB pr)(T:List CE):aCE PG pr (pvT T):=fun f vs R own e=>
 aKa h (fun e=>aKk h.u (h.no (by kernel_rfl)) (h.no (by kernel_rfl)) f vs R own e) e
mutual
def lJ:TV->TV->Bool
 | .b x,.b y=>x==y
 | .int k x,.int l y=>decide (k=l)&&decide (x=y)
 | .em,.em=>true
 | .str x,.str y=>decide (x.data.toList=y.data.toList)
 | .im s l,.im t m=>Nat.beq s t&&yX l m
 | .ag l,.ag m=>yX l m
 |_,_=>false
def yX:List TV->List TV->Bool
 | [],[]=>true
 |a::l,b::m=>lJ a b&&yX l m
 |_,_=>false
end
mutual
theorem bAS:∀ {a b:TV},lJ a b=true->a=b
 | .b x,b,h=>by cases b<;>simp only[lJ]at h<;>first|(cases h;done)|(rw[eq_of_beq h])
 | .int k x,b,h=>by cases b<;>simp only[lJ]at h<;>first|(cases h;done)|(simp only[bJI,ap]at h;rw[h.1,h.2])
 | .em,b,h=>by cases b<;>simp only[lJ]at h<;>first|(cases h;done)|rfl
 | .str x,b,h=>by
  cases b<;>simp only[lJ]at h<;>first|(cases h;done)|skip
  rename_i y
  have:=ae h
  obtain⟨⟨x⟩⟩:=x
  obtain⟨⟨y⟩⟩:=y
  cases this;rfl
 | .im s l,b,h=>by cases b<;>simp only[lJ]at h<;>first|(cases h;done)|(simp only[bJI]at h;rw[bJY h.1,aFv h.2])
 | .ag l,b,h=>by cases b<;>simp only[lJ]at h<;>first|(cases h;done)|(rw[aFv h])
 | .lit _,b,h=>by cases b<;>simp only[lJ]at h<;>cases h
 | .u,b,h=>by cases b<;>simp only[lJ]at h<;>cases h
 | .nil,b,h=>by cases b<;>simp only[lJ]at h<;>cases h
 | .e0 _,b,h=>by cases b<;>simp only[lJ]at h<;>cases h
 | .ow _ _ _ _,b,h=>by cases b<;>simp only[lJ]at h<;>cases h
 | .po _ _,b,h=>by cases b<;>simp only[lJ]at h<;>cases h
 | .pi _ _,b,h=>by cases b<;>simp only[lJ]at h<;>cases h
 | .fn _ _ _,b,h=>by cases b<;>simp only[lJ]at h<;>cases h
 | .tp _,b,h=>by cases b<;>simp only[lJ]at h<;>cases h
 | .err,b,h=>by cases b<;>simp only[lJ]at h<;>cases h
theorem aFv:∀ {a b:List TV},yX a b=true->a=b
 | [],b,h=>by cases b<;>simp only[yX]at h<;>first|(cases h;done)|rfl
 |x::l,b,h=>by cases b<;>simp only[yX]at h<;>first|(cases h;done)|(simp only[bJI]at h;rw[bAS h.1,aFv h.2])
end
end
theorem bDD{pr:cN}(b:pr 112=none)(m:Nat)(st:St)(k:KS):eN PG pr 112 (cC PG pr true (m+40)) [.v (.slice none 0 0)] st k=k (.sl st.nxt 0 0 (some 0) 1) (st.new ⟨[],true⟩):=by
 unfold eN
 rw[b]
 kernel_rfl
theorem bH8{pr:cN}(b:pr 112=none)(m:Nat)(st:St)(k:KS):eN PG pr 112 (cC PG pr true (m+40)) [.se] st k=k (.sl st.nxt 0 0 (some 0) 1) (st.new ⟨[],true⟩):=by
 unfold eN
 rw[b]
 kernel_rfl
theorem bHC{pr:cN}(b:pr 112=none)(m:Nat)(st:St)(id:Id)(off sz:Nat)(cap:Option Nat)(k:KS):eN PG pr 112 (cC PG pr true (m+40)) [.sl id off 0 cap sz] st k=k (.sl st.nxt 0 0 (some 0) 1) (st.new ⟨[],true⟩):=by
 unfold eN
 rw[b]
 kernel_rfl
theorem aZv{pr:cN}(b:pr 112=none):jT PG pr 112 [.em] (.im 1 []) true:=by
 intro st al F i j l d o f _
 have new:∀a:AV,(∀m k,eN PG pr 112 (cC PG pr true (m+40)) [a] st k=k (.sl st.nxt 0 0 (some 0) 1) (st.new ⟨[],true⟩))->∃a' st' F',aB0 st st' F F' a' (.im 1 []) true/\∃N,∀n,N<=n->∀k,eN PG pr 112 (cC PG pr true n) [a] st k=k a' st':=fun a h=>by
  refine⟨.sl st.nxt 0 0 (some 0) 1,st.new ⟨[],true⟩,fun id=>F id\/id=st.nxt,⟨?_,rfl,fun id h=> .inl h,fun id h=>h.elim .inl fun e=> .inr ?_,fun id h=>aIX h,rfl,rfl, ?_,fun _=> .inr ⟨rfl,1,[],st.nxt,0,some 0,⟨[],true⟩,[],[],.inl ⟨rfl,rfl,rfl,rfl⟩,.nil,rfl,by decide,bJE _, ?_,aIR,rfl,.nil,fun c e=>by cases e;exact⟨bJE _,rfl⟩⟩⟩,40,fun n hn k=> ?_⟩
  ·exact TR.im (blk:=⟨[],true⟩) (.inr rfl) ⟨aIR,rfl⟩ (bJE _) .nil
  ·subst e;rw[mE];exact⟨bJE _,bJT _⟩
  ·rw[mE];exact Nat.le_succ _
  ·rw[mE];exact bJT _
  ·obtain⟨m,rfl⟩:∃m,n=m+40:=⟨n-40,by omega⟩
   exact h m k
 cases j with |cons p g=>
 cases g
 cases p with
 |emv=>exact new _ fun m k=>bDD b m st k
 |emse=>exact new _ fun m k=>bH8 b m st k
 |ems q hf g=>exact new _ fun m k=>bHC b m st _ _ _ _ k
section
open Go Go.RowKit
def aL0:List Nat:=[201,121,129]
def isJ:mB:=⟨fun f=>aL0.elem f||aEo.elem f,fun f=>aUB.elem f,fun f=>aEf.elem f⟩
abbrev VK(T:List CE):Nat->cP:=fY PG isJ (pvT T)
theorem aSh:∀f,isJ f=true->bZ.prim f=false:=fun f h=>by
 have h':(aL0.elem f||aEo.elem f)=true:=h
 rcases Bool.or_eq_true_iff.1 h' with h|h
 ·have:=bKL.1 h
  simp only[aL0,bJZ,bLj,or_false]at this
  rcases this with rfl|rfl|rfl<;>rfl
 ·exact aSD f h
theorem bIH{pr:cN}(h:vB pr)(T:List CE)(n:Nat):mR PG pr (VK T n):=aBV (aTA h T) (fun _ h=>aDx h) (fun f hf=>h.no (aSh f hf)) h.np n
def CE.fix(f:bR9)(args:List TV)(R:TV)(own:Bool)(ok:∀pr,vB pr->jT PG pr f args R own):CE:=⟨f,fun a=>bif yX a args then some (R,own)else none,fun pr h a R' own' e=>by
 cases c:yX a args with
 |false=>rw[c]at e;cases e
 |true=>
  rw[c]at e
  cases e
  rw[aFv c]
  exact ok pr h⟩
def CE.run{T:List CE}{n:Nat}{f:bR9}{args:List TV}{R:TV}{own:Bool}(h:VK T n f args=some (R,own)):CE:= .fix f args R own fun _ d=>bIH d T n _ _ _ _ h
def bI6:CE:= .fix 112 [.em] (.im 1 []) true fun _ h=>aZv (h.no (by kernel_rfl))
def exZ(z:Int):List TV:=match z with | .ofNat 0=>[.b false,.em]| .ofNat n=>[.b false,.im 1 [.int .u32 (n:Nat)]]| .negSucc n=>[.b true,.im 1 [.int .u32 (n+1:Nat)]]
def oS(a b:Int):List TV:=exZ a++exZ b
def fQ(l:List Int):TV:= .im 4 ((l.map fun z=>exZ z++exZ 1).flatten)
def exI(l:List Int):TV:= .im 2 ((l.map exZ).flatten)
def mZ(l:List Int)(r:Int):TV:= .ag [exI l,.int .i64 r]
def ex0(v:TV):TV:= .tp [v,.int .i64 ((0:Nat):Int)]
def exN(z:Int):TV:= .ag [.em,fQ [z]]
def ex2:TV:= .ag [.im 1 [fQ [2]],fQ [0,1]]
def ex3:TV:= .ag [.im 1 [fQ [3]],fQ [0,1]]
def aL7:TV:= .ag [.im 1 [fQ [2]],fQ [0, -1]]
def ex5:TV:= .ag [.im 1 [fQ [2],fQ [3,0]],fQ [0,1,1,0]]
def T0:List CE:=bI6::cT
theorem bHL:VK T0 40 14 [.int .i64 2]=some (exN 2,false):=by kernel_rfl
theorem bGu:VK T0 40 14 [.int .i64 3]=some (exN 3,false):=by kernel_rfl
theorem bIE:VK T0 40 17 [ex2]=some (aL7,false):=by kernel_rfl
end
end Ev
end Go.Proofs.YtmjoaipkaddkbaaGreatDoor
