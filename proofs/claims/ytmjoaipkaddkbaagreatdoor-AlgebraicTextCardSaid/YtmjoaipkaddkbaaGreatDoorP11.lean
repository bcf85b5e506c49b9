/- Part of a proof. -/
import Derived.Test.YtmjoaipkaddkbaaGreatDoorP10
import Derived.Deep.Slices
import Derived.SizedLaws
import Derived.OpenShut
import GoSem.ClaimJoined
import Derived.Deep.RegionLaw
import Derived.Deep.LoopGhost
import Derived.Deep.Upon
noncomputable section
open Nat renaming reduceBEq → zB, reduceEqDiff → zC, reduceAdd → zD, reduceMul → zE, reduceSub → zF, reduceLT → zG, reduceLeDiff → zH
open Bool renaming and_eq_true→bIN,and_true→bK6,not_true→bKz,true_and→bJI
open List renaming all_append→bLW,all_cons→bJN,all_eq_true→bJt,all_nil→bKr,flatMap_cons→bLp,getElem?_append_left→bKN,getElem?_append_right→bLA,getElem?_eq_getElem→bJM,getElem?_eq_none→bLr,getElem?_eq_some_iff→bJs,length_append→bJ3,length_cons→bIV,length_map→bJB,length_nil→bJm,length_take→bIW,map_congr_left→bMw,map_cons→bJu,map_map→bKj,mem_append→bJE,mem_cons→bJ4,mem_cons_of_mem→bJY,mem_cons_self→bJS,mem_map→bJF,range→bJh,take_of_length_le→bJ2,take_succ_eq_append_getElem→bKA
open Nat renaming add_assoc→bKu,add_comm→bJW,add_mul→bJp,le_refl→bIK,le_trans→bIO,lt_of_lt_of_le→bIP,lt_or_ge→bIT,mul_le_mul_right→bJ8,succ_mul→bJT,zero_add→bJl,zero_mul→bJU
open Option renaming bind_eq_some_iff→bIL,bind_some→bIS,map_some→bJk
open Go renaming TypeId→bQb,Value→bQa,World→bQ9
set_option maxRecDepth 10000000
open Go
open Go.Proofs.Tryz
namespace Go.Proofs.YtmjoaipkaddkbaaGreatDoor.Ev
section
variable {m:Nat}
def mR:EC ByteArray:=⟨fun s=>[.str s],1,by decide,fun _=>rfl,fun s=>Can.cons (cP.str s) Can.nil,fun _=>rfl,3,fun _=>by simp only[bW,dA];decide⟩
theorem aPh(l:List ByteArray):mR.row l=l.map .str:=by
 induction l with
 |nil=>rfl
 |cons a l ih=>rw[EC.row_cons,ih];rfl
theorem eSS:cU PG 61=some 9:=by kernel_rfl
theorem sSS:aU PG 9=1:=by kernel_rfl
theorem cSS:dJ PG 9=true:=by kernel_rfl
theorem kSS:dE PG 9=true:=by kernel_rfl
theorem zSS:pE PG 9=some [.str ⟨#[]⟩]:=by kernel_rfl
theorem aQ9{x:ByteArray}:(TV.str x).cells=[.str x]:=rfl
theorem aT5{x:ByteArray}:(TV.str x).one=true:=rfl
theorem aTs{x:ByteArray}{y:TV}:gS [.str x] 0 [y]=some [.str x]:=rfl
theorem aTD:TV.str ⟨#[97,108,103,101,98,114,97,105,99,32,91]⟩= .str (bs [97,108,103,101,98,114,97,105,99,32,91]):=rfl
theorem aTE:TV.str ⟨#[93,32]⟩= .str (bs [93,32]):=rfl
theorem aSS:jY PG 9=false:=by kernel_rfl
theorem bF8(a b:List UInt8):bs a++bs b=bs (a++b):=by
 apply ByteArray.ext
 show(bs a++bs b).data=_
 rw[ByteArray.data_append]
 simp [bs]
def kP:List UInt8:=[97,108,103,101,98,114,97,105,99,32,91]
def kN(zs:List Int)(r:Int):List UInt8:=kP++dT 32 (zs.map dX)++[93,32]++Lib.decDigits r.toNat
theorem aQZ(c:UInt8):∀ws:List (List UInt8),Lib.join ws [c]=dT c ws
 | []=>rfl
 | [w]=>Lib.join_one w [c]
 |w::v::ws=>by
  have ih:=aQZ c (v::ws)
  unfold Lib.join at ih ⊢
  rw[List.intercalate_cons_cons,ih,dT]
  simp
theorem aIk{c:UInt8}{n:Nat}:∀ws:List (List UInt8),(∀w∈ws,w.length+1<=n)->(dT c ws).length<=n*ws.length
 | [],_=>Nat.zero_le _
 | [w],h=>by have:=h w bJS;simp only[dT,List.length_singleton];omega
 |w::v::ws,h=>by
  have h1:=h w bJS
  have h2:=aIk (c:=c) (v::ws) fun x hx=>h x (bJY _ hx)
  rw[dT,bJ3,bIV,bIV (a:=w),Nat.mul_succ]
  omega
theorem aYT{zs:List Int}(h:yW zs)(h2:2<=zs.length)(C:0<zs.getD (zs.length-1) 0)(D:fY (dK zs) (dU (dK zs))=[1]):aAx (dK zs)<=7:=by
 have Y:=(aIn h h2 C D).all.2
 have N:=fK (dK zs)
 have F:=xH zs
 have h7:=h.1
 unfold aAx xV
 split
 ·omega
 ·have:=aDa (-iQ (dK zs)) (iS (dK zs)) (0,0)
  unfold gK
  simp only at this
  omega
theorem aQt{zs:List Int}{r:Int}(h:yW zs)(O:vz zs r=true):0<=r/\r<7:=by
 unfold vz at O
 simp only[bIN,decide_eq_true_eq]at O
 obtain⟨⟨⟨⟨⟨h1,h2⟩,Z⟩,P⟩,h5⟩,h6⟩:=O
 have:=aYT h h1 h2 P
 omega
theorem aIl(z:Int)(h:z.natAbs<2^240):(Lib.decDigits z.natAbs).length<=73/\(dX z).length<=74:=by
 have s:∀(k u:Nat),u<10^(k+1)->Lib.nDigits u<=k+1:=by
  intro k
  induction k with
  |zero=>intro u h;rw[Lib.nDigits_small (by omega)];omega
  | succ k ih=>
   intro u h
   by_cases h1:u<10
   ·rw[Lib.nDigits_small h1];omega
   ·rw[Lib.nDigits_big h1]
    have:=ih (u/10) (by rw[Nat.pow_succ]at h;omega)
    omega
 have h1:=s 72 z.natAbs (bIP h (by decide))
 rw[←Lib.decDigits_length]at h1
 refine⟨h1, ?_⟩
 unfold dX
 split
 ·rw[bIV];omega
 ·omega
theorem bHE{n:Nat}{z:Int}:gV (n+3) (tI z)=true:=by
 show([TV.b _,tW _].all (gV (n+2)))=true
 simp only[bJN,bKr,aTn,bK6];rfl
theorem bCi{z:Int}(h:z.natAbs<2^240):yJ [tI z]=some (.str (bs (dX z))):=by
 have e:rO (tW (aO z.natAbs))=some (aO z.natAbs):=aEQ (cV _)
 unfold yJ tI ci
 simp only[e,bIS]
 rw[cO,if_pos ⟨rfl,h⟩]
 congr 2
 unfold dX qY bs
 by_cases h0:z<0
 ·rw[if_neg (by omega),decide_eq_true h0];simp [h0]
 ·by_cases h1:z.natAbs=0
  ·rw[if_pos h1,if_neg h0,h1,sH (by decide)];rfl
  ·rw[if_neg h1,decide_eq_false h0];simp [h0]
theorem bHn{z:Int}(h:z.natAbs<2^240):CC (VZ (m+1)) 35 [tI z] (.str (bs (dX z))):=
 aDC (.t yJ) rfl (Can.cons (uW z) Can.nil) (by simp only[bW,aBX];decide) (by
  show nW yJ _=_
  unfold nW
  rw[if_pos (by simp only[bJN,bKr,bK6];exact bHE),show cL [tI z]=[tI z]from(Can.cons (uW z) Can.nil).2,bCi h]
  rfl)
theorem aFi{g:List TV->Option TV}{vs:List TV}{R:TV}{a:AV}(h1:vs.all (gV nR)=true)(h2:cL vs=vs)(Z:g vs=some R)(P:wL R=some a):nW g vs=some (R,false):=by
 unfold nW
 rw[if_pos h1,h2,Z]
 simp only[bIS,P,bJk]
theorem aSw{f:FuncId}{args:List TV}{R:TV}(p:PT)(Y:tE f yA=some p)(h:p.orc args=some (R,false)):VZ (m+1) f args=some (R,false):=by
 show gG PG cC qA (m+1) _ _=_
 unfold gG
 rw[show qA f args=some (R,false) by unfold qA;rw[Y];exact h]
theorem fL.keep{α:Type}{E:EC α}{i s s':VS}{v:TV}{l:List α}(h:fL E i s v l)(hn:s.nxt<=s'.nxt)(ho:∀j,j<s.nxt->s'.ob j=s.ob j):fL E i s' v l:=
 ⟨h.bld.keep hn ho,bIO h.nx hn,fun j G=>(ho j (bIP G h.nx)).trans (h.ob j G),h.new⟩
theorem fL.stepS{i s:VS}{v:TV}{l:List ByteArray}(h:fL mR i s v l)(q:ByteArray)(n1:l.length<=10000000):∃v' s',gT PG 9 (s.new [.str q]) v (.ow s.nxt 0 1 1)=some (v',s')/\fL mR i s' v' (l++[q]):=h.step q cSS sSS n1
theorem aJn{et:fO}{a b:List UInt8}(h:a.length+b.length<=100000000):bX et .add (.str (bs a)) (.str (bs b))=some (.str (bs (a++b))):=by
 simp only[bX]
 rw[if_pos (by rw[uT,uT];exact h),bF8]
theorem aRN{s:VS}{x:ByteArray}:dM s [.str x]=some (.str x,false):=sO (cP.str x) (by simp only[dA];decide)
theorem yT:type_of%(And.intro @eSS (And.intro @sSS (And.intro @cSS (And.intro @kSS (And.intro @aSS (And.intro @zSS (And.intro @aQ9 (And.intro @aT5 (And.intro @aTs (And.intro @aTD (And.intro @aTE (@aRN)))))))))))):=(And.intro @eSS (And.intro @sSS (And.intro @cSS (And.intro @kSS (And.intro @aSS (And.intro @zSS (And.intro @aQ9 (And.intro @aT5 (And.intro @aTs (And.intro @aTD (And.intro @aTE (@aRN))))))))))))
theorem aYs:bQ PG 9 f9 [2] []=true:=by kernel_rfl
def yR(l:List (Bool×List Nat))(r:Int):List UInt8:=if (l.all dW&&vz (l.map bZ) r)=true then kN (l.map bZ) r else []
theorem aIB{l:List (Bool×List Nat)}{r:Int}(h:l.length<=7)(C:∀x∈l,bC x.2/\val x.2<2^240/\x.2.length<1000)(hr: -9223372036854775808<=r/\r<9223372036854775808):VZ (m+18) 9 [tF l r]=some (.str (bs (yR l r)),false):=by
 have cv:=(bAQ (m:=m) h C hr).up (yz _)
 refine bY rfl func9 aYs rfl ?_
 simp only[f9,N1,bD,bJ,bM,bL,bH,zB,zG]
 unfold yR
 cases hV:(l.all dW&&vz (l.map bZ) r)
 case false=>
  rw[hV]at cv
  simp (disch:=first|rfl|omega)only[S1,aC,aE,aM,aJ,zB,reduceCtorEq,zD,zG,zH,TF,yT,vJ 34 rfl,cv _]
  rfl
 case true=>
 rw[hV]at cv
 rw[bIN]at hV
 obtain⟨hG,I⟩:=hV
 have Q:∀x∈l,dW x=true:=bJt.1 hG
 have sz:yW (l.map bZ):=⟨by rw[bJB];exact h,fun z F=>by
  obtain⟨x,hx,rfl⟩:=bJF.1 F
  rw[oY];exact(C x hx).2.1⟩
 obtain⟨r0,r7⟩:=aQt sz I
 obtain⟨rn,rfl⟩:∃rn:Nat,r=(rn:Int):=⟨r.toNat,by omega⟩
 simp (disch:=first|rfl|omega)only[S1,aN,aC,aE,aM,aJ,zB,reduceCtorEq,zD,zG,zH,TF,aT,vJ 34 rfl,cv _]
 obtain⟨S0,d⟩:∃S0,S0=eA.new [eB l,TV.int IntKind.i64 ((rn:Nat):Int)]:=⟨_,rfl⟩
 have a':S0.nxt=1:=by rw[d];rfl
 have S:S0.ob 0=⟨0,[eB l,TV.int IntKind.i64 ((rn:Nat):Int)]⟩:=by rw[d];rfl
 rw[←d]
 clear d
 obtain⟨ws,A⟩:∃ws:List ByteArray,ws=l.map fun x=>bs (dX (bZ x)):=⟨_,rfl⟩
 have B:ws.length=l.length:=by rw[A,bJB]
 refine .up (fun j e s=>∃v,e 1=some (.po 0 0)/\e 3=some v/\e 10=some (eB l)/\e 11=some (.int .i64 (l.length:Nat))/\e 12=some (.int .i64 (j:Nat))/\fL mR S0 s v (ws.take j)) l.length ?_ (dC (by omega)) ?_
 ·refine⟨.nil, ?_, ?_, ?_, ?_, ?_,.nil _⟩<;>simp (disch:=first|rfl|omega)only[S1,zB]
 ·rintro j e s G ⟨v,M,e3,J,K,L,H⟩
  have T:(ws.take j).length=j:=by rw[bIW];omega
  have b':=H.nx
  have i:s.ob 0=⟨0,[eB l,TV.int IntKind.i64 ((rn:Nat):Int)]⟩:=(H.ob 0 (by omega)).trans S
  by_cases hc:j<l.length
  ·have h1:decide (j<l.length)=true:=decide_eq_true hc
   obtain⟨x,hx⟩:∃x,x=l.getD j (false,[]):=⟨_,rfl⟩
   have U:x∈l:=by rw[hx];exact tN hc
   have F:=rM (C x U).1 (Q x U)
   have cf:=bHn (m:=m+16) (z:=bZ x) (by rw[oY];exact(C x U).2.1)
   have V:fL mR S0 ((s.new [.b false,.nil]).set s.nxt ⟨0,[.b (decide (bZ x<0)),tW (aO (bZ x).natAbs)]⟩) v (ws.take j):=H.keep (by show s.nxt<=s.nxt+1;omega) (fun j G=>by
    have M:(j==s.nxt)=false:=by rw[beq_eq_false_iff_ne];omega
    rw[lG,iP,M];rfl)
   obtain⟨v',s',ea,W⟩:=V.stepS (bs (dX (bZ x))) (by omega)
   simp only[qI,sN]at ea
   simp (disch:=first|rfl|omega)only[S1,aK,aC,aE,aM,aJ,aD,zB,reduceCtorEq,zD,zE,zH,aY,TI,yT,M,e3,J,K,L,h1,nV,pB,←hx,F,vJ 35 rfl,cf _,ea]
   refine⟨hc,v',rfl, ?_⟩
   have et:ws.take (j+1)=ws.take j++[bs (dX (bZ x))]:=by
    rw[bKA (by omega),hx]
    simp [A,hc]
   rw[et]
   exact W
  ·have h1:decide (j<l.length)=false:=decide_eq_false hc
   obtain rfl:j=l.length:=by omega
   rw[bJ2 (by omega)]at H T
   have X:Lib.join (ws.map (·.data.toList)) [32]=dT 32 ((l.map bZ).map dX):=by
    rw[aQZ,A,bKj,bKj]
    rfl
   have c':2<=l.length:=by
    have:=I
    unfold vz at this
    simp only[bIN,decide_eq_true_eq,bJB]at this
    exact this.1.1.1.1.1
   have d':(dT 32 ((l.map bZ).map dX)).length<=10000:=by
    have:=aIk (c:=32) (n:=75) ((l.map bZ).map dX) (fun w hw=>by
     obtain⟨z,F,rfl⟩:=bJF.1 hw
     have:=(aIl z (sz.2 z F)).2
     omega)
    rw[bJB,bJB]at this
    omega
   have G:VZ (m+17) 36 [mR.t ws,.str ⟨#[32]⟩]=some (.str (bs (dT 32 ((l.map bZ).map dX))),false):=aSw (.k aAO) rfl (by
    have N:mR.t ws= .im 1 (ws.map .str):=by
     unfold EC.t
     rw[aPh]
     cases ws with
     |nil=>simp at B;omega
     |cons a ws=>rfl
    have D:aAO [TV.im 1 (ws.map TV.str),.str ⟨#[32]⟩]=some (.str (bs (dT 32 ((l.map bZ).map dX)))):=by
     unfold aAO
     simp only[aOc,bIS,X]
     rw[if_pos ⟨by intro e;have:=congrArg List.length e;simp at this;rw[this]at B;simp at B;omega,by omega,by omega⟩]
     rfl
    rw[←N]at D
    refine aFi (a:= .v (.string _)) ?_ ((Can.cons (mR.t_can ws) (Can.cons (cP.str _) Can.nil)).2) D rfl
    rw[N]
    simp [gV,nR,List.all_map])
   obtain⟨s1,s2,k1, -,k3, -⟩:=H.bld.call (f:=36) (Can.cons (cP.str _) Can.nil) (by simp only[bW,dA];decide) (show ws.length*3<=90000000 by omega) G
   have t0:s1.ob 0=⟨0,[eB l,TV.int IntKind.i64 ((rn:Nat):Int)]⟩:=(k3.2 0 (by omega) (fun o n z e=>by have:=H.new 0 o n z e;omega)).trans i
   have tn:0<s1.nxt:=by have:=k3.1;omega
   have ci:CC (VZ (m+17)) 37 [.int .i64 ((rn:Nat):Int)] (.str (bs (Lib.decDigits rn))):=aDC (.k aCb) rfl (Can.cons (cP.int _ _) Can.nil) (by simp only[bW,dA];decide) (by
    have D:aCb [TV.int .i64 ((rn:Nat):Int)]=some (.str (bs (Lib.decDigits rn))):=by
     show(if rn<100 then _ else none)=_
     rw[if_pos (by omega)];rfl
    exact aFi (a:= .v (.string _)) rfl rfl D rfl)
   have e':(Lib.decDigits rn).length<=100:=by rw[Lib.decDigits_length,Lib.nDigits_small (by omega)];omega
   have a1:bX (fM PG 9) .add (.str (bs [97,108,103,101,98,114,97,105,99,32,91])) (.str (bs (dT 32 ((l.map bZ).map dX))))=some (.str (bs (kP++dT 32 ((l.map bZ).map dX)))):=aJn (by simp only[bIV,bJm];omega)
   have f':kP.length=11:=rfl
   have a2:bX (fM PG 9) .add (.str (bs (kP++dT 32 ((l.map bZ).map dX)))) (.str (bs [93,32]))=some (.str (bs (kP++dT 32 ((l.map bZ).map dX)++[93,32]))):=aJn (by simp only[bJ3,bIV,bJm];omega)
   have a3:bX (fM PG 9) .add (.str (bs (kP++dT 32 ((l.map bZ).map dX)++[93,32]))) (.str (bs (Lib.decDigits rn)))=some (.str (bs (kP++dT 32 ((l.map bZ).map dX)++[93,32]++Lib.decDigits rn))):=aJn (by simp only[bJ3,bIV,bJm];omega)
   simp (disch:=first|rfl|omega)only[S1,aC,aE,aM,aJ,zB,reduceCtorEq,zD,zH,TF,yT,aT,M,e3,K,L,h1,k1,t0,tn,a1,a2,a3,ci _]
   rfl
end
section
variable {m:Nat}
def fz(z:Int):Bool×List Nat:=(decide (z<0),aO z.natAbs)
theorem aTl(z:Int):tX (fz z)=tI z:=rfl
theorem aRu(z:Int):bZ (fz z)=z:=by
 unfold bZ fz
 simp only[cO]
 exact aBz z
theorem aPz(z:Int):dW (fz z)=true:=by
 unfold dW fz
 simp only[kH,decide_true,bJI]
 by_cases h:z<0
 ·have:0<(aO z.natAbs).length:=zW.2 (by omega)
  simp [h,this]
 ·simp [h]
theorem bGJ(zs:List Int):(zs.map fz).map bZ=zs:=by
 rw[bKj]
 exact(bMw fun z _=>aRu z).trans (List.map_id zs)
theorem bH7{zs:List Int}(h:∀z∈zs,z.natAbs<2^240):∀x∈zs.map fz,bC x.2/\val x.2<2^240/\x.2.length<1000:=fun x hx=>by
 obtain⟨z,P,rfl⟩:=bJF.1 hx
 have h1:=h z P
 exact⟨cV _,by show val (aO z.natAbs)<_;rw[cO];exact h1,Nat.lt_of_le_of_lt (lY (k:=9) (bIP h1 (by decide))) (by decide)⟩
theorem bEO{z:Int}(h:z.natAbs<2^240):CC (VZ (m+6)) 32 [.str (bs (dX z))] (.tp [tI z,.int .i64 ((0:Nat):Int)]):=
 .of (Can.cons (cP.str _) Can.nil) (by simp only[bW,dA];decide) (bCj (by have:=(aIl z h).1;omega))
theorem aJc(z:Int):∀b∈dX z,b≠32/\b≠93:=fun b hb=>by
 have V:=aI8 z.natAbs
 unfold dX at hb
 have key:b∈Lib.decDigits z.natAbs->b≠32/\b≠93:=fun h=>by
  have:=V b h
  refine⟨fun e=> ?_,fun e=> ?_⟩<;>(rw[e]at this;revert this;decide)
 split at hb
 ·rcases bJ4.1 hb with rfl|hb
  ·decide
  ·exact key hb
 ·exact key hb
theorem aOC{c d:UInt8}(V:d≠c):∀ws:List (List UInt8),(∀w∈ws,∀b∈w,b≠d)->∀b∈dT c ws,b≠d
 | [],_,b,hb=>by cases hb
 | [w],h,b,hb=>h w bJS b hb
 | w::v::ws,h,b,hb=>by
  rw[dT]at hb
  rcases bJE.1 hb with hb|hb
  ·exact h w bJS b hb
  ·rcases bJ4.1 hb with rfl|hb
   ·exact fun e=>V e.symm
   ·exact aOC V (v::ws) (fun x hx=>h x (bJY _ hx)) b hb
theorem bFp(J D:List UInt8):CC (VZ (m+1)) 29 [.str (bs (kP++J++[93,32]++D)),.str ⟨#[97,108,103,101,98,114,97,105,99,32,91]⟩] (.tp [.str (bs (J++([93,32]++D))),.b true]):=by
 have h:=aRO (m:=m) (bs (kP++J++[93,32]++D)) ⟨#[97,108,103,101,98,114,97,105,99,32,91]⟩
 have e:(bs (kP++J++[93,32]++D)).data.toList=kP++(J++([93,32]++D)):=by
  rw[aDd];simp only[List.append_assoc]
 rw[e,show(⟨#[97,108,103,101,98,114,97,105,99,32,91]⟩:ByteArray).data.toList=kP from rfl,aL8,aHo]at h
 exact h
theorem bF9{J D:List UInt8}(h:∀b∈J,b≠93)(C:J.length+D.length<=100000):CC (VZ (m+1)) 30 [.str (bs (J++([93,32]++D))),.str ⟨#[93,32]⟩] (.tp [.str (bs J),.str (bs D),.b true]):=
 aDC (.t aE5) rfl (Can.cons (cP.str _) (Can.cons (cP.str _) Can.nil)) (by simp only[bW,dA];decide) (by
  refine aFi (a:= .tup [.v (.string (bs J)),.v (.string (bs D)),.b true]) rfl rfl ?_ rfl
  show(if _ then _ else _)=_
  rw[if_pos (by rw[uT];simp only[bJ3,bIV,bJm];omega),aDd,show(⟨#[93,32]⟩:ByteArray).data.toList=[93,32]from rfl,bG6 h]
  rfl)
theorem bEp{ws:List (List UInt8)}{w:List UInt8}(h:∀v∈w::ws,∀b∈v,b≠32)(C:(dT 32 (w::ws)).length<=100000):VZ (m+1) 31 [.str (bs (dT 32 (w::ws))),.str ⟨#[32]⟩]=some (.im 1 ((w::ws).map fun v=> .str (bs v)),false):=by
 refine aSw (.r aAs) rfl ?_
 have hc:Lib.countB (bs (dT 32 (w::ws))) ⟨#[32]⟩=ws.length:=aZe h
 have hs:Lib.splitB ⟨#[32]⟩ 0 ws.length (bs (dT 32 (w::ws)))=(w::ws).map bs:=by
  have:=Lib.splitB_data ⟨#[32]⟩ 0 ws.length (bs (dT 32 (w::ws)))
  rw[aDd,show(⟨#[32]⟩:ByteArray).data.toList=[32]from rfl,aLW ws w ws.length h (bIK _)]at this
  have i:∀l:List ByteArray,(l.map (·.data.toList)).map bs=l:=fun l=>by
   rw[bKj]
   refine(bMw fun s _=> ?_).trans (List.map_id l)
   exact ByteArray.ext (Array.toArray_toList)
  rw[←i (Lib.splitB _ _ _ _),this]
 have hg:aAs [.str (bs (dT 32 (w::ws))),.str ⟨#[32]⟩]=some ((w::ws).map fun v=> .str (bs v)):=by
  show(if _ then _ else _)=_
  rw[hc,hs,if_pos ⟨by rw[uT];omega,by decide,by simp⟩,bKj]
  rfl
 show aE7 aAs _=_
 unfold aE7
 rw[if_pos (show [TV.str (bs (dT 32 (w::ws))),.str ⟨#[32]⟩].all (gV nR)=true from rfl),show cL [TV.str (bs (dT 32 (w::ws))),.str ⟨#[32]⟩]=[TV.str (bs (dT 32 (w::ws))),.str ⟨#[32]⟩]from rfl,hg]
 have ha:∀l:List (List UInt8),∃q,iL lR (l.map fun v=>TV.str (bs v))=some q:=by
  intro l
  induction l with
  |nil=>exact⟨_,rfl⟩
  |cons a l ih=>obtain⟨q,e⟩:=ih;exact⟨.v (.string (bs a))::q,by rw[bJu,iL,e];rfl⟩
 obtain⟨q,e⟩:=ha (w::ws)
 simp only[bIS,e,bJk]
theorem bDr{ws:List (List UInt8)}{w:List UInt8}(h:∀v∈w::ws,∀b∈v,b≠32)(C:(dT 32 (w::ws)).length<=100000):CC (VZ (m+1)) 31 [.str (bs (dT 32 (w::ws))),.str ⟨#[32]⟩] (.im 1 ((w::ws).map fun v=> .str (bs v))):=
 .of (Can.cons (cP.str _) (Can.cons (cP.str _) Can.nil)) (by simp only[bW,dA];decide) (bEp h C)
theorem bBk{n:Nat}(h:n<10):Lib.atoiAll (Lib.decDigits n)= .ok (n:Int):=by
 rw[sH h]
 have:n=0\/n=1\/n=2\/n=3\/n=4\/n=5\/n=6\/n=7\/n=8\/n=9:=by omega
 rcases this with rfl|rfl|rfl|rfl|rfl|rfl|rfl|rfl|rfl|rfl<;>rfl
theorem bFQ{n:Nat}(h:n<10):CC (VZ (m+1)) 33 [.str (bs (Lib.decDigits n))] (.tp [.int .i64 ((n:Nat):Int),.lit .nilIface]):=
 aDC (.k aDO) rfl (Can.cons (cP.str _) Can.nil) (by simp only[bW,dA];decide) (by
  refine aFi (a:= .tup [.i .i64 n,.v .nilIface]) rfl rfl ?_ rfl
  show(if _ then _ else _)=_
  rw[if_pos (by rw[uT,sH h];simp),aDd,bBk h])
def tS(l:List ByteArray):TV:=mR.t l
theorem aQE{l:List ByteArray}:jU PG 61 (tS l)=some (.int .i64 (l.length:Nat)):=aG0 (E:=mR) eSS sSS
theorem aYQ{l:List ByteArray}{j:Nat}(h:j<l.length):mE PG 61 (tS l) j=some (.pi (mR.row l) (j*1)):=aF2 (E:=mR) eSS kSS sSS h
theorem bA6{l:List ByteArray}{j:Nat}{s:VS}(h:j<l.length):kD PG 9 s (.pi (mR.row l) (j*1))=some (.str (l.getD j default)):=by
 rw[aEE aSS]
 exact mR.get (l:=l) (j:=j) (o:=0) h (by decide)
theorem bHK{l:List (List UInt8)}(h:l≠ []):TV.im 1 (l.map fun v=> .str (bs v))=tS (l.map bs):=by
 unfold tS EC.t
 rw[aPh,bKj]
 cases l with
 |nil=>exact absurd rfl h
 |cons a l=>rfl
theorem aRf{l:List ByteArray}:(tS l).one=true:=mR.t_one
theorem aNN{l:List ByteArray}:(tS l).cells=[tS l]:=mR.t_cells
theorem iE:aAK PG 66=true:=by kernel_rfl
theorem TSP:type_of%(And.intro @aQE (And.intro @aRf (And.intro @aNN (@iE)))):=(And.intro @aQE (And.intro @aRf (And.intro @aNN (@iE))))
theorem aIL{k o n z:Nat}:(TV.ow k o n z).cells=[.ow k o n z]:=rfl
theorem aKh{x a b:TV}:gS [x] 0 [a,b]=some [x,b]:=rfl
theorem aST{s:VS}{v:TV}{l:List (Bool×List Nat)}{r:Int}(h:gD eV s v l)(C:l.length<=1000){n:Nat}(hn:10000<=n):∃t s',fE n s (.ag [v,.int .i64 r])=some (.ag [t,.int .i64 r],s')/\jN t=eB l:=by
 obtain⟨m,rfl⟩:∃m,n=m+4:=⟨n-4,by omega⟩
 obtain⟨t,s',A,i, -⟩:=h.close (n:=m+1) (by show l.length*5+1<=_;omega)
 refine⟨t,s', ?_,i⟩
 show(cX (m+3) s [v,.int .i64 r]).map _=_
 have Q:cX (m+2) s' [TV.int .i64 r]=some ([.int .i64 r],s'):=rfl
 have e4:fE (m+1) s' (TV.int .i64 r)=some (.int .i64 r,s'):=rfl
 simp only[cX]at Q ⊢
 rw[A]
 simp only[bIS,e4,bJk]
theorem bEG{f:FuncId}{orc:cN}{s:VS}{v R:TV}{l:List (Bool×List Nat)}{r:Int}(h:gD eV s v l)(C:l.length<=1000)(ho:orc f [tF l r]=some (R,false))(hs:fU R=true):fD orc f [.ag [v,.int .i64 r]] s=some (R,s):=by
 obtain⟨t,s',A,i⟩:=aST (r:=r) h C (n:=99999999) (by decide)
 have ec:cX cK s [.ag [v,.int .i64 r]]=some ([.ag [t,.int .i64 r]],s'):=by
  show(fE 99999999 s _).bind _=_
  rw[A];rfl
 have en:cL [.ag [t,.int .i64 r]]=[tF l r]:=by
  show [TV.ag [jN t,.int .i64 r]]=_
  rw[i];rfl
 unfold fD
 rw[ec]
 simp only[bIS,en,ho,Bool.false_eq_true,if_false,hs,if_true]
theorem aQa{s:VS}{v:TV}{l:List (Bool×List Nat)}{r e:Int}(h:gD eV s v l)(C:l.length<=1000):dM s [.ag [v,.int .i64 r],.int .i64 e]=some (.tp [tF l r,.int .i64 e],false):=by
 obtain⟨t,s',A,i⟩:=aST (r:=r) h C (n:=99999999) (by decide)
 show(cX cK s [TV.ag [v,.int .i64 r],.int .i64 e]).map (fun p=>(TV.tp (cL p.1),false))=_
 have ec:cX cK s [.ag [v,.int .i64 r],.int .i64 e]=some ([.ag [t,.int .i64 r],.int .i64 e],s'):=by
  show(fE 99999999 s _).bind _=_
  rw[A];rfl
 have en:cL [.ag [t,.int .i64 r],.int .i64 e]=[tF l r,.int .i64 e]:=by
  show [TV.ag [jN t,.int .i64 r],_]=_
  rw[i];rfl
 rw[ec,bJk,en]
theorem aXW:PG.funcs[8]? =some f8:=by kernel_rfl
theorem aXQ:bQ PG 8 f8 [3,2,63,40,28,31,29,30] []=true:=by kernel_rfl
theorem aIz{zs:List Int}{r:Nat}(h0:zs≠ [])(h:zs.length<=7)(P:∀z∈zs,z.natAbs<2^240)(hr:r<10):VZ (m+19) 8 [.str (bs (kN zs r))]=some (if vz zs r=true then .tp [tF (zs.map fz) r,.int .i64 ((0:Nat):Int)]else .tp [tF [] 0,.int .i64 ((2:Nat):Int)],false):=by
 obtain⟨J,O⟩:∃J,J=dT 32 (zs.map dX):=⟨_,rfl⟩
 have hT:kN zs r=kP++J++[93,32]++Lib.decDigits r:=by unfold kN;rw[O];rfl
 have a':J.length<=10000:=by
  have:=aIk (c:=32) (n:=75) (zs.map dX) (fun w hw=>by
   obtain⟨z,h1,rfl⟩:=bJF.1 hw
   have:=(aIl z (P z h1)).2
   omega)
  rw[bJB]at this
  rw[O];omega
 have b':(Lib.decDigits r).length<=100:=by rw[Lib.decDigits_length,Lib.nDigits_small (by omega)];omega
 have k1:CC (VZ (m+18)) 29 [.str (bs (kP++J++[93,32]++Lib.decDigits r)),.str (bs [97,108,103,101,98,114,97,105,99,32,91])] (.tp [.str (bs (J++([93,32]++Lib.decDigits r))),.b true]):=bFp (m:=m+17) J (Lib.decDigits r)
 have k2:CC (VZ (m+18)) 30 [.str (bs (J++([93,32]++Lib.decDigits r))),.str (bs [93,32])] (.tp [.str (bs J),.str (bs (Lib.decDigits r)),.b true]):=bF9 (m:=m+17) (J:=J) (D:=Lib.decDigits r) (by
  rw[O]
  exact aOC (by decide) _ fun w hw b hb=>by
   obtain⟨z, -,rfl⟩:=bJF.1 hw
   exact(aJc z b hb).2) (by omega)
 have k3:CC (VZ (m+18)) 31 [.str (bs J),.str ⟨#[32]⟩] (tS (zs.map fun z=>bs (dX z))):=by
  cases zs with
  |nil=>exact absurd rfl h0
  | cons z zs=>
   have:=bDr (m:=m+17) (w:=dX z) (ws:=zs.map dX) (fun v hv b hb=>by
    rcases bJ4.1 hv with rfl|hv
    ·exact(aJc z b hb).1
    ·obtain⟨y, -,rfl⟩:=bJF.1 hv
     exact(aJc y b hb).1) (by rw[←bJu,←O];omega)
   rw[←bJu,bHK (by simp),bKj,←O]at this
   exact this
 have k4:=bFQ (m:=m+17) hr
 rw[←hT]at k1
 obtain⟨T,F⟩:∃T,T=kN zs r:=⟨_,rfl⟩
 rw[←F]at k1 ⊢
 generalize J++([93,32]++Lib.decDigits r)=M at k1 k2
 generalize Lib.decDigits r=D at k1 k2 k4
 clear hT O a' b'
 refine bY rfl aXW aXQ rfl ?_
 simp only[f8,N1,bD,bJ,bM,bL,bH,zB,zG]
 obtain⟨ts,G⟩:∃ts:List ByteArray,ts=zs.map fun z=>bs (dX z):=⟨_,rfl⟩
 rw[←G]at k3
 have l':ts.length=zs.length:=by rw[G,bJB]
 simp (disch:=first|rfl|omega)only[S1,aN,aC,aE,aM,aJ,zB,TF,yT,TSP,vJ 29 rfl,k1 _,vJ 30 rfl,k2 _,vJ 31 rfl,k3 _]
 obtain⟨S0,u⟩:∃S0,S0=(eA.new [TV.nil,.int .i64 ((0:Nat):Int)]).new [TV.nil,.int .i64 ((0:Nat):Int)]:=⟨_,rfl⟩
 have c':S0.nxt=2:=by rw[u];rfl
 have d':S0.ob 0=⟨0,[TV.nil,.int .i64 ((0:Nat):Int)]⟩:=by rw[u];rfl
 have e':S0.ob 1=⟨0,[TV.nil,.int .i64 ((0:Nat):Int)]⟩:=by rw[u];rfl
 rw[←u]
 clear u
 refine .up (fun j e s=>∃v,e 0=some (.str (bs T))/\e 2=some (.po 0 0)/\e 3=some (.int .i64 ((0:Nat):Int))/\e 7=some (.str (bs D))/\e 9=some (.po 1 0)/\e 28=some (tS ts)/\e 29=some (.int .i64 (ts.length:Nat))/\e 30=some (.int .i64 (j:Nat))/\s.ob 0=⟨0,[TV.nil,.int .i64 ((0:Nat):Int)]⟩/\s.ob 1=⟨0,[v,.int .i64 ((0:Nat):Int)]⟩/\2<=s.nxt/\gD eV s v ((zs.take j).map fz)/\(∀k o n z,v= .ow k o n z->2<=k)) ts.length ?_ (dC (by omega)) ?_
 ·refine⟨.nil, ?_, ?_, ?_, ?_, ?_, ?_, ?_, ?_, ?_, ?_, ?_,.nil _,fun _ _ _ _ h=>by cases h⟩<;>simp (disch:=first|rfl|omega)only[S1,zB,zH,c',d',e']
 ·rintro j e s W ⟨v,e0,i,Q,e7,e9,H,I,K,X,s1,sn,hb,hv⟩
  by_cases hc:j<ts.length
  ·have h1:decide (j<ts.length)=true:=decide_eq_true hc
   obtain⟨z,L⟩:∃z,z=zs.getD j 0:=⟨_,rfl⟩
   have hm:z∈zs:=by rw[L];simp [show j<zs.length by omega]
   have hx:ts.getD j default=bs (dX z):=by rw[L,G];simp [show j<zs.length by omega]
   have kp:=bEO (m:=m+12) (P z hm)
   have b0:(0==s.nxt)=false:=by rw[beq_eq_false_iff_ne];omega
   have b1:(1==s.nxt)=false:=by rw[beq_eq_false_iff_ne];omega
   have Y:1<s.nxt+1:=by omega
   have f':fL eV ⟨2,s.ob⟩ ((s.new [.b false,.nil]).set s.nxt ⟨0,[.b (decide (z<0)),tW (aO z.natAbs)]⟩) v ((zs.take j).map fz):=⟨hb.keep (by show s.nxt<=s.nxt+1;omega) (fun j W=>by
    have A:(j==s.nxt)=false:=by rw[beq_eq_false_iff_ne];omega
    rw[lG,iP,A];rfl),by show 2<=s.nxt+1;omega,fun j W=>by
    have W:j<2:=W
    have A:(j==s.nxt)=false:=by rw[beq_eq_false_iff_ne];omega
    rw[lG,iP,A];rfl,hv⟩
   obtain⟨v',s',ea,g⟩:=f'.step (fz z) cI' sI (by rw[bJB,bIW];omega)
   have ea:gT PG 47 (((s.new [.b false,.nil]).set s.nxt ⟨0,[.b (decide (z<0)),tW (aO z.natAbs)]⟩).new [.b (decide (z<0)),tW (aO z.natAbs)]) v (.ow (s.nxt+1) 0 1 2)=some (v',s'):=ea
   have t0:s'.ob 0=⟨0,[TV.nil,.int .i64 ((0:Nat):Int)]⟩:=(g.ob 0 (Nat.zero_lt_succ 1)).trans X
   have t1:s'.ob 1=⟨0,[v,.int .i64 ((0:Nat):Int)]⟩:=(g.ob 1 (Nat.lt_succ_self 1)).trans s1
   have p2:1<s'.nxt:=g.nx
   have b2:(s.nxt==1)=false:=by rw[beq_eq_false_iff_ne];omega
   rcases g.bld with ⟨-,e⟩|⟨k,rfl,g2,g3⟩
   ·simp at e
   have S:2<=k:=g.new k 0 _ _ rfl
   have Z:(k==1)=false:=by rw[beq_eq_false_iff_ne];omega
   simp (disch:=first|rfl|omega)only[S1,aK,aC,aE,aM,aJ,aD,zB,reduceCtorEq,zD,zE,zH,aY,TF,TI,yT,aT,e0,i,Q,e7,e9,H,I,K,s1,h1,aYQ,bA6,hx,vJ 32 rfl,kp _,b1,Y,ea,t0,t1,p2,aIL]
   have et:(zs.take (j+1)).map fz=(zs.take j).map fz++[fz z]:=by
    rw[bKA (by omega),List.map_append,L]
    simp [show j<zs.length by omega]
   refine⟨hc,_,rfl,g.nx,.inr ⟨k,by rw[et],g2, ?_⟩,fun k' o n z e=>by cases e;exact S⟩
   rw[et,lG,Z]
   exact g3
  ·have h1:decide (j<ts.length)=false:=decide_eq_false hc
   obtain rfl:j=ts.length:=by omega
   rw[bJ2 (by omega)]at hb
   have g':(zs.map fz).length<=7:=by rw[bJB];exact h
   have hF:VZ (m+18) 9 [tF (zs.map fz) r]=some (.str (bs (yR (zs.map fz) r)),false):=aIB g' (bH7 P) (by omega)
   rcases hb with ⟨-,e⟩|⟨k,rfl,g2,g3⟩
   ·exact absurd (List.map_eq_nil_iff.1 e) h0
   have S:2<=k:=hv k 0 _ _ rfl
   have Z:(k==1)=false:=by rw[beq_eq_false_iff_ne];omega
   have Y:1<s.nxt:=by omega
   have h':gD eV (s.set 1 ⟨0,[.ow k 0 (zs.map fz).length eV.sz,.int .i64 ((r:Nat):Int)]⟩) (.ow k 0 (zs.map fz).length eV.sz) (zs.map fz):= .inr ⟨k,rfl,g2,by rw[lG,Z];exact g3⟩
   have kF:=bEG h' (by omega) hF rfl
   have i':T≠ []:=by rw[F];unfold kN kP;simp
   have B:yR (zs.map fz) r=if vz zs r=true then T else []:=by
    unfold yR
    rw[bGJ,F,show(zs.map fz).all dW=true from bJt.2 fun x hx=>by obtain⟨z, -,rfl⟩:=bJF.1 hx;exact aPz z,bJI]
   have U:(0==(1:Nat))=false:=rfl
   have p0:0<s.nxt:=by omega
   cases hV:vz zs r
   case true=>
    rw[hV,if_pos rfl]at B
    rw[B]at kF
    have hq:bX (fM PG 9) .neq (.str (bs T)) (.str (bs T))=some (.b false):=by
     simp only[bX,beq_self_eq_true,bKz]
    have j':gD eV ((s.set 1 ⟨0,[.ow k 0 (zs.map fz).length eV.sz,.int .i64 ((r:Nat):Int)]⟩).set 0 ⟨0,[.ow k 0 (zs.map fz).length eV.sz,.int .i64 ((r:Nat):Int)]⟩) (.ow k 0 (zs.map fz).length eV.sz) (zs.map fz):= .inr ⟨k,rfl,g2,by rw[lG,show(k==0)=false by rw[beq_eq_false_iff_ne];omega,lG,Z];exact g3⟩
    have N:=aQa (r:=r) (e:=((0:Nat):Int)) j' (by omega)
    simp (disch:=first|rfl|omega)only[S1,aC,aE,aM,aJ,zB,reduceCtorEq,zD,zH,TF,TSP,aT,e0,i,Q,e7,e9,I,K,X,s1,h1,vJ 33 rfl,k4 _,Y,p0,kF,hq,N,U,vJ 9 rfl]
   case false=>
    rw[hV,if_neg (by decide)]at B
    rw[B]at kF
    have hq:bX (fM PG 9) .neq (.str (bs [])) (.str (bs T))=some (.b true):=by
     simp only[bX]
     rw[aEN,aEN]
     cases T with
     |nil=>exact absurd rfl i'
     |cons a T=>rfl
    have N:∀s:VS,dM s [.ag [.nil,.int .i64 ((0:Nat):Int)],.int .i64 ((2:Nat):Int)]=some (.tp [tF [] 0,.int .i64 ((2:Nat):Int)],false):=fun s=>aQa (l:=[]) (.nil s) (by decide)
    simp (disch:=first|rfl|omega)only[S1,aC,aE,aM,aJ,aD,zB,reduceCtorEq,zD,zH,TF,TSP,aT,e0,i,Q,e7,e9,I,K,X,s1,h1,vJ 33 rfl,k4 _,Y,p0,kF,hq,U,aJu,N,vJ 9 rfl]
end
section
open Go Go.RowKit
variable {m:Nat}
theorem bE.block'{w w':bQ9}(h:bE w w'){b:Nat}(c:b<w.heap.size):w'.heap[b]? =w.heap[b]? :=Below.block h b c
theorem yH{w:bQ9}{b:Nat}{u v:bQa}{T:bQb}(h:w.heap[b]? =some (.cells #[u,v] T (0,0))):w.cell? ⟨b,0,none⟩=some u/\w.cell? ⟨b,1,none⟩=some v/\w.frozen? ⟨b,0,none⟩=false/\w.frozen? ⟨b,1,none⟩=false:=by
 simp [World.cell?,World.frozen?,h]
theorem aXq:bQ PG 11 f11 [4,38,24,19] []=true:=by kernel_rfl
theorem bAM{zs:List Int}{r:Int}(h:zs.length<=1000)(d:∀z∈zs,z.natAbs<2^240):VX (m+4) 11 [tF (zs.map fz) r,tF (zs.map fz) r]=some (.b true,false):=by
 obtain⟨l,f⟩:∃l,l=zs.map fz:=⟨_,rfl⟩
 have x:l.length=zs.length:=by rw[f,bJB]
 rw[←f]
 have y:decide (l.length=l.length)=true:=decide_eq_true rfl
 have A:decide (r=r)=true:=decide_eq_true rfl
 refine bY rfl func11 aXq rfl ?_
 simp only[f11,N1,bD,bJ,bM,bL,bH,zB,zG]
 simp (disch:=first|rfl|omega)only[S1,aN,aC,aE,aM,aJ,zB,reduceCtorEq,zD,zG,zH,TF,aT,aJx]
 refine .up (fun j e s=>s.nxt=2/\s.ob 0=⟨0,[eB l,.int .i64 r]⟩/\s.ob 1=⟨0,[eB l,.int .i64 r]⟩/\e 2=some (.po 0 0)/\e 3=some (.po 1 0)/\e 4=some (.b false)/\e 5=some (.int .i64 (j:Nat))) l.length ?_ (dC (by omega)) ?_
 ·refine⟨rfl,rfl,rfl, ?_, ?_, ?_, ?_⟩<;>simp (disch:=first|rfl|omega)only[S1,zB]
 ·rintro j e s C ⟨sn,n,s1,o,p,q,t⟩
  by_cases hc:j<l.length
  ·have h1:decide (j<l.length)=true:=decide_eq_true hc
   obtain⟨z,a⟩:∃z,z=zs.getD j 0:=⟨_,rfl⟩
   have B:z∈zs:=by rw[a];simp [show j<zs.length by omega]
   have hx:tX (l.getD j (false,[]))=tI z:=by
    rw[a,f]
    simp [show j<zs.length by omega,aTl]
   have fz9:aX 9 z.natAbs:=Nat.lt_trans (d z B) (by decide)
   have c1:=aPY (m:=m+1) (z:=z) (w:=z) (fz9.mono (by decide)) (fz9.mono (by decide))
   rw[decide_eq_true (rfl:z=z)]at c1
   simp (disch:=first|rfl|omega)only[S1,aN,aC,aE,aM,aJ,zB,reduceCtorEq,zD,zG,zH,TF,aT,sn,n,s1,o,p,q,t,h1,nV,pB,hx,c1 _]
   exact hc
  ·have h1:decide (j<l.length)=false:=decide_eq_false hc
   simp (disch:=first|rfl|omega)only[S1,aN,aC,aE,aM,aJ,zB,reduceCtorEq,zD,zG,zH,TF,aT,sn,n,o,q,t,h1]
theorem aW3{zs:List Int}{r:Int}(h:zs.length<=1000)(d:∀z∈zs,z.natAbs<2^240){w:bQ9}(g:fX w){v v':bQa}(i:WT w v (tF (zs.map fz) r))(k:WT w v' (tF (zs.map fz) r)):
  Calls PG 11 #[v,v'] w fun e w'=>e= .returned (.bool true)/\Below w.heap.size w w':=by
 refine(aA7 (bAM (m:=0) h d) g (.cons i (.cons k .nil))).mono ?_
 rintro e w' ⟨v,rfl,c,i⟩
 cases i
 exact⟨rfl,c⟩
end
section
open Go Go.RowKit Go.ChangeShapes Go.WideShapes Go.Deep
theorem choose_lt{α:Type}[Inhabited α]{n:Nat}{p:Nat->α->Prop}(h:∀i,i<n->∃a,p i a):∃f:Nat->α,∀i,i<n->p i (f i):=by
 classical
 refine⟨fun i=>if B:i<n then Classical.choose (h i B)else default,fun i B=> ?_⟩
 simp only[dif_pos B]
 exact Classical.choose_spec (h i B)
section
variable {H:Type}{enc:bQb×bQa->H}{w:bQ9}
abbrev wM(enc:bQb×bQa->H)(w:bQ9)(n:Nat)(t:bQb)(cs:List bQa):Option (DataW H×List MemPlace):=DataW.trod enc PG w 0 (fun _=>true) true n t cs
def iT(l:List Nat):Prop:=l.all (· <=reachBytes)=true
theorem iT.left{l m:List Nat}(h:iT (l++m)):iT l:=by unfold iT at*;rw[bLW,bIN]at h;exact h.1
theorem iT.right{l m:List Nat}(h:iT (l++m)):iT m:=by unfold iT at*;rw[bLW,bIN]at h;exact h.2
theorem iT.head{a:Nat}{l:List Nat}(h:iT (a::l)):a<=reachBytes:=by unfold iT at h;simp at h;exact h.1
theorem iT.tail{a:Nat}{l:List Nat}(h:iT (a::l)):iT l:=by unfold iT at*;simp at h ⊢;exact h.2
theorem bAr{e:bQb}{l:List (DataW H)}(h:iT (DataW.weightsAll PG e l)):∀d∈l,iT (d.weights PG e):=by
 induction l with
 |nil=>simp
 |cons a l ih=>
  intro d hd
  rw[DataW.weightsAll]at h
  rcases bJ4.1 hd with rfl|hd
  ·exact h.left
  ·exact ih h.right d hd
theorem cW.app{a:List bQa}{s:List TV}(h:cW w a s){b:List bQa}{t:List TV}(k:cW w b t):cW w (a++b) (s++t):=by
 induction a generalizing s with
 |nil=>cases h;exact k
 |cons x a ih=>cases h with |cons hx E=>exact .cons hx (ih E)
theorem aPm{α:Type}{c:α->List TV}{sz:Nat}{L:List bQa}:∀(l:List α) (off:Nat),(∀i a,l[i]? =some a->cW w ((L.drop (off+i*sz)).take sz) (c a))->cW w ((L.drop off).take (l.length*sz)) (l.flatMap c)
 | [],off,_=>by simp;exact .nil
 | a::l,off,h=>by
  rw[bIV,bJT,bJW,List.take_add,List.drop_drop,bLp]
  refine cW.app ?_ (aPm l (off+sz) fun i b K=> ?_)
  ·have:=h 0 a rfl
   rwa [bJU,Nat.add_zero]at this
  ·have:=h (i+1) b (by simpa using K)
   rwa [bJT,bJW (i*sz),←bKu]at this
theorem aLG{a:Addr}{v:bQa}(h:w.cell? a=some v):a=⟨a.block,a.off,none⟩/\∃cs el fr,w.heap[a.block]? =some (.cells cs el fr):=by
 obtain⟨b,o,s⟩:=a
 unfold World.cell? at h
 split at h
 ·next c el fr K=>
  cases s with
  |none=>exact⟨rfl,c,el,fr,K⟩
  |some s=>simp at h
 ·cases h
theorem aNK{α:Type}[Inhabited α]{t e:bQb}{sz bytes:Nat}{c:α->List TV}{Q:α->Prop}{n:Nat}{cs:List bQa}{x:DataW H×List MemPlace}(ht:PG.underlying t=some (.slice e))(hc:PG.cellsOf e=sz)(hsz:0<sz)(K:PG.bytesOf e=bytes)(h4:4<=bytes)(a':∀a,(c a).length=sz)
  (h:wM enc w n t cs=some x) (C:iT (x.1.weights PG t)) (elem:∀m ds y,m<n->ds.length=sz->wM enc w m e ds=some y->iT (y.1.weights PG e)->∃a,cW w ds (c a)/\Q a):
  ∃(A:Option Addr) (n k:Nat) (l:List α),cs=[.slice A n k]/\WT w (.slice A n k) (tL sz (l.flatMap c))/\(∀a∈l,Q a)/\l.length<=35184372088832:=by
 rcases DataW.trod_slice ht h with ⟨rfl, -⟩|⟨a,len,cap,elems,rest,m,hn,rfl,rfl, -,E,hm,M,b',F, -⟩
 ·exact⟨none,0,0,[],rfl,.emn,(fun a h=>by cases h),by simp⟩
 ·have F:=F rfl
  simp only[DataW.weights,ht]at C
  have N:=C.head
  rw[bJB,bJB,M,F.1,K]at N
  have O:len+(cap-len)=cap:=by omega
  rw[O]at N
  have Z:reachBytes<=140737488355328:=by decide
  have f':cap*4<=cap*bytes:=Nat.mul_le_mul_left _ h4
  have c':cap<=35184372088832:=by omega
  have P:=bAr (C.tail.left)
  have key:∀i,i<len->∃p:α×List bQa,p.2.length=sz/\(∀j,j<sz->w.cell? ((a.add (i*sz)).add j)=p.2[j]?)/\cW w p.2 (c p.1)/\Q p.1:=by
   intro i B
   have h1:=b' i B
   rw[hc,bJM (by omega)]at h1
   obtain⟨ds,h2,h3⟩:=bIL.1 h1
   obtain⟨-,h5,h6⟩:=World.cells?_some h2
   obtain⟨y,G,hq⟩:=elem m ds _ (by omega) h5 h3 (P _ (bJF.2 ⟨_,List.getElem_mem (show i<elems.length by omega),rfl⟩))
   exact⟨(y,ds),h5,h6,G,hq⟩
  obtain⟨f,hf⟩:=choose_lt (α:=α×List bQa) key
  rcases Nat.eq_zero_or_pos len with h0|h0
  ·subst h0
   exact⟨some a,0,cap,[],rfl,.ems a cap,(fun a h=>by cases h),by simp⟩
  ·obtain⟨g1,g2, -⟩:=hf 0 h0
   have I:=g2 0 hsz
   rw[bJM (by omega),bJU]at I
   have R:(a.add 0).add 0=a:=by simp [Addr.add]
   rw[R]at I
   obtain⟨hs,cl,el,fr,u⟩:=aLG I
   obtain⟨b,off,s⟩:=a
   obtain rfl:s=none:=by injection hs
   have u:w.heap[b]? =some (.cells cl el fr):=u
   have S:∀i j,w.cell? (((⟨b,off,none⟩:Addr).add (i*sz)).add j)=cl[off+(i*sz+j)]? :=fun i j=>by
    rw[nB,nB,uU u,bKu]
   have T:∃ds:List bQa,ds.length=sz/\∀j,j<sz->w.cell? (((⟨b,off,none⟩:Addr).add ((cap-1)*sz)).add j)=ds[j]? :=by
    rcases bIT (cap-1) len with h1|h1
    ·obtain⟨k1,k2, -⟩:=hf (cap-1) h1
     exact⟨_,k1,k2⟩
    ·have h2:=F.2 (cap-1-len) (by omega)
     rw[show len+(cap-1-len)=cap-1 by omega,hc,bJM (by omega)]at h2
     obtain⟨ds,h3, -⟩:=bIL.1 h2
     obtain⟨-,h5,h6⟩:=World.cells?_some h3
     exact⟨ds,h5,h6⟩
   have hsize:off+cap*sz<=cl.size:=by
    obtain⟨ds,k1,k2⟩:=T
    have U:=k2 (sz-1) (by omega)
    rw[S,bJM (by omega)]at U
    have k4:=(Array.getElem?_eq_some_iff.1 U).1
    have k5:(cap-1)*sz+sz=cap*sz:=by
     rw[←bJT,Nat.succ_eq_add_one,Nat.sub_add_cancel (by omega)]
    omega
   refine⟨some ⟨b,off,none⟩,len,cap,(bJh len).map fun i=>(f i).1,rfl, ?_,fun y G=> ?_,by simp;omega⟩
   ·have V:cW w ((cl.toList.drop off).take (len*sz)) (((bJh len).map fun i=>(f i).1).flatMap c):=by
     have:=aPm (w:=w) (c:=c) (sz:=sz) (L:=cl.toList) ((bJh len).map fun i=>(f i).1) off fun i y B=>by
      have W:i<len:=by have:=(bJs.1 B).1;simpa using this
      obtain⟨k1,k2,U, -⟩:=hf i W
      have G:y=(f i).1:=by
       rw[List.getElem?_map,List.getElem?_range W]at B
       simpa using B.symm
      rw[G]
      have e:(cl.toList.drop (off+i*sz)).take sz=(f i).2:=by
       refine List.ext_getElem? fun j=> ?_
       rcases bIT j sz with hj|hj
       ·rw[List.getElem?_take_of_lt hj,List.getElem?_drop,Array.getElem?_toList,←k2 j hj,S,bKu]
       ·rw[bLr (by rw[bIW];omega),bLr (by omega)]
      rw[e];exact U
     simpa using this
    have d':((bJh len).map fun i=>(f i).1).flatMap c≠ []:=by
     obtain⟨k,rfl⟩:∃k,len=k+1:=⟨len-1,by omega⟩
     rw[List.range_succ_eq_map,bJu,bLp]
     intro e
     have:=congrArg List.length e
     rw[bJ3,a']at this
     simp at this;omega
    have e:tL sz (((bJh len).map fun i=>(f i).1).flatMap c)= .im sz (((bJh len).map fun i=>(f i).1).flatMap c):=by
     cases h9:((bJh len).map fun i=>(f i).1).flatMap c with
     |nil=>exact absurd h9 d'
     |cons y l=>rfl
    rw[e]
    exact .im u E hsize V
   ·obtain⟨i,B,rfl⟩:=bJF.1 G
    exact(hf i (List.mem_range.1 B)).2.2.2
theorem aWr{n:Nat}{cs:List bQa}{x:DataW H×List MemPlace}(h:wM enc w n 45 cs=some x)(C:iT (x.1.weights PG 45)):∃v xs,cs=[v]/\WT w v (tW xs)/\bC xs:=by
 obtain⟨A,k,c,l,rfl,h1,h2, -⟩:=aNK (α:=Nat) (c:=fun x=>[wc x]) (Q:=fun a=>a<4294967296) (sz:=1) (bytes:=4) underlying45 (by kernel_rfl) (by omega) (by kernel_rfl) (by omega) (fun _=>rfl) h C (fun m ds y _ _ G _=>by
  obtain⟨k,rfl, -,g⟩:=DataW.trod_int underlying100 G
  have h1:0<=k/\k<=4294967295:=by
   simp only[Lit.wf,bIN,decide_eq_true_eq]at g
   exact⟨g.1,g.2⟩
  refine⟨k.toNat, ?_,by omega⟩
  rw[show k=((k.toNat:Nat):Int) by omega]
  exact .cons (.int _ _) .nil)
 refine⟨_,l,rfl, ?_,h2⟩
 have e:l.flatMap (fun x=>[wc x])=l.map wc:=by
  clear h1 h2
  induction l with
  |nil=>rfl
  |cons a l ih=>rw[bLp,ih];rfl
 rw[e]at h1
 exact h1
theorem aFR{α:Type}{l:List α}(h:l.length=2):∃a b,l=[a,b]:=by
 match l,h with
 | [a,b],_=>exact⟨a,b,rfl⟩
theorem bGd{n:Nat}{cs:List bQa}{x:DataW H×List MemPlace}(h:wM enc w n 47 cs=some x)(C:iT (x.1.weights PG 47)):∃z:Bool×List Nat,cW w cs [.b z.1,tW z.2]/\bC z.2:=by
 obtain⟨xs,m,rfl,rfl,E,J,hf⟩:=DataW.trod_struct underlying47 h
 rw[show PG.cellsOf 47=2 by kernel_rfl]at E
 obtain⟨a,b,rfl⟩:=aFR E
 obtain⟨X,Y,rfl⟩:=aFR (show xs.length=2 from J)
 have h0:=hf 0 _ rfl
 have h1:=hf 1 _ rfl
 rw[show PG.cellsOf _=1 by kernel_rfl]at h0 h1
 have D:iT (DataW.weightsEach PG [4,45] [X.1,Y.1]):=by
  simp only[DataW.weights,underlying47]at C
  exact C
 obtain⟨q,e0, -⟩:=DataW.trod_bool underlying4 (show wM enc w m 4 [a]=some X from h0)
 cases e0
 obtain⟨v,ys,e1,k1,k2⟩:=aWr (show wM enc w m 45 [b]=some Y from h1) (by
  simp only[DataW.weightsEach]at D
  exact D.right.left)
 cases e1
 exact⟨(q,ys),.cons (.b _) (.cons k1 .nil),k2⟩
theorem aXZ{n:Nat}{cs:List bQa}{x:DataW H×List MemPlace}(h:wM enc w n 24 cs=some x)(C:iT (x.1.weights PG 24)):
  ∃(A:Option Addr) (k c:Nat) (l:List (Bool×List Nat)) (r:Int),cs=[.slice A k c,.int .i64 r]/\WT w (.agg #[.slice A k c,.int .i64 r]) (tF l r)/\(∀x∈l,bC x.2)/\l.length<9223372036854775807/\ -9223372036854775808<=r/\r<9223372036854775808:=by
 obtain⟨xs,m,rfl,rfl,E,J,hf⟩:=DataW.trod_struct underlying24 h
 rw[show PG.cellsOf 24=2 by kernel_rfl]at E
 obtain⟨a,b,rfl⟩:=aFR E
 obtain⟨X,Y,rfl⟩:=aFR (show xs.length=2 from J)
 have h0:=hf 0 _ rfl
 have h1:=hf 1 _ rfl
 rw[show PG.cellsOf _=1 by kernel_rfl]at h0 h1
 have D:iT (DataW.weightsEach PG [22,3] [X.1,Y.1]):=by
  simp only[DataW.weights,underlying24]at C
  exact C
 obtain⟨A,k,c,l,e0,k1,k2,U⟩:=aNK (α:=Bool×List Nat) (c:=eV.c) (Q:=fun x=>bC x.2) (sz:=2) (bytes:=32) underlying22 (by kernel_rfl) (by omega) (by kernel_rfl) (by omega) eV.len (show wM enc w m 22 [a]=some X from h0) (by
  simp only[DataW.weightsEach]at D
  exact D.left) (fun m ds y _ _ G e'=>bGd G e')
 cases e0
 obtain⟨r,e1, -,g⟩:=DataW.trod_int underlying3 (show wM enc w m 3 [b]=some Y from h1)
 cases e1
 have hr: -9223372036854775808<=r/\r<=9223372036854775807:=by
  simp only[Lit.wf,bIN,decide_eq_true_eq]at g
  exact⟨g.1,g.2⟩
 exact⟨A,k,c,l,r,rfl,.ag (.cons k1 (.cons (.int _ _) .nil)),k2,by omega,hr.1,by omega⟩
end
end
end Go.Proofs.YtmjoaipkaddkbaaGreatDoor.Ev
namespace Go.Proofs.YtmjoaipkaddkbaaGreatDoor
section
open Go Go.RowKit
def xZ{α:Type}(sz:Nat)(R:bQ9->List bQa->α->Prop)(w:bQ9)(v:bQa)(xs:List α):Prop:=
 ∃ (A:Option Addr) (c:Nat),v= .slice A xs.length c/\xs.length<=c/\xs.length<=35184372088832/\
  (xs≠ []->∃b off:Nat,A=some ⟨b,off,none⟩/\b<w.heap.size/\
   ∀k x,xs[k]? =some x->∃cs:List bQa,cs.length=sz/\(∀j u,cs[j]? =some u->w.cell? ⟨b,off+(k*sz+j),none⟩=some u)/\R w cs x)
theorem aVD{w w':bQ9}{base e size n:Nat}{v:bQa}{xs:List bQa}(h:w.ownsRow base e size v n xs)(hx:bE w w'):w'.ownsRow base e size v n xs:=by
 refine⟨h.1, ?_⟩
 rcases h.2 with h1|⟨g,cap,cQ,h1,h2,C,h4⟩
 ·exact .inl h1
 ·have H:g<w.heap.size:=by
   rcases bIT g w.heap.size with H|hge
   ·exact H
   ·rw[Array.getElem?_eq_none hge]at C;cases C
  exact .inr ⟨g,cap,cQ,h1,h2,(hx.block g H).trans C,h4⟩
theorem aI6{w1 X w4:bQ9}{row:Option Nat}(q:X.grownBy w4 row)(h:bE w1 X)(hr:∀r,row=some r->w1.heap.size<=r):bE w1 w4:=Below.grown h q h.size hr
def gU{α:Type}(row:Option Nat)(R:bQ9->List bQa->α->Prop)(w:bQ9)(ds:List bQa)(x:α):Prop:=∀w',w.grownBy w' row->R w' ds x
theorem aLd(w:bQ9)(row:Option Nat):w.grownBy w row:=⟨rfl,rfl,rfl,bIK _,fun _ _ _=>rfl⟩
theorem aVu{w a b:bQ9}{row:Option Nat}(h:bE w a)(q:a.grownBy b row):w.grownBy b row:=
 ⟨q.os.trans h.os,q.tape.trans h.tape,q.output.trans h.output,bIO h.size q.size,fun k y D=>(q.block k (bIP y h.size) D).trans (h.block k y)⟩
theorem gU.out{α:Type}{row:Option Nat}{R:bQ9->List bQa->α->Prop}{w:bQ9}{ds:List bQa}{x:α}(h:gU row R w ds x):R w ds x:=h w (aLd w row)
theorem gU.ext{α:Type}{row:Option Nat}{R:bQ9->List bQa->α->Prop}{w w':bQ9}{ds:List bQa}{x:α}(h:gU row R w ds x)(hx:bE w w'):gU row R w' ds x:=fun W q=>h W (aVu hx q)
theorem gU.grown{α:Type}{row:Option Nat}{g:Nat}{R:bQ9->List bQa->α->Prop}{w w':bQ9}{ds:List bQa}{x:α}(h:gU row R w ds x)(q:w.grownBy w' row)(U:row=some g\/g=w.heap.size):gU (some g) R w' ds x:=fun W L=>
 h W ⟨L.os.trans q.os,L.tape.trans q.tape,L.output.trans q.output,bIO q.size L.size,fun k y D=>(L.block k (bIP y q.size) (by
  intro e
  injection e with e
  subst e
  rcases U with h1|h1
  ·exact D h1.symm
  ·omega)).trans (q.block k y D)⟩
def eL{α:Type}(T sz:Nat)(R:bQ9->List bQa->α->Prop)(base:Nat)(w:bQ9)(v:bQa)(l:List α):Prop:=
 ∃xs,w.ownsRow base T sz v l.length xs/\∀k x,l[k]? =some x->∃ds,ds.length=sz/\(∀j u,ds[j]? =some u->xs[k*sz+j]? =some u)/\gU v.ownBlock R w ds x
section
variable {α:Type}{T sz:Nat}{R:bQ9->List bQa->α->Prop}{base:Nat}{w w':bQ9}{v:bQa}{l:List α}
section
variable {α:Type}{T sz:Nat}{R:bQ9->List bQa->α->Prop}{base:Nat}{w w':bQ9}{v:bQa}{l:List α}
theorem eL.nil:eL T sz R base w (.slice none 0 0) ([]:List α):=⟨[],World.ownsRow_nil _ _ _ _,fun k x h=>by simp at h⟩
theorem eL.ext(h:eL T sz R base w v l)(hx:bE w w'):eL T sz R base w' v l:=by
 obtain⟨xs,J,M⟩:=h
 refine⟨xs,aVD J hx,fun k x y=> ?_⟩
 obtain⟨ds,h1,h2,C⟩:=M k x y
 exact⟨ds,h1,h2,C.ext hx⟩
theorem eL.form(h:eL T sz R base w v l):∃A c,v= .slice A l.length c:=by
 obtain⟨xs,J, -⟩:=h
 rcases J.2 with ⟨rfl,hn⟩|⟨g,cap,cQ,rfl, -⟩
 ·exact⟨none,0,by rw[hn]⟩
 ·exact⟨_,_,rfl⟩
theorem eL.lt(h:eL T sz R base w v l):∀r,v.ownBlock=some r->base<=r/\r<w.heap.size:=by
 obtain⟨xs,J, -⟩:=h
 exact J.lt
theorem eL.append{X:bQ9}{xs news:List bQa}{m g cap:Nat}{l':List α}(Z:xs.length=l.length*sz)(M:∀k x,l[k]? =some x->∃ds,ds.length=sz/\(∀j u,ds[j]? =some u->xs[k*sz+j]? =some u)/\gU v.ownBlock R X ds x)
  (a':∀k x,l'[k]? =some x->∃ds,ds.length=sz/\(∀j u,ds[j]? =some u->news[k*sz+j]? =some u)/\gU v.ownBlock R X ds x) (hm:l'.length=m)
  (b':w'.ownsRow base T sz (.slice (some ⟨g,0,none⟩) (l.length+m) cap) (l.length+m) (xs++news)) (q:X.grownBy w' v.ownBlock) (U:v.ownBlock=some g\/g=X.heap.size):
  eL T sz R base w' (.slice (some ⟨g,0,none⟩) (l++l').length cap) (l++l'):=by
 subst hm
 refine⟨xs++news,by rw[bJ3];exact b',fun k x y=> ?_⟩
 rcases bIT k l.length with H|hge
 ·rw[bKN H]at y
  obtain⟨ds,h1,h2,C⟩:=M k x y
  refine⟨ds,h1,fun j u I=> ?_,C.grown q U⟩
  have:=h2 j u I
  rw[bKN ((bJs.1 this).1)]
  exact this
 ·rw[bLA hge]at y
  obtain⟨ds,h1,h2,C⟩:=a' _ x y
  refine⟨ds,h1,fun j u I=> ?_,C.grown q U⟩
  have:=h2 j u I
  rw[bLA (by rw[Z];have:=bJ8 sz hge;omega)]
  rw[show k*sz+j-xs.length=(k-l.length)*sz+j by rw[Z,Nat.sub_mul];have:=bJ8 sz hge;omega]
  exact this
end
end
theorem xZ.flat{α:Type}{sz:Nat}{R:bQ9->List bQa->α->Prop}{w:bQ9}:∀ {xs:List α} {b off:Nat},(∀k x,xs[k]? =some x->∃cs:List bQa,cs.length=sz/\(∀j u,cs[j]? =some u->w.cell? ⟨b,off+(k*sz+j),none⟩=some u)/\R w cs x)->
  ∃news:List bQa,news.length=xs.length*sz/\(∀j u,news[j]? =some u->w.cell? (Addr.add ⟨b,off,none⟩ j)=some u)/\(∀u∈news,∃(k:Nat) (x:α) (cs:List bQa),xs[k]? =some x/\R w cs x/\u∈cs)/\∀k x,xs[k]? =some x->∃ds,ds.length=sz/\(∀j u,ds[j]? =some u->news[k*sz+j]? =some u)/\R w ds x:=by
 intro xs
 induction xs with
 |nil=>intro b off _;exact⟨[],by simp,fun j u h=>by simp at h,fun u h=>by simp at h,fun k x h=>by simp at h⟩
 | cons a l ih=>
  intro b off h
  obtain⟨cs,h1,h2,C⟩:=h 0 a rfl
  obtain⟨news,n1,n2,n3,n4⟩:=ih (b:=b) (off:=off+sz) (fun k x y=>by
   obtain⟨ds,d1,d2,d3⟩:=h (k+1) x (by simpa using y)
   refine⟨ds,d1,fun j u I=> ?_,d3⟩
   have:=d2 j u I
   rw[show off+((k+1)*sz+j)=off+sz+(k*sz+j) by rw[bJp];omega]at this
   exact this)
  refine⟨cs++news,by rw[bJ3,h1,n1,bIV,bJp];omega,fun j u I=> ?_,fun u hu=> ?_,fun k x y=> ?_⟩
  ·rw[Addr.add_lit]
   rcases bIT j cs.length with H|hge
   ·rw[bKN H]at I
    have:=h2 j u I
    rw[bJU,bJl]at this
    exact this
   ·rw[bLA hge]at I
    have:=n2 _ u I
    rw[Addr.add_lit,show off+sz+(j-cs.length)=off+j by omega]at this
    exact this
  ·rcases bJE.1 hu with hu|hu
   ·exact⟨0,a,cs,rfl,C,hu⟩
   ·obtain⟨k,x,ds,e1,e2,e3⟩:=n3 u hu
    exact⟨k+1,x,ds,by simpa using e1,e2,e3⟩
  ·rcases k with _|k
   ·simp at y
    subst y
    refine⟨cs,h1,fun j u I=> ?_,C⟩
    rw[bJU,bJl,bKN ((bJs.1 I).1)]
    exact I
   ·obtain⟨ds,d1,d2,d3⟩:=n4 k x (by simpa using y)
    refine⟨ds,d1,fun j u I=> ?_,d3⟩
    rw[bLA (by rw[h1,bJp];omega),show(k+1)*sz+j-cs.length=k*sz+j by rw[h1,bJp];omega]
    exact d2 j u I
section
variable {P:Program}
theorem aUQ(w:bQ9)(t ty e:bQb)(i:TypeInfo)(z:bQa)(size bytes:Nat)(V:P.underlying t=some (.slice e))(Y:P.info? e=some i)(hz:i.zero=some z)(hsize:i.size=size)(N:i.bytes=bytes)(O:z.cells.size=size)(hsz:0<size)
  {α:Type} {R:bQ9->List bQa->α->Prop} {base:Nat} {v:bQa} {l:List α} (f:eL e size R base w v l) {xv:bQa} {ys:List α} (F:xZ size (gU v.ownBlock R) w xv ys) (G:∀w ds x,R w ds x->∀u∈ds,u.oneCell'=true)
  (S:l.length+ys.length<=maxLen) (d:(l.length+ys.length)*bytes<=140737488355328) (p:base<=w.heap.size):
  ∃v' w',(Builtin.append_ #[t,t] ty #[v,xv]).run P w= .ok v' w'/\eL e size R base w' v' (l++ys)/\w.grownBy w' v.ownBlock/\(v'.ownBlock=v.ownBlock\/v'.ownBlock=some w.heap.size):=by
 obtain⟨A,c,rfl,hl,hm,hc⟩:=F
 by_cases D:ys=[]
 ·subst D
  have hS:Src P i.size t (.slice A ([]:List α).length c) 0 [] w:=by
   cases A with
   |none=>exact Src.ofNil (P:=P) w V c
   |some a=>exact Src.ofSlice (P:=P) w V a 0 c [] (by simp) (fun j u h=>by simp at h) (fun u h=>by simp at h)
  have e':∃B n cp,v= .slice B n cp/\n<=cp:=by
   obtain⟨xs,J, -⟩:=f
   rcases J.2 with ⟨rfl, -⟩|⟨g,cap,cQ,rfl, -, -,h1, -⟩
   ·exact⟨none,0,0,rfl,bIK _⟩
   ·exact⟨_,_,_,rfl,h1⟩
  obtain⟨B,n,cp,rfl,hn⟩:=e'
  exact⟨_,w,run_append_nothing (P:=P) w t t ty e i V Y B n cp hn _ hS,by simpa using f,aLd _ _,.inl rfl⟩
 ·obtain⟨b,off,rfl,hb,M⟩:=hc D
  obtain⟨news,n1,n2,n3,n4⟩:=xZ.flat (R:=gU v.ownBlock R) M
  obtain⟨xs,J,hx⟩:=f
  have c':0<ys.length:=List.length_pos_iff.2 D
  obtain⟨g,cap,w',h1,h2,C,h4,h5⟩:=run_append_lies (P:=P) w t ty base e i z size bytes V Y hz hsize N O hsz v l.length xs J ⟨b,off,none⟩ ys.length c news n1 n2 (fun u hu=>by
   obtain⟨k,x,cs, -,h6,h7⟩:=n3 u hu
   exact G _ _ _ h6.out u h7) c' S d p w.heap.size rfl
  refine⟨_,w',h1, ?_,C, ?_⟩
  ·have:=eL.append (l':=ys) J.1 hx n4 rfl h2 C h4
   rw[bJ3]at this
   exact this
  ·rcases h4 with h4|h4
   ·left;rw[h4];rfl
   ·right;rw[h4];rfl
theorem aUW(w:bQ9){o:Oper}{a:Act}{K:Act->bQ9->Prop}{Q:Exit->Act->bQ9->Prop}(s x:Operand)(t:bQb)
  (J:o.op= .call { callee:= .builtin .append,args:= #[s,x],argTypes:= #[t,t] })
  (e:bQb) (i:TypeInfo) (z:bQa) (size bytes:Nat) (V:P.underlying t=some (.slice e)) (Y:P.info? e=some i) (hz:i.zero=some z) (hsize:i.size=size) (N:i.bytes=bytes) (O:z.cells.size=size) (hsz:0<size)
  {α:Type} {R:bQ9->List bQa->α->Prop} {base:Nat} (v:bQa) {l:List α} (hs:a.eval s=v) (f:eL e size R base w v l) (xv:bQa) {ys:List α} (hx:a.eval x=xv) (F:xZ size (gU v.ownBlock R) w xv ys) (G:∀w ds x,R w ds x->∀u∈ds,u.oneCell'=true)
  (S:l.length+ys.length<=maxLen) (d:(l.length+ys.length)*bytes<=140737488355328) (p:base<=w.heap.size)
  (h:∀A c w',eL e size R base w' (.slice A (l++ys).length c) (l++ys)->w.grownBy w' v.ownBlock->((Value.slice A (l++ys).length c).ownBlock=v.ownBlock\/(Value.slice A (l++ys).length c).ownBlock=some w.heap.size)->K (a.put o.dst (.slice A (l++ys).length c)) w'):o.wp P a w K Q:=by
 obtain⟨v',w',hr,h2,C,h4⟩:=aUQ (P:=P) w t o.type e i z size bytes V Y hz hsize N O hsz f F G S d p
 obtain⟨A,c,rfl⟩:=h2.form
 unfold Oper.wp execOp
 simp only[J,resolve,invoke,builtin,Sem.run_bind,Sem.run_pure,Result.andThen_ok,List.map_toArray,bJu,List.map_nil,hs,hx,hr]
 exact h A c w' h2 C h4
theorem aKX(w:bQ9){d':Array Oper}{o:Oper}{a:Act}{K:Act->bQ9->Prop}{Q:Exit->Act->bQ9->Prop}{E:Prop}(f':o.guard=none)(s x:Operand)(t:bQb)
  (J:o.op= .call { callee:= .builtin .append,args:= #[s,x],argTypes:= #[t,t] })
  (e:bQb) (i:TypeInfo) (z:bQa) (size bytes:Nat) (V:P.underlying t=some (.slice e)) (Y:P.info? e=some i) (hz:i.zero=some z) (hsize:i.size=size) (N:i.bytes=bytes) (O:z.cells.size=size) (hsz:0<size)
  {α:Type} {R:bQ9->List bQa->α->Prop} {base:Nat} (v:bQa) {l:List α} (hs:a.eval s=v) (f:eL e size R base w v l) (xv:bQa) {ys:List α} (hx:a.eval x=xv) (F:xZ size (gU v.ownBlock R) w xv ys) (G:∀w ds x,R w ds x->∀u∈ds,u.oneCell'=true)
  (S:l.length+ys.length<=maxLen) (d:(l.length+ys.length)*bytes<=140737488355328) (p:base<=w.heap.size)
  (h:∀A c w',eL e size R base w' (.slice A (l++ys).length c) (l++ys)->w.grownBy w' v.ownBlock->((Value.slice A (l++ys).length c).ownBlock=v.ownBlock\/(Value.slice A (l++ys).length c).ownBlock=some w.heap.size)->K (a.put o.dst (.slice A (l++ys).length c)) w'):
  if Region.wanted o (yielded d' a.tmps)=true then Oper.wp P o a w K Q else E:=by
 have hw:Region.wanted o (yielded d' a.tmps)=true:=by simp [Region.wanted,f']
 rw[if_pos hw]
 exact aUW w s x t J e i z size bytes V Y hz hsize N O hsz v hs f xv hx F G S d p h
end
end
end Go.Proofs.YtmjoaipkaddkbaaGreatDoor