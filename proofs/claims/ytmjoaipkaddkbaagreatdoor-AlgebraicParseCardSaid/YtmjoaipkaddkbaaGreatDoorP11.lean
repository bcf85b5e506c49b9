/- Part of a proof. -/
import Derived.Test.YtmjoaipkaddkbaaGreatDoorP10
noncomputable section
open Nat renaming reduceBEq → zB, reduceEqDiff → zC, reduceAdd → zD, reduceMul → zE, reduceSub → zF, reduceLT → zG, reduceLeDiff → zH
open List renaming append_nil→bKQ,drop→bLW,drop_drop→bMi,drop_length→bNo,drop_zero→bJV,getD_eq_getElem?_getD→bK0,length_drop→bK3,length_take→bJO,mem_append→bKy,take→bLM,take_length→bKp,take_of_length_le→bJU,take_succ_eq_append_getElem→bLd
open Nat renaming le_refl→bJE,lt_irrefl→bKl,lt_succ_self→bJT,min_eq_left→bK7,mod_eq_of_lt→bKg,pow_le_pow_right→bK2,sub_self→bKS,zero_mul→bL8
set_option maxRecDepth 10000000
open Go
open Go.Proofs.Tryz
namespace Go.Proofs.YtmjoaipkaddkbaaGreatDoor
namespace Ev
variable {m:Nat}
theorem aQb{et:fP}{x:Nat}(h1:48<=x)(h2:x<256):bU et .sub (.int .u8 (x:Int)) (.int .u8 ((48:Nat):Int))=some (.int .u8 ((x-48:Nat):Int)):=by
 simp only[bU,dX,if_true]
 rw[show(x:Int)-((48:Nat):Int)=((x-48:Nat):Int) by omega,aDJ,bKg (by omega)]
theorem n8u:nP PG 5 103=some .u64:=by kernel_rfl
theorem bAa:jW PG 45 .nil=some (.int .i64 ((0:Nat):Int)):=by kernel_rfl
theorem lG{r:bB}{l:List UInt8}{lo hi:Option Operand}:jB PG 9 r (.str (bs l)) lo hi none=(eL r 0 lo).bind fun a=>(eL r l.length hi).bind fun b=>if a<=b/\b<=l.length then some (.str (bs ((l.drop a).take (b-a))))else none:=by
 simp only[jB,aHc,aGX,qT,bHb]
 rfl
theorem bDu{s:VS}{k2:Nat}{y:Nat}(a4:k2<s.nxt)(a5:s.ob k2=⟨0,[.int .u32 (y:Nat)]⟩):gT PG 100 s .nil (.ow k2 0 1 1)=some (.ow s.nxt 0 1 1,s.new [.int .u32 (y:Nat)]):=
 aGk (E:=wE) (l2:=[y]) c1 s1 (aFI (E:=wE) (l:=[y]) a4 (by rw[a5,aB6];rfl) (by decide)) (fun e=>by cases e) (show(1:Nat)<=10000000 by decide)
theorem aYH{n:Bool}{k:Nat}(h:(aO k).length<10000000):VX (m+2) 79 [.b n,tW (aO k)]=some (tI (sg n k),false):=by
 refine bX rfl func79 aMc rfl ?_
 simp only[f79,N1,bC,bF,bH,bG,bE,zB,zG]
 simp (disch:=first|rfl|omega)only[S1,aN,aC,aE,aM,aJ,zB,zD,aAF,kJ]
 refine cM (fun e=> ?_) (fun e=> ?_)
 ·have e0:k=0:=by have:=List.eq_nil_of_length_eq_zero (ae e);exact tA.1 this
  simp (disch:=first|rfl|omega)only[S1,aD,zB,reduceCtorEq,zD,zG,zH,fO,aJM]
  rw[e0];cases n<;>rfl
 ·have e0:=af e
  simp (disch:=first|rfl|omega)only[S1,aD,zB,reduceCtorEq,zD,zG,zH]
  rw[aGI]
  have h1:decide (0<(aO k).length)=true:=ak (by omega)
  rw[h1,Bool.and_true]
theorem aNm{n:Bool}{k:Nat}(h:(aO k).length<10000000):VZ (m+2) 79 [.b n,tW (aO k)]=some (tI (sg n k),false):=yz _ _ _ _ (xy _ _ _ _ (aYH h))
theorem aPV{f:FuncId}{orc:cP}{R:TV}{s s1:VS}{args a1 a2:List TV}(h1:cY cL s args=some (a1,s1))(h2:cG a1=a2)(hc:orc f a2=some (R,false))(hs:fX R=false):fF orc f args s=some (R,s1):=by
 unfold fF
 rw[h1]
 simp only[Option.bind_some,h2,hc,Bool.false_eq_true,if_false,hs]
theorem bC5{f:FuncId}{orc:cP}{R:TV}{s:VS}{n:Bool}{k len:Nat}{zs:List Nat}(hc:orc f [.b n,tW zs]=some (R,false))(hs:fX R=false)(hk:k<s.nxt)(ho:s.ob k=⟨0,zs.map wc⟩)(hl:len=zs.length)(hb:len<40000000):fF orc f [.b n,.ow k 0 len 1] s=some (R,s.set k ⟨1,zs.map wc⟩):=by
 refine aPV (oY (n:=99999999) rfl (oY (xZ hk ho (by omega) hb (by decide)) rfl)) ?_ hc hs
 rw[bJV,hl,bKp]
 simp only[cG,yQ]
 rfl
theorem bA3{f:FuncId}{orc:cP}{R:TV}{s:VS}{n:Bool}(hc:orc f [.b n,tW []]=some (R,false))(hs:fX R=false):fF orc f [.b n,.nil] s=some (R,s):=
 aPV (a1:=[.b n,.nil]) rfl rfl hc hs
theorem aJz{s:VS}{z e:Int}:dJ s [tI z,.int .i64 e]=some (.tp [tI z,.int .i64 e],false):=aBQ (Can.cons (pM z) (Can.cons (cQ.int _ _) Can.nil)) (by simp only[bT,cV,aAW];decide)
theorem aRm(z:Int):fX (tI z)=false:=by cases hn:aO z.natAbs<;>simp only[tI,ci,hn,fX,lA,tW,List.map_nil,List.map_cons,tL]<;>rfl
theorem aBK{s:VS}{e:Int}:dJ s [.ag [.b false,.nil],.int .i64 e]=some (.tp [tI 0,.int .i64 e],false):=by
 have h:=aJM (s:=s)
 unfold tI ci at h ⊢
 rw[show aO (0:Int).natAbs=[]from gH]
 rfl
def oO:Option Int->TV
 |some z=> .tp [tI z,.int .i64 ((0:Nat):Int)]
 |none=> .tp [tI 0,.int .i64 ((2:Nat):Int)]
theorem aJX{ds:List UInt8}(h0:ds≠ []):(ds.head? =some 48)↔(ds.getD 0 0).toNat=48:=by
 cases ds with
 |nil=>exact absurd rfl h0
 |cons b l=>
  show some b=some 48↔b.toNat=48
  constructor
  ·intro e;rw[Option.some.inj e];rfl
  ·intro e;exact congrArg some (UInt8.toNat.inj e)
theorem bBk:bO PG 32 f32 [3,2,92,72,70,71,58,48,46,47,40,36] []=true:=by kernel_rfl
set_option maxHeartbeats 4000000 in
theorem bFB{w:List UInt8}(h:w.length<=80):VZ (m+6) 32 [.str (bs w)]=some (oO (gM w),false):=by
 have hc:=aTo (m:=m+4) (bs w) ⟨#[45]⟩
 rw[show(bs w).data.toList=w from rfl,show(⟨#[45]⟩:ByteArray).data.toList=[45]from rfl]at hc
 obtain⟨ds,X⟩:∃ds,ds=Lib.trimPrefix w [45]:=⟨_,rfl⟩
 obtain⟨z,d'⟩:∃z:Int,Lib.hasPrefix w [45]=decide (z<0):=by
  cases Lib.hasPrefix w [45]with
  |true=>exact⟨-1,rfl⟩
  |false=>exact⟨0,rfl⟩
 have f':∀y,w=cD y->ds=Lib.decDigits y.natAbs/\decide (z<0)=decide (y<0):=fun y e=>by
  rw[X,←d',e];exact aFO y
 have T:=fun h0 hr hh=>bF8 (w:=w) X.symm d' h0 hr hh
 have g':ds.length<=80:=by
  rw[X]
  unfold Lib.trimPrefix
  split
  ·rw[bK3];omega
  ·exact h
 rw[←X,d']at hc
 change CC (VZ (m+5)) 29 [.str (bs w),.str ⟨#[45]⟩] (.tp [.str (bs ds),.b (decide (z<0))])at hc
 clear d' X
 have g1:decide (65536<w.length)=false:=ai (by omega)
 refine bX rfl func32 bBk rfl ?_
 simp only[f32,N1,bC,bF,bH,bG,bE,zB,zG]
 by_cases o:ds=[]
 ·have hn:gM w=none:=aDp fun y e=>aE0 _ ((f' y e).1.symm.trans o)
  have U:decide (ds=[])=true:=ak o
  rw[hn]
  simp (disch:=first|rfl|omega)only[S1,aN,aC,aE,aM,aJ,aD,zB,reduceCtorEq,zD,zG,zH,TS,g1,U,fO,aBK,oO,vJ 29 rfl,hc _]
 have U:decide (ds=[])=false:=ai o
 have o':0<ds.length:=List.length_pos_iff.2 o
 have A:=aB2 o'
 by_cases g:ds.head? =some 48/\(1<ds.length\/decide (z<0)=true)
 ·have hn:gM w=none:=aDp fun y e=>by
   obtain⟨k1,k2⟩:=f' y e
   by_cases hy:y=0
   ·rw[hy]at k1 k2
    rw[k1,k2]at g
    rcases g.2 with hb|hb
    ·rw[show Lib.decDigits (0:Int).natAbs=[48]from oA (by decide)]at hb
     revert hb;decide
    ·revert hb;decide
   ·rw[k1]at g
    exact bBd y.natAbs (by omega) g.1
  have hh:decide ((ds.getD 0 0).toNat=48)=true:=ak ((aJX o).1 g.1)
  rw[hn]
  by_cases m':1<ds.length
  ·have g6:decide (1<ds.length)=true:=ak m'
   simp (disch:=first|rfl|omega)only[S1,aN,aC,aE,aM,aJ,aD,zB,reduceCtorEq,zD,zG,zH,TS,g1,U,A,hh,g6,fO,aBK,oO,vJ 29 rfl,hc _]
  ·have g6:decide (1<ds.length)=false:=ai m'
   have hz:=g.2.resolve_left m'
   simp (disch:=first|rfl|omega)only[S1,aN,aC,aE,aM,aJ,aD,zB,reduceCtorEq,zD,zG,zH,TS,g1,U,A,hh,g6,hz,fO,aBK,oO,vJ 29 rfl,hc _]
 by_cases Y:ds.head? =some 48
 focus
  have hh:decide ((ds.getD 0 0).toNat=48)=true:=ak ((aJX o).1 Y)
  have g6:decide (1<ds.length)=false:=ai fun e=>g ⟨Y,.inl e⟩
  simp (disch:=first|rfl|omega)only[S1,aN,aC,aE,aM,aJ,zB,TS,g1,U,A,hh,g6,vJ 29 rfl,hc _]
  refine cM (fun e=>absurd ⟨Y,.inr (ak (ae e))⟩ g) (fun e=> ?_)
  clear e
  simp (disch:=first|rfl|omega)only[S1,aC,aE,aM,aJ,zB]
 rotate_left
 focus
  have hh:decide ((ds.getD 0 0).toNat=48)=false:=ai fun e=>Y ((aJX o).2 e)
  simp (disch:=first|rfl|omega)only[S1,aN,aC,aE,aM,aJ,zB,TS,g1,U,A,hh,vJ 29 rfl,hc _]
 all_goals
  clear Y hc A
  have p:∀b∈ds,¬(48<=b.toNat/\b.toNat<=57)->gM w=none:=fun b hb a6=>aDp fun y e=>a6 (by
   rw[(f' y e).1]at hb;exact aDj _ b hb)
  clear f'
  refine .loop (fun n e s=>∃k v,k<=ds.length/\n=ds.length-k/\(∀b∈ds.take k,48<=b.toNat/\b.toNat<=57)/\1<=s.nxt/\s.ob 0=⟨0,[.b false,.nil]⟩/\e 2=some (.po 0 0)/\e 3=some (.int .i64 ((0:Nat):Int))/\e 4=some (.str (bs (ds.drop k)))/\e 5=some (.b (decide (z<0)))/\e 6=some v/\((v= .nil/\fL (ds.take k)=0)\/∃b,v= .ow b 0 (aO (fL (ds.take k))).length 1/\0<b/\b<s.nxt/\s.ob b=⟨0,(aO (fL (ds.take k))).map wc⟩)) ds.length ?_ (dB (by omega)) ?_
  ·refine⟨0,.nil,Nat.zero_le _,rfl,(fun b hb=>by cases hb),bJE _,rfl, ?_, ?_, ?_, ?_, ?_,.inl ⟨rfl,rfl⟩⟩<;>simp (disch:=first|rfl|omega)only[S1,zB]
  ·rintro n e s ⟨k,v,hk,rfl,hr,sn,s0,B,D,G,H,u,hv⟩
   by_cases hc:k<ds.length
   ·have hl:(ds.drop k).length=ds.length-k:=bK3
    have g2:decide (0<(ds.drop k).length)=true:=ak (by omega)
    simp (disch:=first|rfl|omega)only[S1,aN,aC,aE,aM,aJ,zB,TS,G,g2]
    generalize I:ds.drop k=dk at*
    obtain⟨N,hN⟩:∃N,N=(dk.length-1)%9+1:=⟨_,rfl⟩
    have b5:N<=9:=by omega
    have a7:N<=dk.length:=by have:=Nat.mod_le (dk.length-1) 9;omega
    refine .up (fun i Z s'=>(∀b∈dk.take i,48<=b.toNat/\b.toNat<=57)/\s'=s/\Z 2=some (.po 0 0)/\Z 3=some (.int .i64 ((0:Nat):Int))/\Z 4=some (.str (bs dk))/\Z 5=some (.b (decide (z<0)))/\Z 6=some v/\Z 7=some (.int .i64 (N:Nat))/\Z 46=some (.int .i64 (N:Nat))/\Z 47=some (.int .i64 (i:Nat))/\Z 8=some (.int .u64 (fL (dk.take i):Nat))/\Z 9=some (.int .u64 (10^i:Nat))) N ?_ (dB (by omega)) ?_
    ·refine⟨(fun b hb=>by cases hb),rfl, ?_, ?_, ?_, ?_, ?_, ?_, ?_, ?_, ?_, ?_⟩<;>simp (disch:=first|rfl|omega)only[S1,zB,B,D,G,H,u,hN]
     ·rfl
    ·rintro i Z s' hi ⟨h',rfl,B,D,G,H,u,P,a',b',J,e9⟩
     by_cases p':i<N
     ·have g3:decide (i<N)=true:=ak p'
      have hj:i<dk.length:=by omega
      have A:=aB2 hj
      obtain⟨x,hx⟩:∃x,x=(dk.getD i 0).toNat:=⟨_,rfl⟩
      have hm:dk.getD i 0∈dk:=by simp [hj]
      have q':dk.getD i 0∈ds:=List.mem_of_mem_drop (show dk.getD i 0∈ds.drop k by rw[I];exact hm)
      have b6:x<256:=by rw[hx];exact UInt8.toNat_lt _
      rw[←hx]at A
      have ht:dk.take (i+1)=dk.take i++[dk.getD i 0]:=by
       rw[bLd hj];simp [hj]
      by_cases n':48<=x
      rotate_left
      ·have hn:=p _ q' (fun q=>n' (by rw[hx];exact q.1))
       have g4:decide (x<48)=true:=ak (by omega)
       rw[hn]
       clear p T
       simp (disch:=first|rfl|omega)only[S1,aC,aE,aM,aJ,aD,zB,reduceCtorEq,zD,zH,TS,B,D,G,a',b',g3,A,g4,fO,aBK,oO,s0]
      by_cases r':x<=57
      rotate_left
      ·have hn:=p _ q' (fun q=>r' (by rw[hx];exact q.2))
       have g4:decide (x<48)=false:=ai (by omega)
       have g5:decide (57<x)=true:=ak (by omega)
       rw[hn]
       clear p T
       simp (disch:=first|rfl|omega)only[S1,aC,aE,aM,aJ,aD,zB,reduceCtorEq,zD,zH,TS,B,D,G,a',b',g3,A,g4,g5,fO,aBK,oO,s0]
      obtain⟨V,hV⟩:∃V,V=fL (dk.take i):=⟨_,rfl⟩
      obtain⟨F,hF⟩:∃F,F=10^i:=⟨_,rfl⟩
      rw[←hV]at J
      rw[←hF]at e9
      have t':F<=100000000:=by rw[hF];exact bK2 (by decide) (by omega:i<=8)
      have b7:V<F:=by
       have:=yF (dk.take i) (fun b hb=>(h' b hb).2)
       rw[bJO,bK7 (by omega)]at this
       rw[hV,hF];exact this
      have g4:decide (x<48)=false:=ai (by omega)
      have g5:decide (57<x)=false:=ai (by omega)
      simp (disch:=first|rfl|omega)only[S1,aC,aE,aM,aJ,zB,TS,B,D,G,H,u,P,a',b',J,e9,g3,A,g4,g5,aQb n' (by omega),n8u,aIG (show x-48<18446744073709551616 by omega)]
      refine⟨p',fun b hb=> ?_, ?_, ?_⟩
      ·rw[ht,bKy,List.mem_singleton]at hb
       rcases hb with hb|rfl
       ·exact h' b hb
       ·rw[←hx];exact⟨n',r'⟩
      ·rw[ht,aIe,←hV,←hx]
      ·rw[Nat.pow_succ,←hF]
     ·obtain rfl:i=N:=by omega
      have g3:decide (i<i)=false:=ai (bKl i)
      obtain⟨C,hC⟩:∃C,C=fL (dk.take i):=⟨_,rfl⟩
      obtain⟨F,hF⟩:∃F,F=10^i:=⟨_,rfl⟩
      rw[←hC]at J
      rw[←hF]at e9
      have t':F<=1000000000:=by rw[hF];exact bK2 (by decide) (by omega:i<=9)
      have u':C<F:=by
       have:=yF (dk.take i) (fun b hb=>(h' b hb).2)
       rw[bJO,bK7 (by omega)]at this
       rw[hC,hF];exact this
      have i':∀b∈ds.take (k+i),48<=b.toNat/\b.toNat<=57:=fun b hb=>by
       rw[List.take_add,bKy,I]at hb
       rcases hb with hb|hb
       ·exact hr b hb
       ·exact h' b hb
      obtain⟨V,hV⟩:∃V,V=fL (ds.take k):=⟨_,rfl⟩
      have Q:fL (ds.take (k+i))=V*F+C:=by
       rw[hV,hF,hC,←I,List.take_add,aHV,bJO,bK3,bK7 (by rw[←I,bK3]at a7;omega)]
      rw[←hV]at hv
      rcases hv with ⟨rfl,S⟩|⟨b,rfl,v',w',j'⟩
      ·-- no words yet
       simp (disch:=first|rfl|omega)only[S1,aN,aC,aE,aM,aJ,zB,zC,reduceCtorEq,B,D,G,H,u,a',b',g3,bAa]
       refine .up (fun j e d=>d=s'/\e 2=some (.po 0 0)/\e 3=some (.int .i64 ((0:Nat):Int))/\e 4=some (.str (bs dk))/\e 5=some (.b (decide (z<0)))/\e 6=some .nil/\e 7=some (.int .i64 (i:Nat))/\e 70=some (.int .i64 ((0:Nat):Int))/\e 71=some (.int .i64 (j:Nat))/\e 8=some (.int .u64 (C:Nat))) 0 ?_ (by decide) ?_
       ·refine⟨rfl, ?_, ?_, ?_, ?_, ?_, ?_, ?_, ?_, ?_⟩<;>simp (disch:=first|rfl|omega)only[S1,zB,B,D,G,H,u,P,J]
       ·rintro j e d hj ⟨rfl,B,D,G,H,u,P,M,O,J⟩
        obtain rfl:j=0:=by omega
        simp (disch:=first|rfl|omega)only[S1,aC,aE,aM,aJ,zB,zC,reduceCtorEq,zG,B,D,G,H,u,J,M,O]
        refine cM (fun h9=> ?_) (fun h9=> ?_)
        ·have x':=ae h9
         have ea:=bDu (s:=d.new [.int .u32 (C:Nat)]) (k2:=d.nxt) (y:=C) (bJT _) (by rw[gY,beq_self_eq_true];rfl)
         have y':C%4294967296=C:=bKg (by omega)
         rw[tK]at ea
         have b0:(0==d.nxt)=false:=by rw[ao];omega
         have b1:(0==d.nxt+1)=false:=by rw[ao];omega
         simp (disch:=first|rfl|omega)only[S1,aK,aD,zB,zE,zH,aU,B,D,G,H,u,P,J,lG,y',ea,b0,b1,s0]
         have g':dk.length=ds.length-k:=by rw[←I,bK3]
         have W:bLM (dk.length-i) (bLW i dk)=bLW (k+i) ds:=by
          rw[bJU (by rw[bK3];exact bJE _),←I,bMi]
         have a8:aO (fL (ds.take (k+i)))=[C]:=by
          rw[Q,S,bL8,Nat.zero_add,vG (by omega),y',Nat.div_eq_of_lt (by omega),gH]
         refine⟨_, ?_,k+i,_,by omega,rfl,i',by rw[W],rfl, ?_⟩
         ·omega
         ·rw[a8]
          exact .inr ⟨d.nxt+1,rfl,by omega,by omega,by rw[beq_self_eq_true];rfl⟩
        ·have z':C=0:=by have:=af h9;omega
         simp (disch:=first|rfl|omega)only[S1,zB,B,D,G,H,u,P,lG]
         have g':dk.length=ds.length-k:=by rw[←I,bK3]
         have W:bLM (dk.length-i) (bLW i dk)=bLW (k+i) ds:=by
          rw[bJU (by rw[bK3];exact bJE _),←I,bMi]
         refine⟨_, ?_,k+i,.nil,by omega,rfl,i',sn,s0,by rw[W],rfl,.inl ⟨rfl, ?_⟩⟩
         ·omega
         ·rw[Q,S,z',bL8]
      ·-- a row of words
       obtain⟨L,hL⟩:∃L,L=(aO V).length:=⟨_,rfl⟩
       have b8:L<10:=by
        have h1:=yF (ds.take k) (fun b hb=>(hr b hb).2)
        have h2:(10:Nat)^(ds.take k).length<=10^80:=bK2 (by decide) (by rw[bJO];omega)
        have h3:(10:Nat)^80<=4294967296^9:=by decide
        have:=lK (k:=9) (n:=V) (by rw[hV];omega)
        omega
       rw[←hL]at u
       simp (disch:=first|rfl|omega)only[S1,aN,aC,aE,aM,aJ,zB,zC,reduceCtorEq,B,D,G,H,u,a',b',g3]
       refine .up (fun j e d=>∃(c:Nat) (zs:List Nat),d.nxt=s'.nxt/\d.ob 0=⟨0,[.b false,.nil]⟩/\d.ob b=⟨0,zs.map wc⟩/\e 2=some (.po 0 0)/\e 3=some (.int .i64 ((0:Nat):Int))/\e 4=some (.str (bs dk))/\e 5=some (.b (decide (z<0)))/\e 6=some (.ow b 0 L 1)/\e 7=some (.int .i64 (i:Nat))/\e 9=some (.int .u64 (F:Nat))/\e 70=some (.int .i64 (L:Nat))/\e 71=some (.int .i64 (j:Nat))/\e 8=some (.int .u64 (c:Nat))/\zs.length=L/\c=(mA F ((aO V).take j) C).2/\zs=(mA F ((aO V).take j) C).1++(aO V).drop j) L ?_ (dB (by omega)) ?_
       ·refine⟨C,aO V, ?_⟩
        simp (disch:=first|rfl|omega)only[S1,zB,B,D,G,H,u,P,J,e9,s0,j']
        exact⟨hL.symm,rfl,rfl⟩
       ·rintro j e d hj ⟨c,zs,sn',so',sb',B,D,G,H,u,P,e9,M,O,J,zl,k',c'⟩
        have b9:c<F:=by rw[k'];exact aKT _ _ (fun y hy=>cU V y (List.mem_of_mem_take hy)) u'
        by_cases a0:j<L
        ·have g4:decide (j<L)=true:=ak a0
         obtain⟨x,hx⟩:∃x,x=zs.getD j 0:=⟨_,rfl⟩
         have a3:x=(aO V).getD j 0:=by
          rw[hx,c',bK0,List.getElem?_append_right (by rw[aDX,bJO];omega),aDX,bJO,bK7 (by omega),bKS,List.getElem?_drop,Nat.add_zero,bK0]
         have c0:x<4294967296:=by rw[a3];exact(cU V).getD j
         have b2:(0==b)=false:=by rw[ao];omega
         have c2:x*F<=4294967295*1000000000:=Nat.mul_le_mul (by omega) t'
         simp (disch:=first|rfl|omega)only[S1,aC,aE,aM,aJ,zB,reduceCtorEq,B,D,G,H,u,P,J,e9,M,O,g4,sn',so',sb',b2,←hx]
         have ht:(aO V).take (j+1)=(aO V).take j++[x]:=by
          have l':j<(aO V).length:=by omega
          rw[bLd l',a3];simp [l']
         have hm:=aRI F ((aO V).take j) x C
         rw[←ht,←k']at hm
         refine⟨a0,_,_,rfl,rfl,by rw[List.length_set,zl],by rw[hm], ?_⟩
         rw[hm,c']
         have a9:(mA F ((aO V).take j) C).1.length=j:=by rw[aDX,bJO];omega
         have l':j<(aO V).length:=by omega
         rw[List.set_append_right _ _ (by omega),a9,bKS,List.drop_eq_getElem_cons l',List.set_cons_zero,List.append_assoc]
         rfl
        ·obtain rfl:j=L:=by omega
         have b2:(0==b)=false:=by rw[ao];omega
         have g4:decide (j<j)=false:=ai (bKl j)
         rw[hL,bKp]at k' c'
         rw[bNo,bKQ]at c'
         have t:=bBN (V:=V) u' (by omega)
         rw[←Q,←k',←c']at t
         simp (disch:=first|rfl|omega)only[S1,aC,aE,aM,aJ,zB,zC,reduceCtorEq,B,D,G,H,u,J,M,O,g4]
         have g':dk.length=ds.length-k:=by rw[←I,bK3]
         have W:bLM (dk.length-i) (bLW i dk)=bLW (k+i) ds:=by
          rw[bJU (by rw[bK3];exact bJE _),←I,bMi]
         refine cM (fun h9=> ?_) (fun h9=> ?_)
         ·have x':=ae h9
          rw[if_pos x']at t
          have b4:c%4294967296=c:=bKg (by omega)
          have b0:(0==d.nxt)=false:=by rw[ao];omega
          have b1:(0==d.nxt+1)=false:=by rw[ao];omega
          have b3:(b==d.nxt)=false:=by rw[ao];omega
          have ea:=aT1 (s:=d.new [.int .u32 (c:Nat)]) (k:=b) (len:=j) (k2:=d.nxt) (xs:=zs) (y:=c) (Nat.lt_succ_of_lt (by omega)) (by rw[gY,b3];exact sb') zl.symm (by omega) (bJT _) (by rw[gY,beq_self_eq_true];rfl)
          rw[tK]at ea
          simp (disch:=first|rfl|omega)only[S1,aK,aD,zB,zE,zH,aU,B,D,G,H,u,P,J,lG,b4,ea,b0,b1,b2,so']
          refine⟨_, ?_,k+i,_,by omega,rfl,i',by rw[W],rfl,.inr ⟨d.nxt+1, ?_,by omega,by omega, ?_⟩⟩
          ·omega
          ·rw[←t,List.length_append,zl];rfl
          ·rw[←t,beq_self_eq_true];rfl
         ·have z':c=0:=by have:=af h9;omega
          rw[if_neg (by omega),bKQ]at t
          simp (disch:=first|rfl|omega)only[S1,zB,B,D,G,H,u,P,lG,so']
          refine⟨_, ?_,k+i,_,by omega,rfl,i',by omega,by rw[W],rfl,.inr ⟨b, ?_,v',by omega, ?_⟩⟩
          ·omega
          ·rw[←t,zl]
          ·rw[←t,sb']
   ·obtain rfl:k=ds.length:=by omega
    have g2:decide (0<(ds.drop ds.length).length)=false:=by rw[bNo];rfl
    rw[bKp]at hv hr
    have hn:gM w=some (sg (decide (z<0)) (fL ds)):=by rw[T o hr g,yB];rfl
    obtain⟨K,hK⟩:∃K,K=fL ds:=⟨_,rfl⟩
    rw[←hK]at hv hn
    rw[hn]
    clear T g p hn
    rcases hv with ⟨rfl,S⟩|⟨b,rfl,v',w',j'⟩
    ·have hs:VZ (m+5) 79 [.b (decide (z<0)),tW []]=some (tI (sg (decide (z<0)) K),false):=by
      have h:=aNm (m:=m+3) (n:=decide (z<0)) (k:=K) (by rw[S,gH];decide)
      rw[S,gH]at h
      rw[S]
      exact h
     have hs:=bA3 (s:=s) hs (aRm _)
     clear S
     simp (disch:=first|rfl|omega)only[S1,aN,aC,aE,aM,aJ,zB,reduceCtorEq,zD,zH,TI,TS,B,D,G,H,u,g2,s0,aJz,oO,vJ 79 rfl,hs]
    ·have c3:(aO K).length<10:=by
      have h1:=yF ds (fun b hb=>(hr b hb).2)
      have h2:(10:Nat)^ds.length<=10^80:=bK2 (by decide) g'
      have h3:(10:Nat)^80<=4294967296^9:=by decide
      have:=lK (k:=9) (n:=K) (by omega)
      omega
     have hs:VZ (m+5) 79 [.b (decide (z<0)),tW (aO K)]=some (tI (sg (decide (z<0)) K),false):=aNm (m:=m+3) (n:=decide (z<0)) (k:=K) (by omega)
     have hs:=bC5 hs (aRm _) w' j' rfl (by omega)
     have b2:(0==b)=false:=by rw[ao];omega
     simp (disch:=first|rfl|omega)only[S1,aN,aC,aE,aM,aJ,zB,reduceCtorEq,zD,zH,TI,TS,B,D,G,H,u,g2,s0,b2,aJz,oO,vJ 79 rfl,hs]
end Ev
end Go.Proofs.YtmjoaipkaddkbaaGreatDoor
