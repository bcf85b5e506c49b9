/- Part of a proof. -/
import Derived.Test.YtmjoaipkaddkbaaGreatDoorP09
noncomputable section
open Nat renaming reduceBEq → zB, reduceEqDiff → zC, reduceAdd → zD, reduceMul → zE, reduceSub → zF, reduceLT → zG, reduceLeDiff → zH
open List renaming append_nil→bK3,drop→bKZ,drop_drop→bLa,drop_length→bMu,drop_zero→bJd,getD_eq_getElem?_getD→bJb,length_drop→bJj,length_take→bIW,map_cons→bJu,map_nil→bLe,mem_of_mem_take→bKO,take→bKS,take_length→bJy,take_of_length_le→bJ2,take_succ_eq_append_getElem→bKA
open Nat renaming le_refl→bIK,lt_irrefl→bJq,lt_succ_self→bIZ,min_eq_left→bJc,mod_eq_of_lt→bJo,pow_le_pow_right→bJ9,sub_self→bJV,zero_mul→bJU
set_option maxRecDepth 10000000
open Go
open Go.Proofs.Tryz
namespace Go.Proofs.YtmjoaipkaddkbaaGreatDoor.Ev
variable {m:Nat}
theorem bBR{et:fO}{x:Nat}(h1:48<=x)(h2:x<256):bX et .sub (.int .u8 (x:Int)) (.int .u8 ((48:Nat):Int))=some (.int .u8 ((x-48:Nat):Int)):=by
 simp only[bX,dY,if_true]
 rw[show(x:Int)-((48:Nat):Int)=((x-48:Nat):Int) by omega,aDb,bJo (by omega)]
theorem n8u:oE PG 5 103=some .u64:=by kernel_rfl
theorem bBJ:jU PG 45 .nil=some (.int .i64 ((0:Nat):Int)):=by kernel_rfl
theorem aFc{r:bB}{l:List UInt8}{lo hi:Option Operand}:iX PG 9 r (.str (bs l)) lo hi none=(eM r 0 lo).bind fun a=>(eM r l.length hi).bind fun b=>if a<=b/\b<=l.length then some (.str (bs ((l.drop a).take (b-a))))else none:=by
 simp only[iX,aGO,aGP,uT,bFm]
 rfl
theorem bDe{s:VS}{k2:Nat}{y:Nat}(t':k2<s.nxt)(u':s.ob k2=⟨0,[.int .u32 (y:Nat)]⟩):gT PG 100 s .nil (.ow k2 0 1 1)=some (.ow s.nxt 0 1 1,s.new [.int .u32 (y:Nat)]):=
 aG3 (E:=vR) (l2:=[y]) c1 s1 (aFb (E:=vR) (l:=[y]) t' (by rw[u',aAJ];rfl) (by decide)) (fun e=>by cases e) (show(1:Nat)<=10000000 by decide)
theorem aXH{n:Bool}{k:Nat}(h:(aO k).length<10000000):VX (m+2) 79 [.b n,tW (aO k)]=some (tI (sg n k),false):=by
 refine bY rfl func79 aM7 rfl ?_
 simp only[f79,N1,bD,bJ,bM,bL,bH,zB,zG]
 simp (disch:=first|rfl|omega)only[S1,aN,aC,aE,aM,aJ,zB,zD,aAp,kH]
 refine cJ (fun e=> ?_) (fun e=> ?_)
 ·have e0:k=0:=by have:=List.eq_nil_of_length_eq_zero (of_decide_eq_true e);exact sE.1 this
  simp (disch:=first|rfl|omega)only[S1,aD,zB,reduceCtorEq,zD,zG,zH,aJu,aPG]
  rw[e0];cases n<;>rfl
 ·have e0:=of_decide_eq_false e
  simp (disch:=first|rfl|omega)only[S1,aD,zB,reduceCtorEq,zD,zG,zH]
  rw[aGo]
  have h1:decide (0<(aO k).length)=true:=decide_eq_true (by omega)
  rw[h1,Bool.and_true]
theorem aNb{n:Bool}{k:Nat}(h:(aO k).length<10000000):VZ (m+2) 79 [.b n,tW (aO k)]=some (tI (sg n k),false):=yz _ _ _ _ (xy _ _ _ _ (aXH h))
theorem aOV{f:FuncId}{orc:cN}{R:TV}{s s1:VS}{args a1 a2:List TV}(h1:cX cK s args=some (a1,s1))(h2:cL a1=a2)(hc:orc f a2=some (R,false))(hs:fU R=false):fD orc f args s=some (R,s1):=by
 unfold fD
 rw[h1]
 simp only[Option.bind_some,h2,hc,Bool.false_eq_true,if_false,hs]
theorem aZt{f:FuncId}{orc:cN}{R:TV}{s:VS}{n:Bool}{k len:Nat}{zs:List Nat}(hc:orc f [.b n,tW zs]=some (R,false))(hs:fU R=false)(hk:k<s.nxt)(ho:s.ob k=⟨0,zs.map wc⟩)(hl:len=zs.length)(K:len<40000000):fD orc f [.b n,.ow k 0 len 1] s=some (R,s.set k ⟨1,zs.map wc⟩):=by
 refine aOV (oP (n:=99999999) rfl (oP (xC hk ho (by omega) K (by decide)) rfl)) ?_ hc hs
 rw[bJd,hl,bJy]
 simp only[cL,xR]
 rfl
theorem aZ5{f:FuncId}{orc:cN}{R:TV}{s:VS}{n:Bool}(hc:orc f [.b n,tW []]=some (R,false))(hs:fU R=false):fD orc f [.b n,.nil] s=some (R,s):=
 aOV (a1:=[.b n,.nil]) rfl rfl hc hs
theorem aPW{s:VS}{z e:Int}:dM s [tI z,.int .i64 e]=some (.tp [tI z,.int .i64 e],false):=aBy (Can.cons (uW z) (Can.cons (cP.int _ _) Can.nil)) (by simp only[bW,dA,aBX];decide)
theorem aZF:bQ PG 32 f32 [3,2,92,72,70,71,58,48,46,47,40,36] []=true:=by kernel_rfl
theorem bCj{z:Int}(h:(Lib.decDigits z.natAbs).length<=80):VZ (m+6) 32 [.str (bs (dX z))]=some (.tp [tI z,.int .i64 ((0:Nat):Int)],false):=by
 have hc:=aRO (m:=m+4) (bs (dX z)) ⟨#[45]⟩
 rw[show(bs (dX z)).data.toList=dX z from rfl,show(⟨#[45]⟩:ByteArray).data.toList=[45]from rfl,(aR1 z).1,(aR1 z).2]at hc
 change CC (VZ (m+5)) 29 [.str (bs (dX z)),.str ⟨#[45]⟩] (.tp [.str (bs (Lib.decDigits z.natAbs)),.b (decide (z<0))])at hc
 have a0:(dX z).length<=81:=by
  unfold dX
  split
  ·rw[List.length_cons];omega
  ·omega
 have g1:decide (65536<(dX z).length)=false:=decide_eq_false (by omega)
 have b':decide (Lib.decDigits z.natAbs=[])=false:=decide_eq_false (aDq _)
 have c':0<(Lib.decDigits z.natAbs).length:=List.length_pos_iff.2 (aDq _)
 have M:=aTr c'
 refine bY rfl func32 aZF rfl ?_
 simp only[f32,N1,bD,bJ,bM,bL,bH,zB,zG]
 by_cases hz:z=0
 focus
  have Y:Lib.decDigits z.natAbs=[48]:=by rw[hz];exact sH (by decide)
  have hh:decide (((Lib.decDigits z.natAbs).getD 0 0).toNat=48)=true:=by rw[Y];rfl
  have g6:decide (1<(Lib.decDigits z.natAbs).length)=false:=by rw[Y];rfl
  simp (disch:=first|rfl|omega)only[S1,aN,aC,aE,aM,aJ,zB,TS,g1,b',M,hh,g6,vJ 29 rfl,hc _]
  refine cJ (fun e=>absurd (of_decide_eq_true e) (by omega)) (fun e=> ?_)
  clear e Y
  simp (disch:=first|rfl|omega)only[S1,aC,aE,aM,aJ,zB]
 rotate_left
 focus
  have hh:decide (((Lib.decDigits z.natAbs).getD 0 0).toNat=48)=false:=decide_eq_false fun e=>by
   have h1:=bBz z.natAbs (by omega)
   cases hd:Lib.decDigits z.natAbs with
   |nil=>exact aDq _ hd
   |cons b l=>
    rw[hd]at e h1
    refine h1 (congrArg some (UInt8.toNat.inj ?_))
    exact e
  simp (disch:=first|rfl|omega)only[S1,aN,aC,aE,aM,aJ,zB,TS,g1,b',M,hh,vJ 29 rfl,hc _]
 all_goals
  generalize d':Lib.decDigits z.natAbs=ds at*
  have hr:∀b∈ds,48<=b.toNat/\b.toNat<=57:=by rw[←d'];exact aI8 _
  refine .loop (fun n e s=>∃k v,k<=ds.length/\n=ds.length-k/\1<=s.nxt/\s.ob 0=⟨0,[.b false,.nil]⟩/\e 2=some (.po 0 0)/\e 3=some (.int .i64 ((0:Nat):Int))/\e 4=some (.str (bs (ds.drop k)))/\e 5=some (.b (decide (z<0)))/\e 6=some v/\((v= .nil/\jE (ds.take k)=0)\/∃b,v= .ow b 0 (aO (jE (ds.take k))).length 1/\0<b/\b<s.nxt/\s.ob b=⟨0,(aO (jE (ds.take k))).map wc⟩)) ds.length ?_ (dC (by omega)) ?_
  ·refine⟨0,.nil,Nat.zero_le _,rfl,bIK _,rfl, ?_, ?_, ?_, ?_, ?_,.inl ⟨rfl,rfl⟩⟩<;>simp (disch:=first|rfl|omega)only[S1,zB]
  ·rintro n e s ⟨k,v,hk,rfl,sn,s0,p,q,t,u,o,hv⟩
   by_cases hc:k<ds.length
   ·have hl:(ds.drop k).length=ds.length-k:=bJj
    have g2:decide (0<(ds.drop k).length)=true:=decide_eq_true (by omega)
    simp (disch:=first|rfl|omega)only[S1,aN,aC,aE,aM,aJ,zB,TS,t,g2]
    generalize w:ds.drop k=dk at*
    have Q:∀b∈dk,48<=b.toNat/\b.toNat<=57:=fun b K=>hr b (by rw[←w]at K;exact List.mem_of_mem_drop K)
    obtain⟨N,hN⟩:∃N,N=(dk.length-1)%9+1:=⟨_,rfl⟩
    have a3:N<=9:=by omega
    have v':N<=dk.length:=by have:=Nat.mod_le (dk.length-1) 9;omega
    refine .up (fun i O s'=>s'=s/\O 2=some (.po 0 0)/\O 3=some (.int .i64 ((0:Nat):Int))/\O 4=some (.str (bs dk))/\O 5=some (.b (decide (z<0)))/\O 6=some v/\O 7=some (.int .i64 (N:Nat))/\O 46=some (.int .i64 (N:Nat))/\O 47=some (.int .i64 (i:Nat))/\O 8=some (.int .u64 (jE (dk.take i):Nat))/\O 9=some (.int .u64 (10^i:Nat))) N ?_ (dC (by omega)) ?_
    ·refine⟨rfl, ?_, ?_, ?_, ?_, ?_, ?_, ?_, ?_, ?_, ?_⟩<;>simp (disch:=first|rfl|omega)only[S1,zB,p,q,t,u,o,hN]
     ·rfl
    ·rintro i O s' hi ⟨rfl,p,q,t,u,o,H,Z,a',D,X⟩
     by_cases f':i<N
     ·have g3:decide (i<N)=true:=decide_eq_true f'
      have hj:i<dk.length:=by omega
      have M:=aTr hj
      obtain⟨x,hx⟩:∃x,x=(dk.getD i 0).toNat:=⟨_,rfl⟩
      have hm:dk.getD i 0∈dk:=by simp [hj]
      have g':=(Q _ hm).1
      have w':=(Q _ hm).2
      rw[←hx]at M g' w'
      obtain⟨V,hV⟩:∃V,V=jE (dk.take i):=⟨_,rfl⟩
      obtain⟨F,S⟩:∃F,F=10^i:=⟨_,rfl⟩
      rw[←hV]at D
      rw[←S]at X
      have h':F<=100000000:=by rw[S];exact bJ9 (by decide) (by omega:i<=8)
      have a4:V<F:=by
       have:=aD7 (dk.take i) (fun b K=>(Q b (bKO K)).2)
       rw[bIW,bJc (by omega)]at this
       rw[hV,S];exact this
      have g4:decide (x<48)=false:=decide_eq_false (by omega)
      have g5:decide (57<x)=false:=decide_eq_false (by omega)
      simp (disch:=first|rfl|omega)only[S1,aC,aE,aM,aJ,zB,TS,p,q,t,u,o,H,Z,a',D,X,g3,M,g4,g5,bBR g' (by omega),n8u,aIf (show x-48<18446744073709551616 by omega)]
      have ht:dk.take (i+1)=dk.take i++[dk.getD i 0]:=by
       rw[bKA hj];simp [hj]
      refine⟨f', ?_, ?_⟩
      ·rw[ht,aYc,←hV,←hx]
      ·rw[Nat.pow_succ,←S]
     ·obtain rfl:i=N:=by omega
      have g3:decide (i<i)=false:=decide_eq_false (bJq i)
      obtain⟨C,hC⟩:∃C,C=jE (dk.take i):=⟨_,rfl⟩
      obtain⟨F,S⟩:∃F,F=10^i:=⟨_,rfl⟩
      rw[←hC]at D
      rw[←S]at X
      have h':F<=1000000000:=by rw[S];exact bJ9 (by decide) (by omega:i<=9)
      have i':C<F:=by
       have:=aD7 (dk.take i) (fun b K=>(Q b (bKO K)).2)
       rw[bIW,bJc (by omega)]at this
       rw[hC,S];exact this
      obtain⟨V,hV⟩:∃V,V=jE (ds.take k):=⟨_,rfl⟩
      have G:jE (ds.take (k+i))=V*F+C:=by
       rw[hV,S,hC,←w,List.take_add,aHt,bIW,bJj,bJc (by rw[←w,bJj]at v';omega)]
      rw[←hV]at hv
      rcases hv with ⟨rfl,I⟩|⟨b,rfl,j',k',T⟩
      ·-- no words yet
       simp (disch:=first|rfl|omega)only[S1,aN,aC,aE,aM,aJ,zB,zC,reduceCtorEq,p,q,t,u,o,Z,a',g3,bBJ]
       refine .up (fun j e d=>d=s'/\e 2=some (.po 0 0)/\e 3=some (.int .i64 ((0:Nat):Int))/\e 4=some (.str (bs dk))/\e 5=some (.b (decide (z<0)))/\e 6=some .nil/\e 7=some (.int .i64 (i:Nat))/\e 70=some (.int .i64 ((0:Nat):Int))/\e 71=some (.int .i64 (j:Nat))/\e 8=some (.int .u64 (C:Nat))) 0 ?_ (by decide) ?_
       ·refine⟨rfl, ?_, ?_, ?_, ?_, ?_, ?_, ?_, ?_, ?_⟩<;>simp (disch:=first|rfl|omega)only[S1,zB,p,q,t,u,o,H,D]
       ·rintro j e d hj ⟨rfl,p,q,t,u,o,H,A,B,D⟩
        obtain rfl:j=0:=by omega
        simp (disch:=first|rfl|omega)only[S1,aC,aE,aM,aJ,zB,zC,reduceCtorEq,zG,p,q,t,u,o,D,A,B]
        refine cJ (fun h9=> ?_) (fun h9=> ?_)
        ·have l':=of_decide_eq_true h9
         have ea:=bDe (s:=d.new [.int .u32 (C:Nat)]) (k2:=d.nxt) (y:=C) (bIZ _) (by rw[iP,beq_self_eq_true];rfl)
         have m':C%4294967296=C:=bJo (by omega)
         rw[sN]at ea
         have b0:(0==d.nxt)=false:=by rw[beq_eq_false_iff_ne];omega
         have b1:(0==d.nxt+1)=false:=by rw[beq_eq_false_iff_ne];omega
         simp (disch:=first|rfl|omega)only[S1,aK,aD,zB,zE,zH,aY,p,q,t,u,o,H,D,aFc,m',ea,b0,b1,s0]
         have n':dk.length=ds.length-k:=by rw[←w,bJj]
         have J:bKS (dk.length-i) (bKZ i dk)=bKZ (k+i) ds:=by
          rw[bJ2 (by rw[bJj];exact bIK _),←w,bLa]
         have x':aO (jE (ds.take (k+i)))=[C]:=by
          rw[G,I,bJU,Nat.zero_add,uM (by omega),m',Nat.div_eq_of_lt (by omega),gW]
         refine⟨_, ?_,k+i,_,by omega,rfl,by rw[J],rfl, ?_⟩
         ·omega
         ·rw[x']
          exact .inr ⟨d.nxt+1,rfl,by omega,by omega,by rw[beq_self_eq_true];rfl⟩
        ·have o':C=0:=by have:=of_decide_eq_false h9;omega
         simp (disch:=first|rfl|omega)only[S1,zB,p,q,t,u,o,H,aFc]
         have n':dk.length=ds.length-k:=by rw[←w,bJj]
         have J:bKS (dk.length-i) (bKZ i dk)=bKZ (k+i) ds:=by
          rw[bJ2 (by rw[bJj];exact bIK _),←w,bLa]
         refine⟨_, ?_,k+i,.nil,by omega,rfl,sn,s0,by rw[J],rfl,.inl ⟨rfl, ?_⟩⟩
         ·omega
         ·rw[G,I,o',bJU]
      ·-- a row of words
       obtain⟨L,hL⟩:∃L,L=(aO V).length:=⟨_,rfl⟩
       have a5:L<10:=by
        have h1:=aD7 (ds.take k) (fun b K=>(hr b (bKO K)).2)
        have h2:(10:Nat)^(ds.take k).length<=10^80:=bJ9 (by decide) (by rw[bIW];omega)
        have h3:(10:Nat)^80<=4294967296^9:=by decide
        have:=lY (k:=9) (n:=V) (by rw[hV];omega)
        omega
       rw[←hL]at o
       simp (disch:=first|rfl|omega)only[S1,aN,aC,aE,aM,aJ,zB,zC,reduceCtorEq,p,q,t,u,o,Z,a',g3]
       refine .up (fun j e d=>∃(c:Nat) (zs:List Nat),d.nxt=s'.nxt/\d.ob 0=⟨0,[.b false,.nil]⟩/\d.ob b=⟨0,zs.map wc⟩/\e 2=some (.po 0 0)/\e 3=some (.int .i64 ((0:Nat):Int))/\e 4=some (.str (bs dk))/\e 5=some (.b (decide (z<0)))/\e 6=some (.ow b 0 L 1)/\e 7=some (.int .i64 (i:Nat))/\e 9=some (.int .u64 (F:Nat))/\e 70=some (.int .i64 (L:Nat))/\e 71=some (.int .i64 (j:Nat))/\e 8=some (.int .u64 (c:Nat))/\zs.length=L/\c=(mA F ((aO V).take j) C).2/\zs=(mA F ((aO V).take j) C).1++(aO V).drop j) L ?_ (dC (by omega)) ?_
       ·refine⟨C,aO V, ?_⟩
        simp (disch:=first|rfl|omega)only[S1,zB,p,q,t,u,o,H,D,X,s0,T]
        exact⟨hL.symm,rfl,rfl⟩
       ·rintro j e d hj ⟨c,zs,sn',so',sb',p,q,t,u,o,H,X,A,B,D,zl,U,P⟩
        have a6:c<F:=by rw[U];exact aK9 _ _ (fun y hy=>cV V y (bKO hy)) i'
        by_cases p':j<L
        ·have g4:decide (j<L)=true:=decide_eq_true p'
         obtain⟨x,hx⟩:∃x,x=zs.getD j 0:=⟨_,rfl⟩
         have q':x=(aO V).getD j 0:=by
          rw[hx,P,bJb,List.getElem?_append_right (by rw[aDv,bIW];omega),aDv,bIW,bJc (by omega),bJV,List.getElem?_drop,Nat.add_zero,bJb]
         have a7:x<4294967296:=by rw[q'];exact(cV V).getD j
         have b2:(0==b)=false:=by rw[beq_eq_false_iff_ne];omega
         have a8:x*F<=4294967295*1000000000:=Nat.mul_le_mul (by omega) h'
         simp (disch:=first|rfl|omega)only[S1,aC,aE,aM,aJ,zB,reduceCtorEq,p,q,t,u,o,H,D,X,A,B,g4,sn',so',sb',b2,←hx]
         have ht:(aO V).take (j+1)=(aO V).take j++[x]:=by
          have W:j<(aO V).length:=by omega
          rw[bKA W,q'];simp [W]
         have hm:=aQc F ((aO V).take j) x C
         rw[←ht,←U]at hm
         refine⟨p',_,_,rfl,rfl,by rw[List.length_set,zl],by rw[hm], ?_⟩
         rw[hm,P]
         have y':(mA F ((aO V).take j) C).1.length=j:=by rw[aDv,bIW];omega
         have W:j<(aO V).length:=by omega
         rw[List.set_append_right _ _ (by omega),y',bJV,List.drop_eq_getElem_cons W,List.set_cons_zero,List.append_assoc]
         rfl
        ·obtain rfl:j=L:=by omega
         have b2:(0==b)=false:=by rw[beq_eq_false_iff_ne];omega
         have g4:decide (j<j)=false:=decide_eq_false (bJq j)
         rw[hL,bJy]at U P
         rw[bMu,bK3]at P
         have g:=bBI (V:=V) i' (by omega)
         rw[←G,←U,←P]at g
         simp (disch:=first|rfl|omega)only[S1,aC,aE,aM,aJ,zB,zC,reduceCtorEq,p,q,t,u,o,D,A,B,g4]
         have n':dk.length=ds.length-k:=by rw[←w,bJj]
         have J:bKS (dk.length-i) (bKZ i dk)=bKZ (k+i) ds:=by
          rw[bJ2 (by rw[bJj];exact bIK _),←w,bLa]
         refine cJ (fun h9=> ?_) (fun h9=> ?_)
         ·have l':=of_decide_eq_true h9
          rw[if_pos l']at g
          have z':c%4294967296=c:=bJo (by omega)
          have b0:(0==d.nxt)=false:=by rw[beq_eq_false_iff_ne];omega
          have b1:(0==d.nxt+1)=false:=by rw[beq_eq_false_iff_ne];omega
          have b3:(b==d.nxt)=false:=by rw[beq_eq_false_iff_ne];omega
          have ea:=aSt (s:=d.new [.int .u32 (c:Nat)]) (k:=b) (len:=j) (k2:=d.nxt) (xs:=zs) (y:=c) (Nat.lt_succ_of_lt (by omega)) (by rw[iP,b3];exact sb') zl.symm (by omega) (bIZ _) (by rw[iP,beq_self_eq_true];rfl)
          rw[sN]at ea
          simp (disch:=first|rfl|omega)only[S1,aK,aD,zB,zE,zH,aY,p,q,t,u,o,H,D,aFc,z',ea,b0,b1,b2,so']
          refine⟨_, ?_,k+i,_,by omega,rfl,by rw[J],rfl,.inr ⟨d.nxt+1, ?_,by omega,by omega, ?_⟩⟩
          ·omega
          ·rw[←g,List.length_append,zl];rfl
          ·rw[←g,beq_self_eq_true];rfl
         ·have o':c=0:=by have:=of_decide_eq_false h9;omega
          rw[if_neg (by omega),bK3]at g
          simp (disch:=first|rfl|omega)only[S1,zB,p,q,t,u,o,H,aFc,so']
          refine⟨_, ?_,k+i,_,by omega,rfl,by omega,by rw[J],rfl,.inr ⟨b, ?_,j',by omega, ?_⟩⟩
          ·omega
          ·rw[←g,zl]
          ·rw[←g,sb']
   ·obtain rfl:k=ds.length:=by omega
    have g2:decide (0<(ds.drop ds.length).length)=false:=by rw[bMu];rfl
    rw[bJy]at hv
    have r':jE ds=z.natAbs:=by rw[←d'];exact bCa _
    rw[r']at hv
    rcases hv with ⟨rfl,I⟩|⟨b,rfl,j',k',T⟩
    ·have hs:VZ (m+5) 79 [.b (decide (z<0)),tW []]=some (tI z,false):=by
      have h:=aNb (m:=m+3) (n:=decide (z<0)) (k:=z.natAbs) (by rw[I,gW];decide)
      rw[aBz,I,gW]at h
      exact h
     have hs:=aZ5 (s:=s) hs (by cases hn:aO z.natAbs<;>simp only[tI,ci,hn,fU,kM,tW,bLe,bJu,tL]<;>rfl)
     clear I
     simp (disch:=first|rfl|omega)only[S1,aN,aC,aE,aM,aJ,zB,reduceCtorEq,zD,zH,TI,TS,p,q,t,u,o,g2,s0,aPW,vJ 79 rfl,hs]
    ·have a9:(aO z.natAbs).length<10:=by
      have h1:=aD7 ds (fun b K=>(hr b K).2)
      have h2:(10:Nat)^ds.length<=10^80:=bJ9 (by decide) h
      have h3:(10:Nat)^80<=4294967296^9:=by decide
      rw[r']at h1
      have:=lY (k:=9) (n:=z.natAbs) (by omega)
      omega
     have hs:VZ (m+5) 79 [.b (decide (z<0)),tW (aO z.natAbs)]=some (tI z,false):=by
      have h:=aNb (m:=m+3) (n:=decide (z<0)) (k:=z.natAbs) (by omega)
      rw[aBz]at h
      exact h
     have hs:=aZt hs (by cases hn:aO z.natAbs<;>simp only[tI,ci,hn,fU,kM,tW,bLe,bJu,tL]<;>rfl) k' T rfl (by omega)
     have b2:(0==b)=false:=by rw[beq_eq_false_iff_ne];omega
     simp (disch:=first|rfl|omega)only[S1,aN,aC,aE,aM,aJ,zB,reduceCtorEq,zD,zH,TI,TS,p,q,t,u,o,g2,s0,b2,aPW,vJ 79 rfl,hs]
end Go.Proofs.YtmjoaipkaddkbaaGreatDoor.Ev