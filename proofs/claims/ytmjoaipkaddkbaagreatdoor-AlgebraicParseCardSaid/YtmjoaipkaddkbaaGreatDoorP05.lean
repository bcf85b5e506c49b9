/- Part of a proof. -/
import Derived.Test.YtmjoaipkaddkbaaGreatDoorP04
noncomputable section
open Nat renaming reduceBEq → zB, reduceEqDiff → zC, reduceAdd → zD, reduceMul → zE, reduceSub → zF, reduceLT → zG, reduceLeDiff → zH
open List renaming drop_zero→bJV,length_set→bKT,replicate→bJL
open Nat renaming add_sub_cancel→bKs,le_of_lt→bKb,le_trans→bJH,lt_of_lt_of_le→bJK,lt_trans→bKV,mul_lt_mul_of_pos_right→bNd,pow_le_pow_right→bK2
set_option maxRecDepth 10000000
open Go
open Go.Proofs.Tryz
namespace Go.Proofs.YtmjoaipkaddkbaaGreatDoor
namespace Ev
variable {m:Nat}
theorem aQz{orc:cP}{f:FuncId}{R:TV}{s:VS}{k off len:Nat}{zs:List Nat}(hc:orc f [tW ((zs.drop off).take len)]=some (R,false))(hk:k<s.nxt)(ho:s.ob k=⟨0,zs.map wc⟩)(hl:off+len<=zs.length)(hb:len<40000000):dC orc f [.ow k off len 1] s=some (R,s.set k ⟨1,zs.map wc⟩):=by
 unfold dC
 rw[show cL=99999999+1 from rfl,oY (xZ hk ho hl hb (by decide)) rfl]
 simp only[Option.bind_some,cG,yQ,hc,Bool.false_eq_true,if_false]
theorem aF8:bO PG 177 f177 [5,4,151,141,134,18,17,16,90,42,26,19] []=true:=by kernel_rfl
set_option maxHeartbeats 4000000 in
theorem bDY{a b n p:Nat}(P:¬a<b)(i':2<n)(hn:(aO a).length=n)(hm:(aO b).length=p+2)(ha:n<=2000000):VX (m+4) 177 [tW (aO a),tW (aO b)]=some (.tp [tW (aO (a/b)),tW (aO (a%b))],false):=by
 refine bX rfl func177 aF8 rfl ?_
 simp only[f177,N1,bC,bF,bH,bG,bE,zB,zG]
 have hC:=aBy (m:=m) (a:=a) (b:=b) (by omega)
 rw[if_neg P]at hC
 obtain⟨r,hr⟩:∃r:Nat,(if b<a then(1:Int)else 0)=(r:Int):=by
  split
  ·exact⟨1,rfl⟩
  ·exact⟨0,rfl⟩
 rw[hr]at hC
 have j':p+2<=n:=by have:=oX (Nat.le_of_not_lt P);omega
 obtain⟨s,hs,k',O,E,C⟩:=aMJ (m:=p+1) hm
 have Z:=aMl hn j' hs E
 have F:(aO (b*2^s)).length=p+2:=aLt (bJH (by omega) E) C
 have G:=(cU b).getD (p+1)
 have hZ:=bFU (m:=m+1) G
 rw[show 32-blen ((aO b).getD (p+1) 0)=s by omega]at hZ
 obtain⟨R,s1,e1,hR,n1, -,xs0,ox,xl,xL,xv⟩:=aTl (xs:=aO a) (sh:=s) (s:=dZ) (orc:=VX (m+3)) (by omega) (cU a) hs
 obtain⟨R2,s2,e2,r',n2,o2,ys0,oy,yl,yL,yv⟩:=aTl (xs:=aO b) (sh:=s) (s:=s1) (orc:=VX (m+3)) (by omega) (cU b) hs
 have n1:s1.nxt=1:=n1
 have hR:R= .ow 0 0 (n+1) 1:=by rw[hR,hn];rfl
 rw[n1]at n2 oy o2 r'
 rw[hm]at r'
 subst hR r'
 have ox2:s2.ob 0=⟨0,xs0.map wc⟩:=(o2 0 (by omega)).trans ox
 rw[hn]at xl
 rw[hm]at yl
 rw[cO]at xv yv
 have ht:=aDk (zs:=ys0) (k:=1) (len:=p+2+1) (s:=s2) (orc:=VX (m+3)) (by omega) oy yl (by omega)
 have s':cJ ys0=aO (b*2^s):=by rw[iI yL,yv]
 rw[s',F]at ht
 have a3:ys0.take (p+2)=aO (b*2^s):=by rw[←s'];conv=>rhs;rw[nA,s',F]
 generalize l':b*2^s=V at*
 generalize a4:a*2^s=U at*
 have J:0<V:=bJK (Nat.mul_pos (aDr (p+1)) (by decide)) E
 obtain⟨l,hl⟩:∃l,n-(p+1)=l:=⟨_,rfl⟩
 have m':n+1-(p+2)=l:=by omega
 have g1:decide (n<=2)=false:=ai (by omega)
 have a':p+2-1=p+1:=rfl
 have b':p+2-2=p:=rfl
 obtain⟨hh,t'⟩:∃h,ys0.getD (p+1) 0=h:=⟨_,rfl⟩
 obtain⟨nn,u'⟩:∃h,ys0.getD p 0=h:=⟨_,rfl⟩
 have bh:=yL.getD (p+1)
 have bn:=yL.getD p
 rw[t']at bh
 rw[u']at bn
 simp (disch:=first|rfl|omega)only[S1,aN,aC,aE,aM,aJ,zB,zC,reduceCtorEq,zD,zG,hn,hm,a',b',vJ 180 rfl,hC _,Nat.not_lt_zero,g1,vJ 245 rfl,hZ _,e1,e2,ht,m',n2,oy,t',u']
 have c':iz l=((l-1:Nat):Int):=wA (by omega)
 refine .loop (fun k e s3=>k<=l/\s3.nxt=3/\∃xs qs:List Nat,s3.ob 0=⟨0,xs.map wc⟩/\s3.ob 1=⟨0,ys0.map wc⟩/\s3.ob 2=⟨0,qs.map wc⟩/\e 8=some (.int .i64 (s:Nat))/\e 9=some (.ow 0 0 (n+1) 1)/\e 10=some (.ow 1 0 (p+2) 1)/\e 11=some (.int .i64 ((p+2:Nat):Int))/\e 12=some (.ow 2 0 l 1)/\e 13=some (.int .u64 (hh:Nat))/\e 14=some (.int .u64 (nn:Nat))/\e 15=some (.int .i64 (iz k))/\xs.length=n+1/\bD xs/\qs.length=l/\bD qs/\yV U V k xs qs) l ?_ (dB (by omega)) ?_
 ·have hq:(s2.new (List.map wc (bJL l 0))).ob 2=⟨0,(bJL l 0).map wc⟩:=by rw[gY,n2];rfl
  refine⟨Nat.le_refl _,by rw[tK,n2],xs0,bJL l 0,by rw[gY,n2];exact ox2,by rw[gY,n2];exact oy,hq, ?_⟩
  simp (disch:=first|rfl|omega)only[S1,zB]
  exact⟨xl,xL,qO _,aPk xv (by omega) (by rw[←hl];exact Z)⟩
 ·rintro k e s3 ⟨hk,K,xs,qs,z0,z1,z2,S,T,c,v,w,x,y,z,zl,zL,ql,qL,hI⟩
  simp (disch:=first|rfl|omega)only[S1,aC,aE,aM,aJ,zB,z]
  refine cM (fun h=> ?_) (fun h=> ?_)
  ·have h2:=ae h
   obtain⟨j,rfl⟩:∃j,k=j+1:=⟨k-1,by omega⟩
   have hU:=aLK zL (by omega) hI
   have hG:=bBH (p:=p) zL yL (by omega) yv E C hU
   rw[t',u']at hG
   obtain⟨qd,L⟩:∃q,val (xs.drop j)/V=q:=⟨_,rfl⟩
   rw[L]at hG
   obtain⟨u2,W⟩:∃u,xs.getD (j+(p+2)) 0=u:=⟨_,rfl⟩
   obtain⟨u1,X⟩:∃u,xs.getD (j+p+1) 0=u:=⟨_,rfl⟩
   obtain⟨u0,M⟩:∃u,xs.getD (j+p) 0=u:=⟨_,rfl⟩
   rw[show xs.getD (j+p+2) 0=u2 from W,X,M]at hG
   have b2:=zL.getD (j+(p+2))
   have b1:=zL.getD (j+p+1)
   have b0:=zL.getD (j+p)
   rw[W]at b2
   rw[X]at b1
   rw[M]at b0
   have n':j+(p+2)-1=j+p+1:=rfl
   have Y:j+(p+2)-2=j+p:=rfl
   have v':=hG.hh
   obtain⟨t,hT⟩:∃t,u2*4294967296+u1=t:=⟨_,rfl⟩
   rw[show u1+4294967296*u2=t by omega]at hG
   have w':t<18446744073709551616:=by omega
   obtain⟨f1,f2,f3,f4⟩:=hG.first
   simp (disch:=first|rfl|omega)only[S1,aC,aE,aM,aJ,zB,reduceCtorEq,zG,T,v,x,z,K,z0,bKs,n',W,X,hT]
   refine WC.mono (Q:=fun o e s4=>o= .exit 3/\s4=s3/\e 8=some (.int .i64 (s:Nat))/\e 9=some (.ow 0 0 (n+1) 1)/\e 10=some (.ow 1 0 (p+2) 1)/\e 11=some (.int .i64 ((p+2:Nat):Int))/\e 12=some (.ow 2 0 l 1)/\e 13=some (.int .u64 (hh:Nat))/\e 14=some (.int .u64 (nn:Nat))/\e 15=some (.int .i64 (iz (j+1)))/\∃d:Nat,e 17=some (.int .u64 (d:Nat))/\d<4294967296/\(d=qd\/d=qd+1)) ?_ ?_
   ·refine .loop (fun gk e s4=>s4=s3/\e 8=some (.int .i64 (s:Nat))/\e 9=some (.ow 0 0 (n+1) 1)/\e 10=some (.ow 1 0 (p+2) 1)/\e 11=some (.int .i64 ((p+2:Nat):Int))/\e 12=some (.ow 2 0 l 1)/\e 13=some (.int .u64 (hh:Nat))/\e 14=some (.int .u64 (nn:Nat))/\e 15=some (.int .i64 (iz (j+1)))/\∃r:Nat,e 17=some (.int .u64 (gk:Nat))/\e 18=some (.int .u64 (r:Nat))/\hh*gk+r=t/\qd<=gk/\gk<=4294967297/\r<4294967296) (t/hh) ?_ (Nat.lt_of_le_of_lt f2 (by decide)) ?_
    ·refine⟨rfl, ?_, ?_, ?_, ?_, ?_, ?_, ?_, ?_,t%hh, ?_, ?_,f3,f1,f2,f4⟩<;>simp (disch:=first|rfl|omega)only[S1,zB,S,T,c,v,w,x,y,z]
    ·rintro gk e s4 ⟨rfl,S,T,c,v,w,x,y,z,r,H,d',hE,hQ,a6,hr⟩
     have fi:j+p<n+1:=by omega
     have fj:j+(p+2)<=3000000:=by omega
     have hqs:=hG.hqs
     have stp:0<gk->hh*(gk-1)+(r+hh)=t:=fun h=>by
      obtain⟨d,rfl⟩:∃d,gk=d+1:=⟨gk-1,by omega⟩
      rw[Nat.mul_add,Nat.mul_one]at hE
      rw[bKs]
      omega
     have fin:0<gk->4294967296<=r+hh->qd<=gk-1->gk-1<=4294967296->gk-1=qd:=fun h0 hb hq a7=>hG.low (d:=gk-1) (r:=r+hh) (stp h0) a7 hq hb
     have I:0<gk->bU (fA PG 103) .sub (.int .u64 ((gk:Nat):Int)) (.int .u64 ((1:Nat):Int))=some (.int .u64 ((gk-1:Nat):Int)):=fun h0=>by
      rw[aBY (by omega) (by decide)]
      exact congrArg (fun n:Nat=>some (TV.int .u64 (n:Int))) (show(gk+18446744073709551616-1)%18446744073709551616=gk-1 by omega)
     have A:gk<4294967296->¬r*4294967296+u0<gk*nn->gk=qd\/gk=qd+1:=fun h1 h2=>hG.near (d:=gk) (r:=r) hE h1 hQ (by omega)
     have B:r*4294967296+u0<gk*nn->qd<gk:=fun h=>hG.great (d:=gk) (r:=r) hE (by omega)
     have hp:gk<4294967296->gk*nn<=18446744065119617025:=fun h=>bJH (Nat.mul_le_mul (show gk<=4294967295 by omega) (show nn<=4294967295 by omega)) (by decide)
     have b6:hh<4294967296:=bh
     clear P i' j' hs k' O E C Z F G xl xv yl yv J m' c' hU L w' f1 f2 f3 f4 hT v' bh b2 b1 W X hn hm ha hk h2 ql hE bn a' b' n'
     cases hA:decide (4294967296<=gk)
     ·have a8:=af hA
      have hp:=hp (by omega)
      have A:=A (by omega)
      cases hB:decide (r*4294967296+u0<gk*nn)
      ·have e':=af hB
       have hN:=A e'
       clear stp fin I A B e' hQ a6
       simp (disch:=first|rfl|omega)only[S1,aC,aE,aM,aJ,zB,reduceCtorEq,zG,S,T,c,v,w,x,y,z,H,d',hA,K,z0,bKs,Y,M,hB]
       exact⟨_,rfl,by omega,hN⟩
      ·have e':=ae hB
       have b7:qd<gk:=B e'
       have h0:0<gk:=by omega
       have N:=I h0
       have f':=stp h0
       have g':=fin h0
       clear stp fin I A B e'
       cases D:decide (4294967296<=r+hh)
       ·have h':=af D
        simp (disch:=first|rfl|omega)only[S1,aC,aE,aM,aJ,zB,reduceCtorEq,zG,S,T,c,v,w,x,y,z,H,d',hA,K,z0,bKs,Y,M,hB,N,D]
        exact⟨gk-1,by omega,_,rfl,rfl,f',by omega,by omega,by omega⟩
       ·have h':=ae D
        simp (disch:=first|rfl|omega)only[S1,aC,aE,aM,aJ,zB,zC,reduceCtorEq,zG,S,T,c,v,w,x,y,z,H,d',hA,K,z0,bKs,Y,M,hB,N,D]
        exact⟨_,rfl,by omega,.inl (g' h' (by omega) (by omega))⟩
     ·have a8:=ae hA
      have h0:0<gk:=by omega
      have N:=I h0
      have f':=stp h0
      have g':=fin h0
      clear stp fin I A B hp
      cases D:decide (4294967296<=r+hh)
      ·have h':=af D
       simp (disch:=first|rfl|omega)only[S1,aC,aE,aM,aJ,zB,S,T,c,v,w,x,y,z,H,d',hA,N,D]
       exact⟨gk-1,by omega,_,rfl,rfl,f',by omega,by omega,by omega⟩
      ·have h':=ae D
       simp (disch:=first|rfl|omega)only[S1,aC,aE,aM,aJ,zB,zC,S,T,c,v,w,x,y,z,H,d',hA,N,D]
       have:=g' h' (by omega) (by omega)
       exact⟨_,rfl,by omega,.inl this⟩
   ·rintro o e s4 ⟨rfl,rfl,S,T,c,v,w,x,y,z,d,H,hd,hD⟩
    have x':V<=4294967296^(p+2+1):=bJH (bKb C) (bK2 (by decide) (by omega))
    have o':val (xs.drop j)<4294967296^(p+2+1):=by
     refine bJK hU ?_
     rw[Nat.pow_succ]
     exact Nat.mul_le_mul_right _ (bKb C)
    have y':val (part xs j (p+2+1))=val (xs.drop j):=aD0 o'
    have p':∀l:List Nat,bD l->val (part l j (p+2+1))<4294967296^(p+2+1):=fun l hl=>by
     refine bJK (jE ((hl.drop j).take _)) (bK2 (by omega) ?_)
     unfold part;rw[List.length_take];omega
    have fin:∀zs:List Nat,zs.length=xs.length->(∀t,(t<j\/j+(p+2+1)<=t)->zs.getD t 0=xs.getD t 0)->val (part zs j (p+2+1))=val (xs.drop j)%V->yV U V j zs (qs.set j qd):=fun zs hl hs hv=>by
     have hd:val (zs.drop j)=val (xs.drop j)%V:=by rw[aW0 o' (fun t ht=>hs t (.inr ht)),hv]
     have:=aMK hI (by omega) (by omega) hl (aVW hl fun t ht=>hs t (.inl ht)) hd J
     rwa [L]at this
    have hqs:=hG.hqs
    obtain⟨R,s5,es,n5,o5,zs,q,hR,b8,y0,L5,l5,t5,v5⟩:=aW5 (xs:=xs) (ys:=aO V) (ys0:=ys0) (g:=0) (g2:=1) (i:=j) (n:=p+2) (d:=d) (s:=s4) (orc:=VX (m+3)) (by omega) z0 (by omega) z1 (by decide) a3 zL (cU V) F (by omega) (by omega) hd
    subst hR
    rw[y',cO]at v5
    have y1:=(o5 1 (by decide)).trans z1
    have y2:=(o5 2 (by decide)).trans z2
    have hsz:j+(p+2)+1-j=p+2+1:=by omega
    have q':(j=j+(p+2)+1)=False:=by simp;omega
    have fj:j+(p+2)+1<=n+1:=by omega
    have fjn:n+1<=3000000:=by omega
    by_cases a5:q=1
    ·subst a5
     rw[Nat.mul_one]at v5
     obtain⟨R6,s6,er,n6,o6,zs2,cc,w0,L6,l6,t6,v6⟩:=aXw (xs:=zs) (ys:=aO V) (ys0:=ys0) (g:=0) (g2:=1) (i:=j) (n:=p+2) (s:=s5) (orc:=VX (m+3)) (by omega) y0 (by omega) y1 (by decide) a3 L5 (cU V) F (by omega) (by omega)
     rw[cO]at v6
     obtain⟨z',hv⟩:=bF2 v5 (p' _ L5) v6 (p' _ L6) x' L hD J
     have a0:=fin zs2 (by rw[l6,l5]) (fun t ht=>by rw[t6 t ht,t5 t ht]) hv
     have w2:=(o6 2 (by decide)).trans y2
     have w1:=(o6 1 (by decide)).trans y1
     have N:bU (fA PG 103) .sub (.int .u64 ((d:Nat):Int)) (.int .u64 ((1:Nat):Int))=some (.int .u64 ((d-1:Nat):Int)):=by
      rw[aBY (by omega) (by decide)]
      exact congrArg (fun n:Nat=>some (TV.int .u64 (n:Int))) (show(d+18446744073709551616-1)%18446744073709551616=d-1 by omega)
     have a2:(d-1)%4294967296=qd:=by omega
     have fl:j<l:=by omega
     have fz:zs2.length=n+1:=by rw[l6,l5,zl]
     have a9:s6.nxt=3:=by omega
     clear P i' j' hs k' O E C Z F G xl xv yl yv J m' c' hU L w' f1 f2 f3 f4 hT v' bh b2 b1 b0 W X M hn hm ha bn a' b' n' Y x' o' y' p' fin v5 v6 hv t5 t6 hD z'
     simp (disch:=first|rfl|omega)only[S1,aC,aE,aM,aJ,zB,zC,zG,zH,S,T,c,v,w,x,y,z,H,bKs,hsz,q',es,er,N,a2,a9,w2]
     exact⟨j,by omega,by omega,zs2,_,w0,w1,rfl,rfl,fz,L6,by rw[bKT,ql],jQ qL hqs,a0⟩
    ·obtain rfl:q=0:=by omega
     rw[Nat.mul_zero,Nat.add_zero]at v5
     obtain⟨z',hv⟩:=bAT v5 L hD J
     have a0:=fin zs l5 t5 hv
     have a2:d%4294967296=qd:=by omega
     have fl:j<l:=by omega
     have fz:zs.length=n+1:=by rw[l5,zl]
     have b3:s5.nxt=3:=by omega
     clear P i' j' hs k' O E C Z F G xl xv yl yv J m' c' hU L w' f1 f2 f3 f4 hT v' bh b2 b1 b0 W X M hn hm ha bn a' b' n' Y x' o' y' p' fin v5 hv t5 hD z'
     simp (disch:=first|rfl|omega)only[S1,aC,aE,aM,aJ,zB,zC,zG,zH,S,T,c,v,w,x,y,z,H,bKs,hsz,q',es,a2,b3,y2,a5]
     exact⟨j,by omega,by omega,zs,_,y0,y1,rfl,rfl,fz,L5,by rw[bKT,ql],jQ qL hqs,a0⟩
  ·have h2:=af h
   obtain rfl:k=0:=by omega
   obtain⟨d1,d2⟩:=aRP hI
   have hp:0<2^s:=Nat.pow_pos (by decide)
   rw[←a4,←l',Nat.mul_div_mul_right _ _ hp]at d1
   rw[←a4,←l',Nat.mul_mod_mul_right]at d2
   have b0:0<b:=by
    rcases Nat.eq_zero_or_pos b with h0|h0
    ·rw[h0,gH]at hm;cases hm
    ·exact h0
   have eX:val ((xs.drop 0).take (p+2))=a%b*2^s:=by
    rw[bJV,aD0,d2]
    rw[d2]
    exact bKV (bNd (Nat.mod_lt _ b0) hp) (l' ▸ C)
   have lX:bD ((xs.drop 0).take (p+2)):=(zL.drop 0).take _
   have b4:dC (VX (m+3)) 94 [.ow 2 0 l 1] s3=some (tW (aO (a/b)),s3.set 2 ⟨1,qs.map wc⟩):=aQz (zs:=qs) (by rw[aJB (m:=m+2) (by simp;omega),bJV,List.take_of_length_le (by omega),iI qL,d1]) (by omega) z2 (by omega) (by omega)
   have b5:dC (VX (m+3)) 94 [.ow 0 0 (p+2) 1] (s3.set 2 ⟨1,qs.map wc⟩)=some (tW (aO (a%b*2^s)),(s3.set 2 ⟨1,qs.map wc⟩).set 0 ⟨1,xs.map wc⟩):=aQz (zs:=xs) (by rw[aJB (m:=m+2) (by simp;omega),iI lX,eX]) (by rw[nE];omega) (by rw[gX];exact z0) (by omega) (by omega)
   have fl:(aO (a%b*2^s)).length<=p+2:=lK (bKV (bNd (Nat.mod_lt _ b0) hp) (l' ▸ C))
   have c3:=bGv (m:=m+2) (xs:=aO (a%b*2^s)) (sh:=s) (by omega) (cU _) hs
   have c4:=pC (m:=m+2) (xs:=nK s (aO (a%b*2^s))) (by rw[aHN];omega)
   rw[iI (aMu _ _),aNh hs (cU _),cO,Nat.mul_div_cancel _ hp]at c4
   have fp:p+2<=n+1:=by omega
   clear P i' k' O E C Z F G xl xv yl yv J c' bh hn hm ha bn a' b' d1 d2 eX b0 hk ql fl
   simp (disch:=first|rfl|omega)only[S1,zB,reduceCtorEq,zG,zH,S,T,v,w,b4,b5,(c3 _).1,(c4 _).1,aDO]
end Ev
end Go.Proofs.YtmjoaipkaddkbaaGreatDoor
