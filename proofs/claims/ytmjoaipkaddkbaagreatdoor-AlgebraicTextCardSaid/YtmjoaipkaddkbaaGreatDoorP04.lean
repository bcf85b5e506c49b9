/- Part of a proof. -/
import Derived.Test.YtmjoaipkaddkbaaGreatDoorP03
noncomputable section
open Nat renaming reduceBEq → zB, reduceEqDiff → zC, reduceAdd → zD, reduceMul → zE, reduceSub → zF, reduceLT → zG, reduceLeDiff → zH
open Bool renaming and_false→bLq,and_self→bJv,and_true→bK6,false_and→bKI,true_and→bJI
open Int renaming le_of_lt→bMl,lt_trichotomy→bLx,natAbs_mul→bJJ,natAbs_neg→bLg,not_lt→bKY,sign_eq_neg_one_of_neg→bK8,sign_eq_one_of_pos→bK5
open List renaming all_append→bLW,all_cons→bJN,all_eq_true→bJt,all_nil→bKr,drop_zero→bJd,eq_nil_of_length_eq_zero→bJA,length_append→bJ3,length_cons→bIV,length_map→bJB,length_pos_iff→bJK,length_set→bJX,length_take→bIW,map_append→bKh,map_cons→bJu,mem_cons→bJ4,mem_map→bJF,mem_singleton→bJZ,replicate→bIQ,replicate_succ→bK9,take_length→bJy,take_of_length_le→bJ2,take_succ_eq_append_getElem→bKA,take_take→bJC,take_zero→bKG
open Nat renaming add_assoc→bKu,add_comm→bJW,add_mul→bJp,add_mul_div_left→bLM,add_sub_cancel→bJw,add_zero→bJD,div_add_mod→bK4,div_eq_of_lt→bKs,div_le_self→bKc,div_lt_of_lt_mul→bKJ,div_mul_le_self→bLf,le_div_iff_mul_le→bKV,le_mul_of_pos_right→bLh,le_of_eq→bKx,le_of_lt→bJg,le_refl→bIK,le_trans→bIO,lt_mul_div_succ→bMk,lt_of_le_of_lt→bJe,lt_of_lt_of_le→bIP,lt_or_ge→bIT,lt_succ_self→bIZ,lt_trans→bJR,min_eq_left→bJc,min_self→bMj,mod_eq_of_lt→bJo,mod_lt→bJa,mul_add→bJ6,mul_assoc→bJ5,mul_comm→bIX,mul_le_mul→bKl,mul_le_mul_left→bJ7,mul_le_mul_right→bJ8,mul_left_comm→bLN,mul_one→bJn,mul_pos→bJH,mul_succ→bMt,mul_zero→bKK,one_mul→bKQ,pow_add→bK7,pow_le_pow_right→bJ9,pow_mul→bLt,pow_pos→bJx,pow_succ→bJ1,pow_zero→bKg,sub_self→bJV,two_pow_pos→bLy,zero_add→bJl,zero_le→bIR,zero_lt_one→bKX
open Go renaming IntKind→bQc
set_option maxRecDepth 10000000
open Go
open Go.Proofs.Tryz
namespace Go.Proofs.YtmjoaipkaddkbaaGreatDoor.Ev
section
variable {m:Nat}
theorem aXU:bQ PG 69 f69 [2] []=true:=by kernel_rfl
theorem bAE{a:List Rat}(h:PS 30000 a):VX (m+13) 69 [tP a]=some (tP (bK a),false):=by
 have f1:=aFH (m:=m+6) (l:=a) ⟨h.1,fun q hq=>(h.2 q hq).mono (by decide)⟩
 have w:=fK a
 have t:PS 30000 (tr a):=⟨bIO (fK a) h.1,fun q hq=>h.2 q (xU hq)⟩
 have y:=t.1
 refine jP rfl func69 aXU rfl ?_
 simp only[f69,N1,bD,bJ,bM,bL,bH,zB,zG]
 simp (disch:=first|rfl|omega)only[S1,aN,aC,aE,aM,aJ,zB,aY,vJ 73 rfl,f1 _]
 refine cJ (fun e=> ?_) (fun e=> ?_)
 ·have e0:=bJA (show(tr a).length=0 by have:=of_decide_eq_true e;omega)
  simp (disch:=first|rfl|omega)only[S1,zB,reduceCtorEq,aY]
  rw[show bK a=tr a by unfold bK eI;rw[e0];rfl]
 ·have e0:tr a≠ []:=fun h=>of_decide_eq_false e (by rw[h];rfl)
  have E:0<(tr a).length:=bJK.2 e0
  have K:=zX (m:=m+7) (z:=((1:Nat):Int)) (by decide) (by decide)
  have f2:=aQX (m:=m) (a:=((((1:Nat):Int)):Rat)) (b:=gQ a) ⟨aX.one (by decide),aX.one (by decide)⟩ (t.co (by omega)) (sU e0)
  have f2:CC (VX (m+12)) 152 [tR ((((1:Nat):Int)):Rat),tR (co (tr a) ((tr a).length-1))] (tR (1/gQ a)):=f2
  have fi:FR 30000 (1/gQ a):=by
   rw[Rat.div_def,Rat.one_mul]
   exact(show FR 30000 (gQ a)from t.co (by omega)).inv (sU e0)
  have f3:=aF9 (m:=m+1) t fi
  simp (disch:=first|rfl|omega)only[S1,aN,aC,aE,aM,aJ,zB,reduceCtorEq,aY,e,lD,kX,K _,f2 _,f3 _]
  rfl
theorem aBp{a:List Rat}(h:PS 30000 a):CC (VX (m+13)) 69 [tP a] (tP (bK a)):= .of (iG a) (iZ a) (bAE h)
theorem bCW:bQ PG 27 f27 [2] []=true:=by kernel_rfl
theorem bEX{l:List Rat}(h:PS 30000 l):VX (m+11) 27 [tP l]=some (tP (dU l),false):=by
 refine jP rfl func27 bCW rfl ?_
 simp only[f27,N1,bD,bJ,bM,bL,bH,zB,zG]
 simp (disch:=first|rfl|omega)only[S1,aC,aE,aM,aJ,zB]
 have y:=h.1
 refine .up (fun k e s=>∃v,e 0=some (tP l)/\e 3=some v/\e 4=some (.int .i64 ((k+1:Nat):Int))/\fL bP eA s v (mk k fun j=>co l (j+1)*(((j+1:Nat):Int):Rat))) (l.length-1) ?_ (dC (by omega)) ?_
 ·refine⟨.nil, ?_, ?_, ?_,.nil _⟩<;>simp (disch:=first|rfl|omega)only[S1,zB]
 ·rintro k e s L ⟨v,e0,F,G,c⟩
  have fi:FR 30000 ((((k+1:Nat):Int)):Rat):=⟨aX.mono (j:=1) (show k+1<4294967296^1 by omega) (by decide),aX.one (by decide)⟩
  by_cases hc:k<l.length-1
  ·have h1:decide (k+1<l.length)=true:=decide_eq_true (by omega)
   have c2:=zX (m:=m+5) (z:=((k+1:Nat):Int)) (by omega) (by omega)
   have c3:=aFP (m:=m) (a:=co l (k+1)) (h.co (by omega)) fi
   obtain⟨v',s',ea,A⟩:=c.stepR (co l (k+1)*(((k+1:Nat):Int):Rat)) (by rw[iR];omega)
   simp (disch:=first|rfl|omega)only[S1,aK,aN,aC,aE,aM,aJ,aD,zB,zD,zE,zH,aY,e0,F,G,h1,lD,kX,c2 _,c3 _,ea]
   exact⟨hc,v',rfl,by rw[aBF];exact A⟩
  ·have h1:decide (k+1<l.length)=false:=decide_eq_false (by omega)
   obtain rfl:k=l.length-1:=by omega
   have E:PS 9000000 (mk (l.length-1) fun j=>co l (j+1)*(((j+1:Nat):Int):Rat)):=⟨by rw[iR];omega,fun q hq=>by
    obtain⟨j,Q,rfl⟩:=tD hq
    exact(h.co (by omega)).mul (k:=9000000) (j:=30000) ⟨aX.mono (j:=1) (show j+1<4294967296^1 by omega) (by decide),aX.one (by decide)⟩ (by decide)⟩
   obtain⟨s1,R,M,N, -, -⟩:=c.bld.call (f:=73) Can.nil (by decide) (by rw[iR];show _*9<=_;omega) (aDf (m:=m+4) E)
   simp (disch:=first|rfl|omega)only[S1,aN,zB,reduceCtorEq,aY,e0,F,G,h1,vJ 73 rfl,N]
   rfl
theorem aJY{l:List Rat}(h:PS 30000 l):CC (VX (m+11)) 27 [tP l] (tP (dU l)):= .of (iG l) (iZ l) (bEX h)
theorem bEw:bQ PG 26 f26 [4] []=true:=by kernel_rfl
theorem bFv{a b:List Rat}{k:Nat}(u:WD k a)(c:WD k b)(i:a.length<=400)(o:b.length<=400)(r:(tr b).length<(tr a).length)(B:(k+1)*3^((tr a).length-1)<=224000):VX (m+15) 26 [tP a,tP b]=some (tP (fY a b),false):=by
 have L:k<=224000:=bIO (bIO (Nat.le_succ k) (bLh _ (bJx (by decide)))) B
 have f1:=aBp (m:=m+1) (a:=a) (u.ps (by omega) (by omega))
 have f2:=aBp (m:=m+1) (a:=b) (c.ps (by omega) (by omega))
 have la:=kU a
 have lb:=kU b
 have w:=fK a
 refine jP rfl func26 bEw rfl ?_
 simp only[f26,N1,bD,bJ,bM,bL,bH,zB,zG]
 simp (disch:=first|rfl|omega)only[S1,aC,aE,aM,aJ,zB,zD,vJ 69 rfl,f1 _,f2 _]
 refine .loop (fun n e s=>∃p q f,s=eA/\e 0=some (tP p)/\e 1=some (tP q)/\pV f p q=fY a b/\NF p/\NF q/\q.length<f/\q.length<p.length/\p.length<=(tr a).length/\WD ((k+1)*3^((tr a).length-p.length)-1) p/\WD ((k+1)*3^((tr a).length-p.length)-1) q/\n=q.length) (bK b).length ?_ (dC (by have:=fK b;omega)) ?_
 ·refine⟨bK a,bK b,(bK b).length+1,rfl, ?_, ?_,rfl,.pmonic a,.pmonic b,bIZ _,by omega,by omega, ?_, ?_,rfl⟩
  ·simp (disch:=first|rfl|omega)only[S1,zB]
  ·simp (disch:=first|rfl|omega)only[S1,zB]
  ·rw[la,bJV,bKg,bJn];exact u.monic
  ·rw[la,bJV,bKg,bJn];exact c.monic
 ·rintro n e s ⟨p,q,f,rfl,e0,H,I,np,nq,hf,y,O,wp,wq,rfl⟩
  obtain⟨f,rfl⟩:∃g,f=g+1:=⟨f-1,by omega⟩
  by_cases hc:0<q.length
  ·have h1:decide (0<q.length)=true:=decide_eq_true hc
   have d:q≠ []:=bJK.1 hc
   obtain⟨J,P,S⟩:=aBG wp wq np nq d y O (Nat.succ_le_succ (bIR k))
   have wk:∀x,1<=x->x<=(tr a).length->(k+1)*3^((tr a).length-x)-1<=224000:=fun x h1 h2=>by
    have:=bJ7 (k+1) (bJ9 (show 0<3 by decide) (show(tr a).length-x<=(tr a).length-1 by omega))
    omega
   obtain⟨C,D⟩:=aBf (a:=p) (b:=q) (by rw[nq.eq];exact d)
   rw[nq.eq]at C
   have c1:=aHN (m:=m) (a:=p) (b:=q) wp wq (by omega) (by omega) (by rw[nq.eq];exact d) (by rw[np.eq,nq.eq];omega) (wk _ (by omega) (by omega))
   have c2:=aBp (m:=m+1) (a:=fG p q) (J.ps (by have:=wk q.length (by omega) (by omega);omega) (by omega))
   simp (disch:=first|rfl|omega)only[S1,aN,aC,aE,aM,aJ,zB,aY,e0,H,h1,vJ 70 rfl,c1 _,vJ 69 rfl,c2 _]
   refine⟨(bK (fG p q)).length, ?_,q,bK (fG p q),f,rfl,rfl, ?_,nq,.pmonic _, ?_, ?_,by omega,P,J.monic,rfl⟩
   ·rw[kU,D.eq];exact C
   ·rw[←I,pV,if_neg d]
   ·rw[kU,D.eq];omega
   ·rw[kU,D.eq];exact C
  ·have h1:decide (0<q.length)=false:=decide_eq_false hc
   have d:q=[]:=bJA (by omega)
   simp (disch:=first|rfl|omega)only[S1,aN,aC,aE,aM,aJ,zB,reduceCtorEq,aY,e0,H,h1]
   rw[←I,pV,if_pos d]
theorem aRj{a b:List Rat}{k:Nat}(u:WD k a)(c:WD k b)(i:a.length<=400)(o:b.length<=400)(r:(tr b).length<(tr a).length)(B:(k+1)*3^((tr a).length-1)<=224000):CC (VX (m+15)) 26 [tP a,tP b] (tP (fY a b)):= .of (vD a b) (vA a b) (bFv u c i o r B)
end
end Go.Proofs.YtmjoaipkaddkbaaGreatDoor.Ev
namespace Go.Proofs.YtmjoaipkaddkbaaGreatDoor
section
def eP(x:Rat):List Rat->Rat
 | []=>0
 |a::l=>eP x l*x+a
theorem aWl{l:List Rat}{n:Nat}(x:Rat)(h:n<l.length):eP x (l.drop n)=eP x (l.drop (n+1))*x+co l n:=by
 rw[List.drop_eq_getElem_cons h,eP,vV h]
theorem aNt{k m D:Nat}{x:Rat}(o:x.den<2^m)(hn:x.num.natAbs<2^m):∀(l:List Rat),(∀q∈l,∃n:Int,q*(D:Rat)=(n:Rat)/\n.natAbs<2^k)->∃n:Int,eP x l*((D*x.den^l.length:Nat):Rat)=(n:Rat)/\n.natAbs<2^(k+(m+1)*l.length)
 | [],_=>⟨0,by simp [eP],by simp;exact bLy _⟩
 | a::l,h=>by
  obtain⟨n,d,g⟩:=aNt o hn l fun q hq=>h q (.tail _ hq)
  obtain⟨A,a1,a2⟩:=h a (.head _)
  refine⟨n*x.num+A*((x.den^(l.length+1):Nat):Int), ?_, ?_⟩
  ·have hx:=aBw x
   simp only[eP,bIV,Rat.intCast_add,Rat.intCast_mul,←d,←a1,←hx,Rat.natCast_mul,Rat.intCast_natCast,bJ1]
   grind
  ·have C:2^(k+(m+1)*(l.length+1))=2^(k+(m+1)*l.length)*2^m*2:=by
    rw[←bK7,←bJ1];congr 1;rw[bMt];omega
   have M:(n*x.num).natAbs<2^(k+(m+1)*l.length)*2^m:=by rw[bJJ];exact Nat.mul_lt_mul'' g hn
   have t:x.den^(l.length+1)<=2^(m*(l.length+1)):=by rw[bLt];exact Nat.pow_le_pow_left (bJg o) _
   have O:(A*((x.den^(l.length+1):Nat):Int)).natAbs<=2^(k+(m+1)*l.length)*2^m:=by
    rw[bJJ,Int.natAbs_natCast]
    refine bIO (bKl (bJg a2) t) ?_
    rw[←bK7,←bK7]
    refine bJ9 (by decide) ?_
    rw[bMt,Nat.succ_mul];omega
   rw[bIV,C]
   omega
theorem aLy{k m:Nat}{x:Rat}{l:List Rat}(h:WD k l)(o:x.den<2^m)(hn:x.num.natAbs<2^m):(eP x l).den<2^(k+(m+1)*l.length)/\(eP x l).num.natAbs<2^(k+(m+1)*l.length):=by
 obtain⟨D,d1,d2,d3⟩:=h
 obtain⟨n,d,g⟩:=aNt (D:=D) o hn l d3
 obtain⟨g1,g2⟩:=aEs (bJH d1 (bJx x.den_pos)) d
 refine⟨bJe g1 ?_,bJe g2 g⟩
 have t:x.den^l.length<=2^((m+1)*l.length):=by rw[bLt];exact Nat.pow_le_pow_left (by have:=bJ1 2 m;omega) _
 rw[bK7]
 exact Nat.mul_lt_mul_of_lt_of_le d2 t (bJx (by decide))
theorem WD.drop{k:Nat}{l:List Rat}(h:WD k l)(n:Nat):WD k (l.drop n):=h.sub fun _ hq=>List.mem_of_mem_drop hq
def mQ(q:Rat):Rat:=if fW q<0 then-q else q
def lV(l:List Rat):Nat->Rat
 |0=>0
 |i+1=>if 0<fW (mQ (co l i)-lV l i)then mQ (co l i)else lV l i
def iQ(a:List Rat):Rat:=if (bK a).length<2 then 0 else lV (bK a) ((bK a).length-1)+1
theorem aBb(q:Rat):(mQ q).den=q.den/\(mQ q).num.natAbs=q.num.natAbs:=by
 unfold mQ
 split
 ·exact⟨rfl,by rw[show(-q).num= -q.num from rfl,bLg]⟩
 ·exact⟨rfl,rfl⟩
theorem aRm(l:List Rat):∀i,lV l i=0\/∃j,j<i/\lV l i=mQ (co l j)
 |0=> .inl rfl
 | i+1=>by
  unfold lV
  split
  ·exact .inr ⟨i,bIZ _,rfl⟩
  ·rcases aRm l i with h|⟨j,h1,h2⟩
   ·exact .inl h
   ·exact .inr ⟨j,by omega,h2⟩
theorem bAn{k:Nat}{l:List Rat}(h:WD k l)(j:Nat):(co l j).den<2^(k+1)/\(co l j).num.natAbs<2^(k+1):=by
 have w:=bJ1 2 k
 have h0:0<2^k:=bLy _
 rcases bIT j l.length with hj|hj
 ·have:=h.parts (aG2 hj);omega
 ·rw[gZ hj]
  exact⟨by show 1<_;omega,by show 0<_;omega⟩
theorem aI1{k:Nat}{l:List Rat}(h:WD k l)(i:Nat):(lV l i).den<2^(k+1)/\(lV l i).num.natAbs<2^(k+1):=by
 rcases aRm l i with e|⟨j,_,e⟩
 ·rw[e]
  have h0:0<2^k:=bLy _
  have w:=bJ1 2 k
  exact⟨by show 1<_;omega,by show 0<_;omega⟩
 ·rw[e,(aBb _).1,(aBb _).2];exact bAn h j
theorem aEp{k:Nat}{a:List Rat}(h:WD k a):(iQ a).den<2^(k+2)/\(iQ a).num.natAbs<2^(k+2):=by
 have w:=bJ1 2 k
 have E:2^(k+2)=2^(k+1)*2:=bJ1 2 (k+1)
 have h0:0<2^k:=bLy _
 unfold iQ
 split
 ·exact⟨by show 1<_;omega,by show 0<_;omega⟩
 ·obtain⟨g1,g2⟩:=aI1 h.monic ((bK a).length-1)
  obtain⟨s1,y⟩:=aMC (lV (bK a) ((bK a).length-1)) 1
  have d:(1:Rat).den=1:=rfl
  have g:(1:Rat).num.natAbs=1:=rfl
  rw[d]at s1 y
  rw[g]at y
  constructor<;>omega
theorem aMG{k:Nat}{q:Rat}(h:q.den<2^k/\q.num.natAbs<2^k):(-q).den<2^k/\(-q).num.natAbs<2^k:=⟨h.1,by rw[show(-q).num= -q.num from rfl,bLg];exact h.2⟩
def jH(x:Rat):List (List Rat)->Nat×Int->Nat×Int
 | [],s=>s
 |p::c,s=>jH x c (if fW (eP x p)=0 then s else(if fW (eP x p)= -s.2 then s.1+1 else s.1,fW (eP x p)))
def gK(c:List (List Rat))(x:Rat):Nat:=(jH x c (0,0)).1
def xV(a:List Rat)(low high:Rat):Int:=if 0<=fW (low-high)then 0 else(gK (iS a) low:Int)-gK (iS a) high
def aAx(a:List Rat):Int:=xV a (-iQ a) (iQ a)
theorem WD.neg1{k:Nat}{l:List Rat}(h:WD k l):WD k (eI l ((-1:Int):Rat)):=by
 obtain⟨D,d1,d2,d3⟩:=h
 refine⟨D,d1,d2,fun q hq=> ?_⟩
 obtain⟨j,hj,rfl⟩:=tD (xU hq)
 obtain⟨n,d,g⟩:=d3 _ (aG2 hj)
 refine⟨-n, ?_,by rw[bLg];exact g⟩
 have h2:((-n:Int):Rat)= -(n:Rat):=Rat.intCast_neg n
 rw[h2,←d]
 have:((-1:Int):Rat)= -1:=rfl
 rw[this];grind
theorem aHw(l:List Rat)(c:Rat):(eI l c).length<=l.length:=bIO (fK _) (by rw[iR];exact bIK _)
theorem aRP{K N:Nat}(z:1<=K):∀(f:Nat) (p q:List Rat),WD (K*3^(N-p.length)-1) p->WD (K*3^(N-p.length)-1) q->NF p->NF q->q.length<p.length->p.length<=N->(∀c∈pZ f p q,WD (K*3^(N-1)) c/\c.length<=N)/\(pZ f p q).length<=q.length
 |0,_,q,_,_,_,_,_,_=>⟨fun _ h=>(by cases h),bIR _⟩
 | f+1,p,q,wp,wq,np,nq,F,G=>by
  unfold pZ
  split
  ·exact⟨fun _ h=>(by cases h),bIR _⟩
  ·next h0=>
   have H:0<q.length:=bJK.2 h0
   obtain⟨r,u, -⟩:=aBG wp wq np nq h0 F G z
   obtain⟨I,P⟩:=aBf (a:=p) (b:=q) (by rw[nq.eq];exact h0)
   rw[nq.eq]at I
   have ls:=aHw (fG p q) ((-1:Int):Rat)
   obtain⟨v,i2⟩:=aRP z f q (eI (fG p q) ((-1:Int):Rat)) u r.neg1 nq (.tr _) (by omega) (by omega)
   refine⟨fun c hc=> ?_,by simp only[bIV];omega⟩
   rcases bJ4.1 hc with rfl|hc
   ·refine⟨wq.mono ?_,by omega⟩
    have:=bJ7 K (bJ9 (show 0<3 by decide) (show N-p.length<=N-1 by omega))
    omega
   ·exact v c hc
theorem aDa(x:Rat):∀(c:List (List Rat)) (s:Nat×Int),(jH x c s).1<=s.1+c.length
 | [],s=>bIK _
 | p::c,s=>by
  unfold jH
  refine bIO (aDa x c _) ?_
  simp only[bIV]
  split
  ·omega
  ·simp only
   split<;>omega
structure gJ(k:Nat)(a:List Rat):Prop where
 wd:WD k a
 len:a.length<=400
 two:2<=(tr a).length
 gcd:fY a (dU a)=[1]
 h1:(k+11)*3^((tr a).length-1)<=210000
 h2:(k+3)*(tr a).length<=100000
theorem gJ.t0{k:Nat}{a:List Rat}(h:gJ k a):tr a≠ []:=fun e=>by have:=h.two;rw[e]at this;exact absurd this (by decide)
theorem gJ.sqf{k:Nat}{a:List Rat}(h:gJ k a):rZ a=bK a:=aIF h.t0 h.gcd
theorem gJ.chain{k:Nat}{a:List Rat}(h:gJ k a):iS a=bK a::pZ ((dU (bK a)).length+1) (bK a) (dU (bK a)):=by
 have:=h.two
 rw[iS,if_neg (by omega),h.sqf]
theorem gJ.der{k:Nat}{a:List Rat}(h:gJ k a):WD (k+10) (bK a)/\WD (k+10) (dU (bK a))/\(dU (bK a)).length<(bK a).length/\(bK a).length=(tr a).length:=by
 have:=h.two
 have J:=kU a
 have l2:=aBq (bK a)
 have Q:=fK a
 have R:=h.len
 exact⟨h.wd.monic.mono (by omega),h.wd.monic.der (by omega),by omega,J⟩
theorem gJ.all{k:Nat}{a:List Rat}(h:gJ k a):(∀c∈iS a,WD 210000 c/\c.length<=(tr a).length)/\(iS a).length<=(tr a).length:=by
 obtain⟨r,u,L,B⟩:=h.der
 have hc:=aRP (K:=k+11) (N:=(tr a).length) (by omega) ((dU (bK a)).length+1) (bK a) (dU (bK a)) (by rw[B,bJV,bKg,bJn];exact r) (by rw[B,bJV,bKg,bJn];exact u) (.pmonic a) (.pder _) L (by omega)
 have S:k+11<=210000:=bIO (bLh _ (bJx (by decide))) h.h1
 rw[h.chain]
 refine⟨fun c hc'=> ?_,by rw[bIV];omega⟩
 rcases bJ4.1 hc' with rfl|hc'
 ·exact⟨r.mono (by omega),by omega⟩
 ·obtain⟨v,i2⟩:=hc.1 c hc'
  exact⟨v.mono h.h1,i2⟩
end
end Go.Proofs.YtmjoaipkaddkbaaGreatDoor
namespace Go.Proofs.YtmjoaipkaddkbaaGreatDoor.Ev
section
variable {m:Nat}
theorem qH{K k:Nat}{q:Rat}(h:q.den<2^K/\q.num.natAbs<2^K)(p:K<=32*k):FR k q:=by
 have e:2^K<=4294967296^k:=by
  rw[show(4294967296:Nat)=2^32 from rfl,←bLt]
  exact bJ9 (by decide) p
 exact⟨bIP h.2 e,bIP h.1 e⟩
theorem WD.one1:WD 1 [1]:=⟨1,by decide,by decide,fun q hq=>⟨1,by rw[bJZ.1 hq];exact(Rat.one_mul _).trans rfl,by decide⟩⟩
theorem bDS:bQ PG 232 f232 [2] []=true:=by kernel_rfl
theorem bGX{a:List Rat}{k:Nat}(d:WD k a)(c:a.length<=400)(h2:2<=(tr a).length)(u:fY a (dU a)=[1])(p:(k+11)*3^((tr a).length-1)<=224000):VX (m+16) 232 [tP a]=some (tP (rZ a),false):=by
 have w:k+11<=224000:=bIO (bLh _ (bJx (by decide))) p
 have G:(k+11)*3<=224000:=bIO (bJ7 _ (show 3<=3^((tr a).length-1)from bJ9 (n:=3) (show 0<3 by decide) (show 1<=(tr a).length-1 by omega))) p
 have la:=kU a
 have ta:=fK a
 have t0:tr a≠ []:=fun e=>by rw[e]at h2;exact absurd h2 (by decide)
 have wm:=d.monic
 have f1:=aBp (m:=m+2) (a:=a) (d.ps (by omega) (by omega))
 have f2:=aJY (m:=m+4) (l:=bK a) (wm.ps (by omega) (by omega))
 have ld:=aBq (bK a)
 have f3:=aRj (m:=m) (a:=bK a) (b:=dU (bK a)) (wm.mono (show k<=k+10 by omega)) (wm.der (by omega)) (by omega) (by omega) (by rw[(NF.pmonic a).eq,(NF.pder _).eq];omega) (by rw[(NF.pmonic a).eq,la];exact p)
 rw[aHz a t0,u]at f3
 have t1:tr [(1:Rat)]=[1]:=NF.eq fun _=>by show(1:Rat)≠0;decide
 have f4:=aHN (m:=m+1) (a:=bK a) (b:=[1]) wm WD.one1 (by omega) (by decide) (by rw[t1];simp) (by rw[(NF.pmonic a).eq,t1,la];show k+((tr a).length-1)*2<=224000;omega) (by decide)
 rw[aIc,(NF.pmonic a).eq]at f4
 have f5:=aBp (m:=m+2) (a:=bK a) (wm.ps (by omega) (by omega))
 rw[aEo]at f5
 have y:decide ((bK a).length=0)=false:=decide_eq_false (by omega)
 have t:decide (((bK a).length:Int)=0)=false:=decide_eq_false (by omega)
 rw[aIF t0 u]
 refine jP rfl func232 bDS rfl ?_
 simp only[f232,N1,bD,bJ,bM,bL,bH,zB,zG]
 simp (disch:=first|rfl|omega)only[S1,aN,aC,aE,aM,aJ,zB,reduceCtorEq,aY,t,vJ 69 rfl,f1 _,f5 _,vJ 27 rfl,f2 _,vJ 26 rfl,f3 _,vJ 70 rfl,f4 _]
theorem bFT{a:List Rat}{k:Nat}(d:WD k a)(c:a.length<=400)(h2:2<=(tr a).length)(u:fY a (dU a)=[1])(p:(k+11)*3^((tr a).length-1)<=224000):CC (VX (m+16)) 232 [tP a] (tP (rZ a)):= .of (iG a) (iZ a) (bGX d c h2 u p)
theorem bBa:bQ PG 233 f233 [4] []=true:=by kernel_rfl
theorem bEP{l:List Rat}{x:Rat}(h:PS 7000 l)(hx:FR 10000 x)(A:∀n,FR 10000 (eP x (l.drop n))):VX (m+11) 233 [tP l,tR x]=some (tR (eP x l),false):=by
 refine bY rfl func233 bBa rfl ?_
 simp only[f233,N1,bD,bJ,bM,bL,bH,zB,zG]
 have H:=h.1
 have z0:=aFB (m:=m+4)
 simp (disch:=first|rfl|omega)only[S1,aN,aC,aE,aM,aJ,zB,zD,zG,aY,vJ 225 rfl,z0 _]
 refine .loop (fun n e s=>n<=l.length/\s.nxt=3/\s.ob 0=⟨0,[.b (decide (x.num<0)),tW (aO x.num.natAbs),.b (decide ((x.den:Int)<0)),tW (aO (x.den:Int).natAbs)]⟩/\s.ob 1=⟨0,[.b false,.nil,.b false,.nil]⟩/\(∃q,q=eP x (l.drop n)/\s.ob 2=⟨0,[.b (decide (q.num<0)),tW (aO q.num.natAbs),.b (decide ((q.den:Int)<0)),tW (aO (q.den:Int).natAbs)]⟩)/\e 0=some (tP l)/\e 3=some (.po 0 0)/\e 4=some (.po 1 0)/\e 5=some (.po 2 0)/\e 6=some (.int .i64 (iz n))) l.length ?_ (dC (by omega)) ?_
 ·refine⟨bIK _,rfl,rfl,rfl,⟨0,by rw[List.drop_length];rfl,rfl⟩, ?_, ?_, ?_, ?_, ?_⟩<;>simp (disch:=first|rfl|omega)only[S1,zB]
 ·rintro n e s ⟨hn,sn,f,s1,⟨q,hq,B⟩,e0,g,o,C,D⟩
  have fq:FR 10000 q:=by rw[hq];exact A n
  simp (disch:=first|rfl|omega)only[S1,aC,aE,aM,aJ,zB,D]
  refine cJ (fun hc=> ?_) (fun hc=> ?_)
  ·obtain⟨n,rfl⟩:∃j,n=j+1:=⟨n-1,by have:=of_decide_eq_true hc;omega⟩
   have c1:=aFP (m:=m) (a:=q) (b:=x) (fq.mono (by decide)) (hx.mono (by decide))
   have c2:=aK5 (m:=m) (a:=q*x) (b:=co l n) (fq.mul hx (by decide)) ((h.co (by omega)).mono (by decide))
   simp (disch:=first|rfl|omega)only[S1,aC,aE,aM,aJ,zB,reduceCtorEq,zD,zG,zH,aY,e0,g,o,C,D,sn,f,s1,B,bJw,lD,kX,c1 _,c2 _]
   exact⟨n,bIZ _,by omega,⟨_,by rw[hq];exact(aWl x (by omega)).symm,rfl⟩,rfl⟩
  ·have E:n=0:=by have:=of_decide_eq_false hc;omega
   subst E
   simp (disch:=first|rfl|omega)only[S1,zB,reduceCtorEq,zD,zG,zH,aY,o,C,sn,s1,B]
   rw[hq,bJd]
theorem bCI{l:List Rat}{x:Rat}(h:PS 7000 l)(hx:FR 10000 x)(A:∀n,FR 10000 (eP x (l.drop n))):CC (VX (m+11)) 233 [tP l,tR x] (tR (eP x l)):= .of (aJF l x) (aJO l x) (bEP h hx A)
theorem bEq:bQ PG 229 f229 [2] []=true:=by kernel_rfl
theorem bGK{q:Rat}(h:FR 9000000 q):VX (m+6) 229 [tR q]=some (tR (mQ q),false):=by
 have c1:=aJg (m:=m) h
 have c2:=aSy (m:=m+1) h
 refine bY rfl func229 bEq rfl ?_
 simp only[f229,N1,bD,bJ,bM,bL,bH,zB,zG]
 simp (disch:=first|rfl|omega)only[S1,aC,aE,aM,aJ,zB,reduceCtorEq,zD,zG,zH,aY,vJ 159 rfl,c1 _,aAi]
 unfold mQ
 refine cJ (fun e=> ?_) (fun e=> ?_)
 ·simp (disch:=first|rfl|omega)only[S1,zB,reduceCtorEq,zD,zG,zH,aY,vJ 161 rfl,c2 _]
  rw[if_pos (of_decide_eq_true e)]
 ·simp (disch:=first|rfl|omega)only[S1,zB,reduceCtorEq,zD,zG,zH,aY]
  rw[if_neg (of_decide_eq_false e)]
theorem bFu{q:Rat}(h:FR 9000000 q):CC (VX (m+6)) 229 [tR q] (tR (mQ q)):= .of (aC4 q) (aC3 q) (bGK h)
theorem aFp{et:fO}{k:bQc}{z:Int}:bX et .gtr (.int k z) (.int k ((0:Nat):Int))=some (.b (decide (0<z))):=by simp [bX,dY]
theorem aYt:bQ PG 160 f160 [2,26,16] []=true:=by kernel_rfl
theorem bAi{a:List Rat}{k:Nat}(d:WD k a)(c:a.length<=400)(w:k<=200000):VX (m+14) 160 [tP a]=some (tR (iQ a),false):=by
 have f1:=aBp (m:=m) (a:=a) (d.ps (by omega) (by omega))
 refine bY rfl func160 aYt rfl ?_
 simp only[f160,N1,bD,bJ,bM,bL,bH,zB,zG]
 simp (disch:=first|rfl|omega)only[S1,aN,aC,aE,aM,aJ,zB,aY,vJ 69 rfl,f1 _]
 have z0:=aFB (m:=m+7)
 have la:=kU a
 have ta:=fK a
 unfold iQ
 refine cJ (fun e=> ?_) (fun e=> ?_)
 ·simp (disch:=first|rfl|omega)only[S1,zB,reduceCtorEq,zD,zG,zH,aY,vJ 225 rfl,z0 _]
  rw[if_pos (of_decide_eq_true e)]
 ·rw [if_neg (of_decide_eq_false e)]
  simp (disch:=first|rfl|omega)only[S1,aC,aE,aM,aJ,zB,zD,zG,aY,vJ 225 rfl,z0 _]
  have F:2<=(bK a).length:=by have:=of_decide_eq_false e;omega
  have wp:=d.monic
  have pp:PS 7000 (bK a):=wp.ps (by omega) (by omega)
  have fm:∀i,FR 7000 (lV (bK a) i):=fun i=>qH (aI1 wp i) (by omega)
  refine .up (fun i e s=>s.nxt=2/\s.ob 0=⟨0,[.b false,.nil,.b false,.nil]⟩/\(∃q,q=lV (bK a) i/\s.ob 1=⟨0,cR q⟩)/\e 0=some (tP (bK a))/\e 2=some (.po 0 0)/\e 3=some (.po 1 0)/\e 4=some (.int .i64 (i:Nat))) ((bK a).length-1) ?_ (dC (by omega)) ?_
  ·refine⟨rfl,rfl,⟨0,rfl,rfl⟩, ?_, ?_, ?_, ?_⟩<;>simp (disch:=first|rfl|omega)only[S1,zB]
  ·rintro i e s I ⟨sn,f,⟨q,hq,s1⟩,e0,v,g,o⟩
   have fq:FR 7000 q:=by rw[hq];exact fm i
   by_cases hc:i<(bK a).length-1
   ·have h1:decide (i+1<(bK a).length)=true:=decide_eq_true (by omega)
    have fc:FR 7000 (co (bK a) i):=pp.co (by omega)
    have c1:=bFu (m:=m+7) (fc.mono (k:=9000000) (by decide))
    have fa:FR 7000 (mQ (co (bK a) i)):=⟨by rw[(aBb _).2];exact fc.1,by rw[(aBb _).1];exact fc.2⟩
    have c2:=aSa (m:=m+6) (a:=mQ (co (bK a) i)) (b:=q) (fa.mono (by decide)) (fq.mono (by decide))
    simp (disch:=first|rfl|omega)only[S1,aN,aC,aE,aM,aJ,zB,reduceCtorEq,zD,zG,zH,aY,cR,e0,g,o,sn,s1,h1,lD,kX,c1 _,c2 _,aFp]
    refine cJ (fun r=> ?_) (fun r=> ?_)
    ·simp (disch:=first|rfl|omega)only[S1,aC,aE,aM,aJ,zB,zD,zG,aY,cR,e0,v,g,o,sn,f,s1,lD,kX,vJ 229 rfl,c1 _]
     exact⟨hc,_,by rw[lV,←hq,if_pos (of_decide_eq_true r)],rfl⟩
    ·simp (disch:=first|rfl|omega)only[S1,aC,aE,aM,aJ,zB,cR,e0,v,g,o,sn,f,s1]
     exact⟨hc,_,by rw[lV,←hq,if_neg (of_decide_eq_false r)],rfl⟩
   ·have h1:decide (i+1<(bK a).length)=false:=decide_eq_false (by omega)
    obtain rfl:i=(bK a).length-1:=by omega
    have c1:=zX (m:=m+8) (z:=((1:Nat):Int)) (by decide) (by decide)
    have c2:=aK5 (m:=m+3) (a:=q) (b:=((((1:Nat):Int)):Rat)) (fq.mono (by decide)) ⟨aX.one (by decide),aX.one (by decide)⟩
    simp (disch:=first|rfl|omega)only[S1,aN,aC,aE,aM,aJ,zB,reduceCtorEq,zD,zG,zH,aY,cR,e0,v,g,o,sn,f,s1,h1,c1 _,c2 _]
    rw[hq]
    rfl
theorem bAT{a:List Rat}{k:Nat}(d:WD k a)(c:a.length<=400)(w:k<=200000):CC (VX (m+14)) 160 [tP a] (tR (iQ a)):= .of (iG a) (iZ a) (bAi d c w)
end
section
variable {m:Nat}
theorem eC:cU PG 34=some 35:=by kernel_rfl
theorem kP':dE PG 35=true:=by kernel_rfl
theorem sP':aU PG 35=1:=by kernel_rfl
theorem aP':jY PG 35=false:=by kernel_rfl
theorem cP':dJ PG 35=true:=by kernel_rfl
theorem zP':pE PG 35=some [.nil]:=by kernel_rfl
def iU:EC (List Rat):=⟨fun l=>[tP l],1,by decide,fun _=>rfl,iG,fun l=>by simp only[iI,bJN,bKr,aJR,bJv],3,fun l=>by simp only[bW,uY];omega⟩
def tC(c:List (List Rat)):TV:=iU.t c
theorem aSY{c:List (List Rat)}:jU PG 34 (tC c)=some (.int .i64 (c.length:Nat)):=aG0 (E:=iU) eC sP'
theorem aZr{c:List (List Rat)}{j:Nat}(h:j<c.length):mE PG 34 (tC c) j=some (.pi (iU.row c) (j*1)):=aF2 (E:=iU) eC kP' sP' h
theorem bD4{c:List (List Rat)}{j:Nat}{s:VS}(h:j<c.length):kD PG 35 s (.pi (iU.row c) (j*1))=some (tP (c.getD j [])):=by
 rw[aEE aP']
 have:=iU.get (l:=c) (j:=j) (o:=0) h (by decide)
 exact this
theorem aZk{c:List (List Rat)}{j:Nat}{s:VS}(h:j<c.length):kD PG 35 s (.pi (iU.row c) j)=some (tP (c.getD j [])):=by
 have:=bD4 (s:=s) h
 rwa [bJn]at this
theorem aJG(c:List (List Rat)):cP (tC c):=iU.t_can c
theorem aJK(c:List (List Rat)):dA (tC c)=1:=iU.t_siz c
theorem aK0(c:List (List Rat))(q:Rat):Can [tC c,tR q]:=Can.cons (aJG c) (Can.cons (xW q) Can.nil)
theorem aS5(c:List (List Rat))(q:Rat):bW [tC c,tR q]<=cK:=by simp only[bW,aJK,uZ];decide
theorem aS6{s:VS}{c:List (List Rat)}:dM s [tC c]=some (tC c,false):=sO (aJG c) (by rw[aJK];decide)
theorem aSG{c:List (List Rat)}:(tC c).one=true:=iU.t_one
theorem aPa{c:List (List Rat)}:(tC c).cells=[tC c]:=iU.t_cells
theorem fL.stepC{y s:VS}{v:TV}{c:List (List Rat)}(h:fL iU y s v c)(l:List Rat)(n1:c.length<=10000000):∃v' s',gT PG 35 (s.new [tP l]) v (.ow s.nxt 0 1 1)=some (v',s')/\fL iU y s' v' (c++[l]):=h.step l cP' sP' n1
theorem iV:type_of%(And.intro @eC (And.intro @kP' (And.intro @sP' (And.intro @aP' (And.intro @cP' (And.intro @zP' (And.intro @aSY (And.intro @aS6 (And.intro @aSG (@aPa)))))))))):=(And.intro @eC (And.intro @kP' (And.intro @sP' (And.intro @aP' (And.intro @cP' (And.intro @zP' (And.intro @aSY (And.intro @aS6 (And.intro @aSG (@aPa))))))))))
theorem aXO:bQ PG 163 f163 [2,19] []=true:=by kernel_rfl
theorem bB7{a:List Rat}{k:Nat}(h:gJ k a):VX (m+17) 163 [tP a]=some (tC (iS a),false):=by
 have h2:=h.two
 have U:=h.len
 have ta:=fK a
 have V:(k+11)*3<=210000:=bIO (bJ7 _ (show 3<=3^((tr a).length-1)from bJ9 (n:=3) (show 0<3 by decide) (show 1<=(tr a).length-1 by omega))) h.h1
 have W:decide (((tr a).length:Nat)<2)=false:=decide_eq_false (by omega)
 have f1:=aYz (m:=m+9) (l:=a) (h.wd.ps (by omega) (by omega))
 rw[vG (show 0<(tr a).length by omega)]at f1
 have f2:=bFT (m:=m) h.wd (by omega) h2 h.gcd (bIO h.h1 (by decide))
 rw[h.sqf]at f2
 obtain⟨A,J,K,B⟩:=h.der
 have f3:=aJY (m:=m+5) (l:=bK a) (A.ps (by omega) (by omega))
 have L:decide ((tr a).length-1<1)=false:=decide_eq_false (by omega)
 refine jP rfl func163 aXO rfl ?_
 simp only[f163,N1,bD,bJ,bM,bL,bH,zB,zG]
 simp (disch:=first|rfl|omega)only[S1,aC,aE,aM,aJ,aD,zB,zE,zH,aY,iV,vJ 231 rfl,f1 _,L,vJ 232 rfl,f2 _,vJ 27 rfl,f3 _]
 have C:=h.all
 have i:∀x,1<=x->(k+11)*3^((tr a).length-x)-1<=210000:=fun x h1=>by
  have:=bJ7 (k+11) (bJ9 (show 0<3 by decide) (show(tr a).length-x<=(tr a).length-1 by omega))
  have:=h.h1
  omega
 refine .loop (fun n e s=>∃out p q f v,e 3=some (tP p)/\e 4=some v/\e 5=some (tP q)/\fL iU eA s v out/\out++pZ f p q=iS a/\q.length<f/\NF p/\NF q/\q.length<p.length/\p.length<=(tr a).length/\WD ((k+11)*3^((tr a).length-p.length)-1) p/\WD ((k+11)*3^((tr a).length-p.length)-1) q/\n=q.length) (dU (bK a)).length ?_ (dC (by omega)) ?_
 ·refine⟨[bK a],bK a,dU (bK a),(dU (bK a)).length+1,.ow 0 0 1 1, ?_, ?_, ?_,⟨.inr ⟨0,rfl,Nat.one_pos,rfl⟩,bIR _,fun j M=>absurd M (Nat.not_lt_zero _),fun _ _ _ _ _=>bIR _⟩, ?_,bIZ _,.pmonic a,.pder _,K,by omega, ?_, ?_,rfl⟩
  ·simp (disch:=first|rfl|omega)only[S1,zB]
  ·simp (disch:=first|rfl|omega)only[S1,zB]
  ·simp (disch:=first|rfl|omega)only[S1,zB]
  ·rw[h.chain];rfl
  ·rw[B,bJV,bKg,bJn];exact A
  ·rw[B,bJV,bKg,bJn];exact J
 ·rintro n e s ⟨out,p,q,f,v,D,F,G,H,r,hf,np,nq,u,N,wp,wq,rfl⟩
  obtain⟨f,rfl⟩:∃g,f=g+1:=⟨f-1,by omega⟩
  have O:out.length<=(tr a).length:=by have:=congrArg List.length r;rw[bJ3]at this;omega
  by_cases hc:0<q.length
  ·have h1:decide (0<q.length)=true:=decide_eq_true hc
   have d:q≠ []:=bJK.1 hc
   obtain⟨I,P,X⟩:=aBG wp wq np nq d u N (show 1<=k+11 by omega)
   obtain⟨Q,Y⟩:=aBf (a:=p) (b:=q) (by rw[nq.eq];exact d)
   rw[nq.eq]at Q
   have Z:=i p.length (by omega)
   have b2:=i q.length (by omega)
   have R:=h.h1
   have c1:=aHN (m:=m+2) (a:=p) (b:=q) wp wq (by omega) (by omega) (by rw[nq.eq];exact d) (by rw[np.eq,nq.eq];omega) (by omega)
   have c2:=zX (m:=m+11) (z:= -1) (by decide) (by decide)
   have c3:=aF9 (m:=m+5) (l:=fG p q) (I.ps (by omega) (by omega)) FR.neg1
   obtain⟨v',s',ea,w⟩:=H.stepC q (by omega)
   have ls:=aHw (fG p q) ((-1:Int):Rat)
   simp (disch:=first|rfl|omega)only[S1,aK,aN,aC,aE,aM,aJ,aD,zB,zE,zH,aY,iV,D,F,G,h1,ea,vJ 70 rfl,c1 _,vJ 72 rfl,c2 _,vJ 151 rfl,c3 _]
   refine⟨_, ?_,out++[q],q,eI (fG p q) ((-1:Int):Rat),f,v',rfl,rfl,rfl,w, ?_, ?_,nq,.tr _, ?_,by omega,P,I.neg1,rfl⟩
   ·omega
   ·rw[←r,pZ,if_neg d,List.append_assoc];rfl
   ·omega
   ·omega
  ·have h1:decide (0<q.length)=false:=decide_eq_false hc
   have d:q=[]:=bJA (by omega)
   have S:=H.bld.ret (show out.length*3+1<=cK by have:cK=100000000:=rfl;omega)
   have T:out=iS a:=by rw[←r,pZ,if_pos d,List.append_nil]
   simp (disch:=first|rfl|omega)only[S1,aN,aC,aE,aM,aJ,zB,reduceCtorEq,aY,F,G,h1]
   rw[S,T];rfl
theorem bBq{a:List Rat}{k:Nat}(h:gJ k a):CC (VX (m+17)) 163 [tP a] (tC (iS a)):= .of (iG a) (iZ a) (bB7 h)
end
section
variable {m:Nat}
def Sm(z:Int):Prop:= -1<=z/\z<=1
theorem Sm.sg(q:Rat):Sm (fW q):=aCE q.num
theorem bAl{z:Int}(h:Sm z):zJ .neg (.int .i64 z)=some (.int .i64 (-z)):=by
 simp only[zJ]
 rw[uP (by have:=h.1;have:=h.2;omega) (by have:=h.1;have:=h.2;omega)]
theorem bEc{et:fO}{k:bQc}{z w:Int}:bX et .eql (.int k z) (.int k w)=some (.b (decide (z=w))):=by simp only[bX,dY,if_true]
theorem aBM{et:fO}{k:bQc}{z:Int}:bX et .neq (.int k z) (.int k ((0:Nat):Int))=some (.b (!decide (z=0))):=by simp only[bX,dY,if_true];rfl
theorem aLl(x:Rat):∀(c d:List (List Rat)) (s:Nat×Int),jH x (c++d) s=jH x d (jH x c s)
 | [],_,_=>rfl
 |p::c,d,s=>by simp only[List.cons_append,jH];exact aLl x c d _
theorem aN8{x:Rat}{c:List (List Rat)}{j:Nat}(h:j<c.length)(s:Nat×Int):jH x (c.take (j+1)) s=(if fW (eP x (c.getD j []))=0 then jH x (c.take j) s else(if fW (eP x (c.getD j []))= -(jH x (c.take j) s).2 then(jH x (c.take j) s).1+1 else(jH x (c.take j) s).1,fW (eP x (c.getD j [])))):=by
 have e:c.take (j+1)=c.take j++[c.getD j []]:=by
  rw[bKA h];simp [h]
 rw[e,aLl];rfl
theorem aJm(x:Rat):∀(c:List (List Rat)) (s:Nat×Int),Sm s.2->Sm (jH x c s).2
 | [],_,h=>h
 |p::c,s,h=>by
  unfold jH
  refine aJm x c _ ?_
  split
  ·exact h
  ·exact .sg _
theorem bCg:bQ PG 164 f164 [4,27,23] []=true:=by kernel_rfl
theorem bFl{c:List (List Rat)}{x:Rat}{k:Nat}(hc:c.length<=400)(v:∀p∈c,WD 210000 p/\p.length<=400/\210000+(k+1)*p.length<=320000)(hx:x.den<2^k/\x.num.natAbs<2^k)(E:k<=300000):VX (m+12) 164 [tC c,tR x]=some (.int .i64 (gK c x:Nat),false):=by
 refine bY rfl func164 bCg rfl ?_
 simp only[f164,N1,bD,bJ,bM,bL,bH,zB,zG]
 simp (disch:=first|rfl|omega)only[S1,aC,aE,aM,aJ,zB,zD,aY]
 refine .up (fun j e s=>s.nxt=1/\s.ob 0=⟨0,cR x⟩/\e 0=some (tC c)/\e 3=some (.po 0 0)/\e 5=some (.int .i64 ((jH x (c.take j) (0,0)).1:Nat))/\e 6=some (.int .i64 (jH x (c.take j) (0,0)).2)/\e 7=some (.int .i64 (j:Nat))) c.length ?_ (dC (by omega)) ?_
 ·refine⟨rfl,rfl, ?_, ?_, ?_, ?_, ?_⟩<;>simp (disch:=first|rfl|omega)only[S1,zB]
  ·rfl
  ·rfl
 ·rintro j e s F ⟨sn,A,e0,B,i,t,C⟩
  by_cases f:j<c.length
  ·have h1:decide (j<c.length)=true:=decide_eq_true f
   obtain⟨p,D⟩:∃p,p=c.getD j []:=⟨_,rfl⟩
   have M:p∈c:=by rw[D];simp [f]
   obtain⟨I,Q,R⟩:=v p M
   have J:∀n,FR 10000 (eP x (p.drop n)):=fun n=>qH (aLy (I.drop n) hx.1 hx.2) (by
    have:=bJ7 (k+1) (show(p.drop n).length<=p.length by rw[List.length_drop];omega)
    omega)
   have c1:=bCI (m:=m) (l:=p) (x:=x) (I.ps (by omega) (by omega)) (qH hx (by omega)) J
   have fe:FR 10000 (eP x p):=J 0
   have c2:=aJg (m:=m+6) (q:=eP x p) (fe.mono (by decide))
   have K:=aN8 f (0,0) (x:=x)
   rw[←D]at K
   have hs:=aJm x (c.take j) (0,0) ⟨by decide,by decide⟩
   have g:=aDa x (c.take j) (0,0)
   have G:(c.take j).length=j:=by rw[bIW];omega
   rw[K]
   obtain⟨st,H⟩:∃st,st=jH x (c.take j) (0,0):=⟨_,rfl⟩
   rw[←H]at i t hs g ⊢
   have g:st.1<=j:=by rw[G]at g;exact bIO g (by show 0+j<=j;omega)
   simp (disch:=first|rfl|omega)only[S1,aN,aC,aE,aM,aJ,zB,reduceCtorEq,zD,zG,zH,aY,iV,cR,sn,A,e0,B,C,h1,aZr,aZk,bJn,←D,c1 _,c2 _,aBM]
   refine cJ (fun u=> ?_) (fun u=> ?_)
   ·have u:¬fW (eP x p)=0:=by simpa using u
    rw[if_neg u]
    simp (disch:=first|rfl|omega)only[S1,zB,t,bAl hs,bEc]
    refine cJ (fun o=> ?_) (fun o=> ?_)
    ·simp (disch:=first|rfl|omega)only[S1,aC,aE,aM,aJ,zB,cR,sn,A,e0,B,i,t,C]
     rw[if_pos (of_decide_eq_true o)]
     exact⟨f,rfl⟩
    ·simp (disch:=first|rfl|omega)only[S1,aC,aE,aM,aJ,zB,cR,sn,A,e0,B,i,t,C]
     rw[if_neg (of_decide_eq_false o)]
     exact⟨f,rfl⟩
   ·have u:fW (eP x p)=0:=by simpa using u
    rw[if_pos u]
    simp (disch:=first|rfl|omega)only[S1,aC,aE,aM,aJ,zB,cR,sn,A,e0,B,i,t,C]
    exact f
  ·have h1:decide (j<c.length)=false:=decide_eq_false f
   obtain rfl:j=c.length:=by omega
   rw[bJy]at i
   simp (disch:=first|rfl|omega)only[S1,aN,zB,reduceCtorEq,iV,cR,e0,i,C,h1]
   rfl
theorem aRM{c:List (List Rat)}{x:Rat}{k:Nat}(hc:c.length<=400)(v:∀p∈c,WD 210000 p/\p.length<=400/\210000+(k+1)*p.length<=320000)(hx:x.den<2^k/\x.num.natAbs<2^k)(E:k<=300000):CC (VX (m+12)) 164 [tC c,tR x] (.int .i64 (gK c x:Nat)):= .of (aK0 c x) (aS5 c x) (bFl hc v hx E)
theorem aPu(l:List Rat)(q r:Rat):Can [tP l,tR q,tR r]:=Can.cons (sY l) (pD q r)
theorem aQG(l:List Rat)(q r:Rat):bW [tP l,tR q,tR r]<=cK:=by simp only[bW,uY,uZ];decide
theorem aAd{et:fO}{k:bQc}{z:Int}:bX et .geq (.int k z) (.int k ((0:Nat):Int))=some (.b (decide (0<=z))):=by simp [bX,dY]
theorem aQr{et:fO}{x y:Nat}(h:x<1000000)(h':y<1000000):bX et .sub (.int .i64 (x:Int)) (.int .i64 (y:Int))=some (.int .i64 ((x:Int)-(y:Int))):=by
 simp only[bX,dY,if_true]
 rw[uP (by omega) (by omega)]
theorem aG5{k:Nat}{a:List Rat}(h:gJ k a)(x:Rat):gK (iS a) x<=400:=by
 have h1:=aDa x (iS a) (0,0)
 have h2:=h.all.2
 have S:=fK a
 have T:=h.len
 exact bIO h1 (by show 0+(iS a).length<=400;omega)
theorem aY4:bQ PG 75 f75 [6] []=true:=by kernel_rfl
theorem aZZ{a:List Rat}{k j:Nat}{x y:Rat}(h:gJ k a)(hx:x.den<2^j/\x.num.natAbs<2^j)(o:y.den<2^j/\y.num.natAbs<2^j)(F:(j+1)*(tr a).length<=110000):VX (m+18) 75 [tP a,tR x,tR y]=some (.int .i64 (xV a x y),false):=by
 have h2:=h.two
 have U:=h.len
 have ta:=fK a
 have N:(j+1)*1<=(j+1)*(tr a).length:=bJ7 _ (by omega)
 have fx:FR 30000 x:=qH hx (by omega)
 have fy:FR 30000 y:=qH o (by omega)
 have c1:=aSa (m:=m+10) (a:=x) (b:=y) fx fy
 have c2:=bBq (m:=m) h
 have v:∀p∈iS a,WD 210000 p/\p.length<=400/\210000+(j+1)*p.length<=320000:=fun p D=>by
  obtain⟨O,i2⟩:=h.all.1 p D
  have:=bJ7 (j+1) i2
  exact⟨O,by omega,by omega⟩
 have P:=h.all.2
 have c3:=aRM (m:=m+5) (c:=iS a) (x:=x) (by omega) v hx (by omega)
 have c4:=aRM (m:=m+5) (c:=iS a) (x:=y) (by omega) v o (by omega)
 have n1:=aG5 h x
 have V:=aG5 h y
 refine bY rfl func75 aY4 rfl ?_
 simp only[f75,N1,bD,bJ,bM,bL,bH,zB,zG]
 simp (disch:=first|rfl|omega)only[S1,aC,aE,aM,aJ,zB,reduceCtorEq,zD,zG,zH,aY,vJ 162 rfl,c1 _,aAd]
 unfold xV
 refine cJ (fun e=> ?_) (fun e=> ?_)
 ·rw[if_pos (of_decide_eq_true e)]
  simp (disch:=first|rfl|omega)only[S1,aC,aE,aM,aJ,zB,reduceCtorEq]
  rfl
 ·rw[if_neg (of_decide_eq_false e)]
  simp (disch:=first|rfl|omega)only[S1,zB,reduceCtorEq,zD,zG,zH,aY,vJ 163 rfl,c2 _,c3 _,c4 _,aQr (show gK (iS a) x<1000000 by omega) (show gK (iS a) y<1000000 by omega)]
theorem aZo{a:List Rat}{k j:Nat}{x y:Rat}(h:gJ k a)(hx:x.den<2^j/\x.num.natAbs<2^j)(o:y.den<2^j/\y.num.natAbs<2^j)(F:(j+1)*(tr a).length<=110000):CC (VX (m+18)) 75 [tP a,tR x,tR y] (.int .i64 (xV a x y)):= .of (aPu a x y) (aQG a x y) (aZZ h hx o F)
theorem bEF{s:VS}{q r:Rat}:dM s [tR q,tR r]=some (.tp [tR q,tR r],false):=aBy (pD q r) (rP q r)
theorem _root_.Go.Proofs.YtmjoaipkaddkbaaGreatDoor.gJ.k9{k:Nat}{a:List Rat}(h:gJ k a):k<=50000:=by
 have h1:=bJ7 (k+3) h.two
 have h2:=h.h2
 omega
theorem bAX:bQ PG 74 f74 [3,2] [(2,[(4,2),(4,3)])]=true:=by kernel_rfl
theorem bEu{a:List Rat}{k:Nat}(h:gJ k a):VX (m+15) 74 [tP a]=some (.tp [tR (-iQ a),tR (iQ a)],false):=by
 have E:=h.k9
 have c1:=bAT (m:=m) h.wd h.len (by omega)
 have fb:FR 30000 (iQ a):=qH (aEp h.wd) (by omega)
 have c2:=aSy (m:=m+10) (q:=iQ a) (fb.mono (by decide))
 refine bY rfl func74 bAX rfl ?_
 simp only[f74,N1,bD,bJ,bM,bL,bH,zB,zG]
 simp (disch:=first|rfl|omega)only[S1,aL,zB,zC,reduceCtorEq,zD,zG,zH,aY,vJ 160 rfl,c1 _,c2 _,bEF]
theorem bCf{a:List Rat}{k:Nat}(h:gJ k a):CC (VX (m+15)) 74 [tP a] (.tp [tR (-iQ a),tR (iQ a)]):= .of (iG a) (iZ a) (bEu h)
theorem aXN:bQ PG 28 f28 [2] []=true:=by kernel_rfl
theorem aZm{a:List Rat}{k:Nat}(h:gJ k a):VX (m+19) 28 [tP a]=some (.int .i64 (aAx a),false):=by
 have E:=h.k9
 have c1:=bCf (m:=m+3) h
 have L:=aEp h.wd
 have c2:=aZo (m:=m) (j:=k+2) h (aMG L) L (by have:=h.h2;rw[show k+2+1=k+3 from rfl];omega)
 refine bY rfl func28 aXN rfl ?_
 simp only[f28,N1,bD,bJ,bM,bL,bH,zB,zG]
 simp (disch:=first|rfl|omega)only[S1,aC,aE,aM,aJ,zB,reduceCtorEq,zD,zG,zH,aY,vJ 74 rfl,c1 _,vJ 75 rfl,c2 _]
 rfl
theorem aZj{a:List Rat}{k:Nat}(h:gJ k a):CC (VX (m+19)) 28 [tP a] (.int .i64 (aAx a)):= .of (iG a) (iZ a) (aZm h)
end
section
variable {m:Nat}
def tX(x:Bool×List Nat):TV:= .ag (ci x.1 x.2)
def dW(x:Bool×List Nat):Bool:=decide ((cG x.2).length=x.2.length)&&(!x.1||decide (0<x.2.length))
theorem bFZ(x:Bool×List Nat):cP (tX x):=cP.ag (aFY _ _)
theorem bFz(x:Bool×List Nat):dA (tX x)=6:=by simp only[tX,ci,dA,bW,fJ]
theorem aK6(x:Bool×List Nat):Can [tX x]:=Can.cons (bFZ x) Can.nil
theorem aK1(x:Bool×List Nat):bW [tX x]<=cK:=by simp only[bW,bFz];decide
theorem rK{x:Bool×List Nat}:(tX x).cells=[.b x.1,tW x.2]:=rfl
def eV:EC (Bool×List Nat):=⟨fun x=>[.b x.1,tW x.2],2,by decide,fun _=>rfl,fun x=>aFY x.1 x.2,fun _=>by simp only[iI,bJN,bKr,aGm,aFS,bJv],5,fun _=>by simp only[bW,dA,fJ];omega⟩
def eB(l:List (Bool×List Nat)):TV:=eV.t l
theorem eZ:cU PG 22=some 47:=by kernel_rfl
theorem kZ:dE PG 22=true:=by kernel_rfl
theorem aZ:jY PG 22=false:=by kernel_rfl
theorem cZ:dJ PG 22=true:=by kernel_rfl
theorem sZ:aU PG 22=1:=by kernel_rfl
theorem fA0:lF PG 24 0=some (0,22):=by kernel_rfl
theorem fA1:lF PG 24 1=some (1,3):=by kernel_rfl
theorem pA0:qJ PG 24 0=some (0,1):=by kernel_rfl
theorem pA1:qJ PG 24 1=some (1,1):=by kernel_rfl
theorem zA:pE PG 24=some [.nil,.int .i64 ((0:Nat):Int)]:=by kernel_rfl
theorem bA:aA1 PG 24=true:=by kernel_rfl
theorem kA:dE PG 24=true:=by kernel_rfl
theorem aA:jY PG 24=true:=by kernel_rfl
theorem sA:aU PG 24=2:=by kernel_rfl
theorem kin:dE PG 3=true:=by kernel_rfl
theorem ain:jY PG 3=false:=by kernel_rfl
theorem cin:dJ PG 3=true:=by kernel_rfl
theorem sin:aU PG 3=1:=by kernel_rfl
theorem aSh{l:List (Bool×List Nat)}:jU PG 22 (eB l)=some (.int .i64 (l.length:Nat)):=aG0 (E:=eV) eZ sI
theorem nV{l:List (Bool×List Nat)}{j:Nat}(h:j<l.length):mE PG 22 (eB l) j=some (.pi (eV.row l) (j*2)):=aF2 (E:=eV) eZ kI sI h
theorem pB{l:List (Bool×List Nat)}{j:Nat}{s:VS}(h:j<l.length):kD PG 47 s (.pi (eV.row l) (j*2))=some (tX (l.getD j (false,[]))):=by
 have e:=eV.all h
 simp only[kD,pU,aI,if_true,sI]
 rw[show(2:Nat)=eV.sz from rfl,e]
 rfl
theorem bA7{l:List (Bool×List Nat)}{j:Nat}{s:VS}(h:j<l.length):kD PG 45 s (.pi (eV.row l) (j*2+1))=some (tW (l.getD j (false,[])).2):=by
 rw[aEE aW]
 exact eV.get (l:=l) (j:=j) (o:=1) h (by decide)
theorem aR9{l:List (Bool×List Nat)}:(eB l).one=true:=eV.t_one
theorem aMu{l:List (Bool×List Nat)}:(eB l).cells=[eB l]:=eV.t_cells
theorem aJ0(l:List (Bool×List Nat)):dA (eB l)=1:=eV.t_siz l
def tF(l:List (Bool×List Nat))(r:Int):TV:= .ag [eB l,.int .i64 r]
theorem aNZ{l:List (Bool×List Nat)}{r:Int}:(tF l r).cells=[eB l,.int .i64 r]:=rfl
theorem aQQ{l:List (Bool×List Nat)}{r:Int}:TV.ag [eB l,.int .i64 r]=tF l r:=rfl
theorem bHp(l:List (Bool×List Nat))(r:Int):Can [eB l,.int .i64 r]:=Can.cons (eV.t_can l) (Can.cons (cP.int _ _) Can.nil)
theorem bF1(l:List (Bool×List Nat))(r:Int):cP (tF l r):=cP.ag (bHp l r)
theorem bGS(l:List (Bool×List Nat))(r:Int):dA (tF l r)=6:=by simp only[tF,dA,bW,aJ0]
theorem TF:type_of%(And.intro @eZ (And.intro @kZ (And.intro @aZ (And.intro @cZ (And.intro @sZ (And.intro @fA0 (And.intro @fA1 (And.intro @pA0 (And.intro @pA1 (And.intro @zA (And.intro @bA (And.intro @kA (And.intro @aA (And.intro @sA (And.intro @kin (And.intro @ain (And.intro @cin (And.intro @sin (And.intro @aSh (And.intro @aR9 (And.intro @aMu (And.intro @aNZ (And.intro @aQQ (@rK)))))))))))))))))))))))):=(And.intro @eZ (And.intro @kZ (And.intro @aZ (And.intro @cZ (And.intro @sZ (And.intro @fA0 (And.intro @fA1 (And.intro @pA0 (And.intro @pA1 (And.intro @zA (And.intro @bA (And.intro @kA (And.intro @aA (And.intro @sA (And.intro @kin (And.intro @ain (And.intro @cin (And.intro @sin (And.intro @aSh (And.intro @aR9 (And.intro @aMu (And.intro @aNZ (And.intro @aQQ (@rK))))))))))))))))))))))))
theorem bBG:bQ PG 6 f6 [2,18] []=true:=by kernel_rfl
theorem tN{l:List (Bool×List Nat)}{j:Nat}(h:j<l.length):l.getD j (false,[])∈l:=by simp [h]
theorem aZy{l:List (Bool×List Nat)}{p:Bool×List Nat->Bool}{j:Nat}(h:j<l.length):(l.take (j+1)).all p=((l.take j).all p&&p (l.getD j (false,[]))):=by
 rw[bKA h,bLW,bJN,bKr,bK6]
 simp [h]
theorem bE1{l:List (Bool×List Nat)}{r:Int}(h:l.length<9223372036854775807):VX (m+1) 6 [tF l r]=some (.b (l.all (fun x=>decide (x.2.length<=2))&&decide (l.length<=7)),false):=by
 refine bY rfl func6 bBG rfl ?_
 simp only[f6,N1,bD,bJ,bM,bL,bH,zB,zG]
 simp (disch:=first|rfl|omega)only[S1,aC,aE,aM,aJ,zB,TF]
 refine .up (fun j e s=>s.nxt=1/\s.ob 0=⟨0,[eB l,.int .i64 r]⟩/\e 1=some (.po 0 0)/\e 3=some (.int .i64 (j:Nat))/\(l.take j).all (fun x=>decide (x.2.length<=2))=true) l.length ?_ (bJR h (by decide)) ?_
 ·refine⟨rfl,rfl, ?_, ?_,rfl⟩<;>simp (disch:=first|rfl|omega)only[S1,zB]
 ·rintro j e s i ⟨sn,b,c,d,f⟩
  by_cases hc:j<l.length
  ·have h1:decide (j<l.length)=true:=decide_eq_true hc
   have a:=aZy (p:=fun x=>decide (x.2.length<=2)) hc
   rw[f,bJI]at a
   simp (disch:=first|rfl|omega)only[S1,aN,aC,aE,aM,aJ,zB,reduceCtorEq,zD,zG,zH,TF,aT,sn,b,c,d,h1,nV,bA7]
   refine cJ (fun h2=> ?_) (fun h2=> ?_)
   ·simp (disch:=first|rfl|omega)only[S1,aC,aE,aM,aJ,zB,reduceCtorEq]
    refine rb ?_
    have hx:=of_decide_eq_true h2
    have:l.all (fun x=>decide (x.2.length<=2))=false:=by
     rw[List.all_eq_false]
     exact⟨_,tN hc,by simp only[decide_eq_true_eq];omega⟩
    rw[this,bKI]
   ·simp (disch:=first|rfl|omega)only[S1,aC,aE,aM,aJ,zB,sn,b,c,d]
    have hx:=of_decide_eq_false h2
    refine⟨hc, ?_⟩
    rw[a]
    exact decide_eq_true (by omega)
  ·have h1:decide (j<l.length)=false:=decide_eq_false hc
   obtain rfl:j=l.length:=by omega
   rw[bJy]at f
   simp (disch:=first|rfl|omega)only[S1,aN,aC,aE,aM,aJ,zB,reduceCtorEq,zD,zG,zH,TF,aT,sn,b,c,d,h1]
   rw[f,bJI]
theorem aWU:bQ PG 21 f21 [2] []=true:=by kernel_rfl
theorem aZs{x:Bool×List Nat}(h:x.2.length<10000000):VX (m+2) 21 [tX x]=some (.b (dW x),false):=by
 have c1:=aJ8 (m:=m) (xs:=x.2) h
 refine bY rfl func21 aWU rfl ?_
 simp only[f21,N1,bD,bJ,bM,bL,bH,zB,zG]
 obtain⟨n,xs⟩:=x
 unfold dW
 simp only at h c1 ⊢
 cases g:decide ((cG xs).length=xs.length)
 ·simp (disch:=first|rfl|omega)only[S1,aN,aC,aE,aM,aJ,zB,reduceCtorEq,zD,zG,zH,rK,aT,(c1 _).1,g]
 ·cases n
  ·simp (disch:=first|rfl|omega)only[S1,aN,aC,aE,aM,aJ,zB,reduceCtorEq,zD,zG,zH,rK,aT,(c1 _).1,g]
   rfl
  ·simp (disch:=first|rfl|omega)only[S1,aN,aC,aE,aM,aJ,zB,reduceCtorEq,zD,zG,zH,rK,aT,(c1 _).1,g]
   rfl
theorem aZO{x:Bool×List Nat}(h:x.2.length<10000000):CC (VX (m+2)) 21 [tX x] (.b (dW x)):= .of (aK6 x) (aK1 x) (aZs h)
end
end Go.Proofs.YtmjoaipkaddkbaaGreatDoor.Ev
namespace Go.Proofs.YtmjoaipkaddkbaaGreatDoor
section
def wJ(a:List Rat):Prop:=a≠ []/\co a (a.length-1)=1
theorem wJ.of{a:List Rat}(h:tr a≠ []):wJ (bK a):=by
 have d:=kU a
 have m:0<(tr a).length:=bJK.2 h
 refine⟨fun e=>by rw[e]at d;simp at d;omega, ?_⟩
 rw[d,aBg,show co a ((tr a).length-1)=gQ a from(fF _ _).symm]
 have:=Rat.div_mul_cancel (a:=1) (sU h)
 rw[Rat.mul_comm];exact this
theorem wJ.pgl:∀(f:Nat) (a b:List Rat),wJ a->(b≠ []->wJ b)->wJ (pV f a b)
 |0,_,_,h,_=>h
 | f+1,a,b,h,o=>by
  unfold YtmjoaipkaddkbaaGreatDoor.pV
  split
  ·exact h
  ·next h0=>
   refine wJ.pgl f b _ (o h0) fun h1=> ?_
   have:tr (fG a b)≠ []:=fun e=>h1 (by unfold bK eI;rw[e];rfl)
   exact .of this
theorem aNJ{a b:List Rat}(h:tr a≠ []):(fY a b).length=1↔fY a b=[1]:=by
 have p:wJ (fY a b):=wJ.pgl _ _ _ (.of h) fun h1=>by
  have:tr b≠ []:=fun e=>h1 (by unfold bK eI;rw[e];rfl)
  exact .of this
 constructor
 ·intro d
  obtain⟨_,h2⟩:=p
  match m:fY a b,d,h2 with
  | [x],_,h2=>
   have:x=1:=h2
   rw[this]
 ·intro e;rw[e];rfl
def dK(zs:List Int):List Rat:=zs.map (fun z:Int=>(z:Rat))
theorem bD1(zs:List Int)(j:Nat):co (dK zs) j=((zs.getD j 0:Int):Rat):=by
 unfold co dK
 simp only[List.getD_eq_getElem?_getD,List.getElem?_map]
 cases zs[j]? <;>rfl
def gz(zs:List Int):Nat:=zs.foldl (fun g z=>Int.gcd g z) 0
def vz(zs:List Int)(r:Int):Bool:=decide (2<=zs.length)&&decide (0<zs.getD (zs.length-1) 0)&&decide (gz zs=1)&&decide (fY (dK zs) (dU (dK zs))=[1])&&decide (0<=r)&&decide (r<aAx (dK zs))
theorem aPS{k:Nat}(u:1<=k){zs:List Int}(h:∀z∈zs,z.natAbs<2^k):WD k (dK zs):=by
 refine⟨1,by decide,Nat.one_lt_two_pow (by omega),fun q hq=> ?_⟩
 obtain⟨z,i,rfl⟩:=bJF.1 hq
 exact⟨z,Rat.mul_one _,h z i⟩
theorem xH(zs:List Int):(dK zs).length=zs.length:=by simp [dK]
theorem aQO{zs:List Int}(h:0<zs.getD (zs.length-1) 0):NF (dK zs):=fun _=>by
 rw[xH,bD1,ne_eq,Rat.intCast_eq_zero_iff];omega
def yW(zs:List Int):Prop:=zs.length<=7/\∀z∈zs,z.natAbs<2^240
theorem aR3{n:Nat}(h:n<=7):3^(n-1)<=729:=bIO (bJ9 (show 0<3 by decide) (show n-1<=6 by omega)) (by decide)
theorem aIn{zs:List Int}(h:yW zs)(h2:2<=zs.length)(d:0<zs.getD (zs.length-1) 0)(s:fY (dK zs) (dU (dK zs))=[1]):gJ 240 (dK zs):=by
 have hn:=(aQO d).eq
 have c:=xH zs
 have l:=h.1
 refine⟨aPS (by decide) h.2,by omega,by rw[hn];omega,s, ?_, ?_⟩
 ·rw[hn,c]
  have:=bJ7 251 (aR3 l)
  omega
 ·rw[hn,c];omega
theorem aQw{B:Nat}:∀(zs:List Int) (g:Nat),g<B->(∀z∈zs,z.natAbs<B)->zs.foldl (fun g z=>Int.gcd g z) g<B
 | [],_,h,_=>h
 | z::zs,g,h,i=>by
  refine aQw zs _ ?_ fun w t=>i w (.tail _ t)
  by_cases h0:z=0
  ·rw[h0];simpa using h
  ·have h1:=i z (.head _)
   have h2:Int.gcd (g:Int) z<=z.natAbs:=Nat.le_of_dvd (by omega) (Nat.gcd_dvd_right _ _)
   exact bJe h2 h1
theorem aTk{zs:List Int}(h:∀z∈zs,z.natAbs<2^240):gz zs<2^240:=aQw zs 0 (by decide) h
theorem aMI(zs:List Int)(z:Int):gz (zs++[z])=Int.gcd (gz zs) z:=by simp [gz]
theorem aOk{zs:List Int}(h:yW zs)(h2:2<=zs.length)(d:0<zs.getD (zs.length-1) 0):WD 250 (dK zs)/\WD 250 (dU (dK zs))/\(tr (dU (dK zs))).length<(tr (dK zs)).length/\(250+1)*3^((tr (dK zs)).length-1)<=224000/\tr (dK zs)≠ []:=by
 have hn:=(aQO d).eq
 have c:=xH zs
 have l:=h.1
 have w:WD 240 (dK zs):=aPS (by decide) h.2
 have ld:=aBq (dK zs)
 refine⟨w.mono (by decide),w.der (by omega), ?_, ?_, ?_⟩
 ·rw[hn,(NF.pder _).eq];omega
 ·rw[hn,c]
  have:=bJ7 251 (aR3 l)
  omega
 ·rw[hn];intro e;rw[e]at c;simp at c;omega
end
end Go.Proofs.YtmjoaipkaddkbaaGreatDoor
namespace Go.Proofs.YtmjoaipkaddkbaaGreatDoor.Ev
section
variable {m:Nat}
def bZ(x:Bool×List Nat):Int:=sg x.1 (val x.2)
theorem rM{x:Bool×List Nat}(y:bC x.2)(h:dW x=true):tX x=tI (bZ x):=by
 obtain⟨n,xs⟩:=x
 simp only[dW,Bool.and_eq_true,decide_eq_true_eq]at h
 have Z:cG xs=xs:=by
  rw[mW,h.1,bJy]
 have hv:=aUJ y Z
 have o:bZ (n,xs)=sg n (val xs):=rfl
 rw[o,aGo,hv]
 show TV.ag (ci n xs)=_
 cases n
 ·rfl
 ·have h2:0<xs.length:=by simpa using h.2
  rw[decide_eq_true h2];rfl
theorem oY(x:Bool×List Nat):(bZ x).natAbs=val x.2:=aRv _ _
theorem bAA:bQ PG 24 f24 [4] []=true:=by kernel_rfl
theorem bCO{z w:Int}(h:aX 9000000 z.natAbs)(h':aX 9000000 w.natAbs):VX (m+2) 24 [tI z,tI w]=some (.b (decide (z=w)),false):=by
 have l1:=h.len
 have l2:=h'.len
 have c1:=aHV (m:=m) (a:=z.natAbs) (b:=w.natAbs) (by omega)
 refine bY rfl func24 bAA rfl ?_
 simp only[f24,N1,bD,bJ,bM,bL,bH,zB,zG]
 simp (disch:=first|rfl|omega)only[S1,aC,aE,aM,aJ,zB,reduceCtorEq,zD,zG,zH,TI,aT,vZ,aJC]
 cases d:(decide (z<0)==decide (w<0))
 ·simp (disch:=first|rfl|omega)only[S1,aC,aE,aM,aJ,zB,reduceCtorEq]
  refine rb (decide_eq_false fun e=> ?_).symm
  rw[e]at d;simp at d
 ·simp (disch:=first|rfl|omega)only[S1,aC,aE,aM,aJ,zB,reduceCtorEq,zD,zG,zH,aT,vJ 68 rfl,c1 _,aFw]
  refine rb (decide_eq_decide.2 ?_)
  simp only[beq_iff_eq,decide_eq_decide]at d
  by_cases h1:z.natAbs<w.natAbs
  ·rw[if_pos h1];omega
  ·rw[if_neg h1]
   by_cases h2:w.natAbs<z.natAbs
   ·rw[if_pos h2];omega
   ·rw[if_neg h2];omega
theorem aPY{z w:Int}(h:aX 9000000 z.natAbs)(h':aX 9000000 w.natAbs):CC (VX (m+2)) 24 [tI z,tI w] (.b (decide (z=w))):= .of (mG z w) (mF z w) (bCO h h')
theorem aSd(l:List (Bool×List Nat)):Can [eB l]:=Can.cons (eV.t_can l) Can.nil
theorem aRI(l:List (Bool×List Nat)):bW [eB l]<=cK:=by simp only[bW,aJ0];decide
theorem aXC:bQ PG 25 f25 [2] []=true:=by kernel_rfl
theorem bBf{l:List (Bool×List Nat)}(h:l.length<=1000)(y:∀x∈l,bC x.2)(M:∀x∈l,dW x=true):VX (m+5) 25 [eB l]=some (tP (dK (l.map bZ)),false):=by
 refine jP rfl func25 aXC rfl ?_
 simp only[f25,N1,bD,bJ,bM,bL,bH,zB,zG]
 simp (disch:=first|rfl|omega)only[S1,aC,aE,aM,aJ,zB]
 have c1:=aBj (m:=m) (z:=((1:Nat):Int)) (by decide) (by decide)
 refine .up (fun j e s=>∃v,e 0=some (eB l)/\e 3=some v/\e 4=some (.int .i64 (j:Nat))/\fL bP eA s v (dK ((l.take j).map bZ))) l.length ?_ (dC (by omega)) ?_
 ·refine⟨.nil, ?_, ?_, ?_,.nil _⟩<;>simp (disch:=first|rfl|omega)only[S1,zB]
 ·rintro j e s hj ⟨v,e0,f,i,N⟩
  have O:(dK ((l.take j).map bZ)).length<=1000:=by rw[xH,bJB,bIW];omega
  by_cases hc:j<l.length
  ·have h1:decide (j<l.length)=true:=decide_eq_true hc
   obtain⟨x,hx⟩:∃x,x=l.getD j (false,[]):=⟨_,rfl⟩
   have C:x∈l:=by rw[hx];exact tN hc
   have o:=rM (y x C) (M x C)
   have hf:TV.ag [.b (decide (bZ x<0)),tW (aO (bZ x).natAbs),.b (decide (((1:Nat):Int)<0)),tW (aO ((1:Nat):Int).natAbs)]=tR ((bZ x:Int):Rat):=aTo rfl rfl
   obtain⟨v',s',ea,P⟩:=N.stepR ((bZ x:Int):Rat) (by omega)
   simp (disch:=first|rfl|omega)only[S1,aK,aN,aC,aE,aM,aJ,aD,zB,zD,zE,zH,aY,TF,e0,f,i,h1,nV,pB,←hx,o,c1 _,hf,ea]
   refine⟨hc,v',rfl, ?_⟩
   have et:l.take (j+1)=l.take j++[x]:=by rw[bKA hc,hx];simp [hc]
   rw[et,bKh]
   unfold dK
   rw[bKh]
   exact P
  ·have h1:decide (j<l.length)=false:=decide_eq_false hc
   obtain rfl:j=l.length:=by omega
   rw[bJy]at N O
   have S:=N.bld.ret (show(dK (l.map bZ)).length*9+1<=cK by have:cK=100000000:=rfl;omega)
   simp (disch:=first|rfl|omega)only[S1,aN,zB,reduceCtorEq,TF,e0,f,i,h1]
   rw[S];rfl
theorem bB9{l:List (Bool×List Nat)}(h:l.length<=1000)(y:∀x∈l,bC x.2)(M:∀x∈l,dW x=true):CC (VX (m+5)) 25 [eB l] (tP (dK (l.map bZ))):= .of (aSd l) (aRI l) (bBf h y M)
theorem aD4{et:fO}{k:bQc}{z:Int}:bX et .leq (.int k z) (.int k ((0:Nat):Int))=some (.b (decide (z<=0))):=by simp [bX,dY]
theorem aAn{et:fO}{k:bQc}{z w:Int}:bX et .lss (.int k z) (.int k w)=some (.b (decide (z<w))):=by simp only[bX,dY,if_true]
theorem aWw:bQ PG 7 f7 [2,49,21] []=true:=by kernel_rfl
theorem aYu{l:List (Bool×List Nat)}{r:Int}(h:l.length<=7)(y:∀x∈l,bC x.2/\val x.2<2^240/\x.2.length<1000)(_S: -9223372036854775808<=r/\r<9223372036854775808):VX (m+20) 7 [tF l r]=some (.b (l.all dW&&vz (l.map bZ) r),false):=by
 refine bY rfl func7 aWw rfl ?_
 simp only[f7,N1,bD,bJ,bM,bL,bH,zB,zG]
 have g0:=aBj (m:=m+15) (z:=((0:Nat):Int)) (by decide) (by decide)
 simp (disch:=first|rfl|omega)only[S1,aC,aE,aM,aJ,zB,zD,zG,aY,TF,vJ 20 rfl,g0 _]
 refine .up (fun j e s=>s.nxt=2/\s.ob 0=⟨0,[eB l,.int .i64 r]⟩/\(∃g:Int,g=(gz ((l.take j).map bZ):Nat)/\s.ob 1=⟨0,[.b (decide (g<0)),tW (aO g.natAbs)]⟩)/\e 1=some (.po 0 0)/\e 3=some (.po 1 0)/\e 4=some (.int .i64 (j:Nat))/\(l.take j).all dW=true) l.length ?_ (dC (by omega)) ?_
 ·refine⟨rfl,rfl,⟨_,rfl,rfl⟩, ?_, ?_, ?_,rfl⟩<;>simp (disch:=first|rfl|omega)only[S1,zB]
 ·rintro j e s hj ⟨sn,A,⟨g,q,s1⟩,B,f,i,K⟩
  have E:∀z∈(l.take j).map bZ,z.natAbs<2^240:=fun z o=>by
   obtain⟨x,hx,rfl⟩:=bJF.1 o
   rw[oY];exact(y x (List.mem_of_mem_take hx)).2.1
  have fg:aX 9 g.natAbs:=by rw[q];exact bJR (aTk E) (by decide)
  by_cases hc:j<l.length
  ·have h1:decide (j<l.length)=true:=decide_eq_true hc
   obtain⟨x,hx⟩:∃x,x=l.getD j (false,[]):=⟨_,rfl⟩
   have C:x∈l:=by rw[hx];exact tN hc
   have G:=y x C
   have c1:=aZO (m:=m+17) (x:=x) (by omega)
   have et:l.take (j+1)=l.take j++[x]:=by rw[bKA hc,hx];simp [hc]
   simp (disch:=first|rfl|omega)only[S1,aN,zB,reduceCtorEq,zD,zG,zH,TF,aT,sn,A,B,i,h1,nV,pB,←hx,vJ 21 rfl,c1 _]
   cases d:dW x
   ·simp (disch:=first|rfl|omega)only[S1,aC,aE,aM,aJ,zB,reduceCtorEq]
    refine rb ?_
    have:l.all dW=false:=by
     rw[List.all_eq_false]
     exact⟨x,C,by rw[d];decide⟩
    rw[this,bKI]
   ·have o:=rM G.1 d
    have fz:aX 9 (bZ x).natAbs:=by rw[oY];exact bJR G.2.1 (by decide)
    have c2:=aDT (m:=m+14) (z:=g) (w:=bZ x) (fg.mono (by decide)) (fz.mono (by decide))
    simp (disch:=first|rfl|omega)only[S1,aC,aE,aM,aJ,zB,reduceCtorEq,zD,zG,zH,aY,TF,aT,sn,A,s1,B,f,i,nV,pB,←hx,o,c2 _]
    refine⟨hc,⟨_, ?_,rfl⟩, ?_⟩
    ·rw[et,bKh,show [x].map bZ=[bZ x]from rfl,aMI,q]
    ·rw[et,bLW,K,bJN,d];rfl
  ·have h1:decide (j<l.length)=false:=decide_eq_false hc
   obtain rfl:j=l.length:=by omega
   rw[bJy]at K q E
   rw[K,bJI]
   have T:∀x∈l,dW x=true:=bJt.1 K
   have U:∀x∈l,bC x.2:=fun x hx=>(y x hx).1
   have t:(l.map bZ).length=l.length:=bJB _
   have sz:yW (l.map bZ):=⟨by omega,E⟩
   have V:=aBj (m:=m+15) (z:=((1:Nat):Int)) (by decide) (by decide)
   have W:=aPY (m:=m+17) (z:=g) (w:=((1:Nat):Int)) (fg.mono (by decide)) (aX.one (by decide))
   cases d:decide (l.length<2)
   case true=>
    simp (disch:=first|rfl|omega)only[S1,aN,aC,aE,aM,aJ,zB,reduceCtorEq,zD,zG,zH,TF,aT,sn,A,B,i,h1,d]
    refine rb ?_
    unfold vz
    rw[t,decide_eq_false (by have:=of_decide_eq_true d;omega)];rfl
   case false=>
   have h2:2<=l.length:=by have:=of_decide_eq_false d;omega
   obtain⟨x,hx⟩:∃x,x=l.getD (l.length-1) (false,[]):=⟨_,rfl⟩
   have C:x∈l:=by rw[hx];exact tN (by omega)
   have o:=rM (U x C) (T x C)
   have c:(l.map bZ).getD ((l.map bZ).length-1) 0=bZ x:=by rw[t,hx];simp [show l.length-1<l.length by omega]
   have fz:aX 9 (bZ x).natAbs:=by rw[oY];exact bJR (y x C).2.1 (by decide)
   have c1:=aDD (m:=m+15) (z:=bZ x) (fz.mono (by decide))
   cases hB:decide ((bZ x).sign<=0)
   case true=>
    simp (disch:=first|rfl|omega)only[S1,aN,aC,aE,aM,aJ,zB,reduceCtorEq,zD,zG,zH,TF,aT,sn,A,B,i,h1,d,nV,pB,←hx,o,c1 _,aD4,hB]
    refine rb ?_
    unfold vz
    rw[c,decide_eq_false (p:=0<bZ x) (by have:=of_decide_eq_true hB;have:=Int.sign_nonpos_iff.1 this;omega),bLq];rfl
   case false=>
   have u:0<bZ x:=by
    have Q:=of_decide_eq_false hB
    rcases bLx (bZ x) 0 with h4|h4|h4
    ·rw[bK8 h4]at Q;omega
    ·rw[h4]at Q;exact absurd (Int.le_refl 0) Q
    ·exact h4
   cases L:decide (g=((1:Nat):Int))
   case false=>
    simp (disch:=first|rfl|omega)only[S1,aN,aC,aE,aM,aJ,zB,reduceCtorEq,zD,zG,zH,aY,TF,aT,sn,A,s1,B,f,i,h1,d,nV,pB,←hx,o,c1 _,aD4,hB,V _,W _,L]
    refine rb ?_
    unfold vz
    rw[decide_eq_false (p:=gz (l.map bZ)=1) (fun h=>of_decide_eq_false L (by rw[q,h])),bLq];rfl
   case true=>
   have H:gz (l.map bZ)=1:=by have:=of_decide_eq_true L;rw[q]at this;omega
   obtain⟨zs,R⟩:∃zs,zs=l.map bZ:=⟨_,rfl⟩
   have X:=bB9 (m:=m+14) (l:=l) (by omega) U T
   rw[←R]at c t sz H X ⊢
   have F:2<=zs.length:=by omega
   obtain⟨g1,g2,g3,g4,g5⟩:=aOk sz F (by rw[c];exact u)
   have a':=xH zs
   have hd:=aBq (dK zs)
   have r2:=aJY (m:=m+8) (l:=dK zs) (g1.ps (by decide) (by omega))
   have r3:=aRj (m:=m+4) g1 g2 (by omega) (by omega) g3 g4
   have I:=aNJ (b:=dU (dK zs)) g5
   unfold vz
   rw[decide_eq_true F,c,decide_eq_true u,decide_eq_true H,bJI,bJI,bJI]
   simp (disch:=first|rfl|omega)only[S1,aN,aC,aE,aM,aJ,zB,reduceCtorEq,zD,zG,zH,aY,TF,aT,sn,A,s1,B,f,i,h1,d,nV,pB,←hx,o,c1 _,aD4,hB,V _,W _,L,vJ 25 rfl,X _,r2 _,r3 _]
   cases J:decide ((fY (dK zs) (dU (dK zs))).length=1)
   case false=>
    simp (disch:=first|rfl|omega)only[S1,aC,aE,aM,aJ,zB,reduceCtorEq]
    refine rb ?_
    rw[decide_eq_false (p:=fY (dK zs) (dU (dK zs))=[1]) (fun h=>of_decide_eq_false J (I.2 h)),bKI];rfl
   case true=>
   have D:=I.1 (of_decide_eq_true J)
   rw[decide_eq_true D,bJI]
   cases Y:decide (0<=r)
   case false=>
    simp (disch:=first|rfl|omega)only[S1,aC,aE,aM,aJ,zB,reduceCtorEq,zD,zG,zH,TF,aT,sn,A,B,aAd,Y]
   case true=>
   have c3:=aZj (m:=m) (aIn sz F (by rw[c];exact u) D)
   simp (disch:=first|rfl|omega)only[S1,aC,aE,aM,aJ,zB,reduceCtorEq,zD,zG,zH,TF,aT,sn,A,B,aAd,Y,c3 _,aAn]
theorem bFf(l:List (Bool×List Nat))(r:Int):Can [tF l r]:=Can.cons (bF1 l r) Can.nil
theorem bG2(l:List (Bool×List Nat))(r:Int):bW [tF l r]<=cK:=by simp only[bW,bGS];decide
end
section
variable {m:Nat}
theorem aIU:bQ PG 94 f94 [2] []=true:=by kernel_rfl
theorem aIX{xs:List Nat}(f:xs.length<10000000):VX (m+1) 94 [tW xs]=some (tW (cG xs),false):=by
 refine bY rfl func94 aIU rfl ?_
 simp only[f94,N1,bD,bJ,bM,bL,bH,zB,zG]
 simp (disch:=first|rfl|omega)only[S1,aC,aE,aM,aJ,zB]
 refine .loop (fun n e s=>s=eA/\n<=xs.length/\e 0=some (tW (xs.take n))/\cG (xs.take n)=cG xs) xs.length ⟨rfl,bIK _, ?_,by simp⟩ (dC f) ?_
 ·simp
  rfl
 ·rintro n e s ⟨rfl,hn,d,g⟩
  have a:(xs.take n).length=n:=by simp;omega
  simp (disch:=first|rfl|omega)only[S1,aN,aC,aE,aM,aJ,zB,d,a]
  refine rR (fun h=> ?_) (fun h=> ?_)
  ·have h0:=of_decide_eq_true h
   simp (disch:=first|rfl|omega)only[S1,aN,aC,aE,aM,aJ,zB,d,a,h,getD_take]
   refine cJ (fun h1=> ?_) (fun h1=> ?_)
   ·have c:=of_decide_eq_true h1
    simp (disch:=first|rfl|omega)only[S1,aN,aC,aE,aM,aJ,zB,d,a]
    refine⟨n-1,by omega,by omega, ?_, ?_⟩
    ·rw[bJC,bJc (by omega)];rfl
    ·rw[←g,show n=(n-1)+1 by omega]
     exact(wU (by omega) c).symm
   ·have c:=of_decide_eq_false h1
    simp (disch:=first|rfl|omega)only[S1,zB,reduceCtorEq,d]
    have:=wW (k:=n-1) (by omega) c
    rw[show n-1+1=n by omega]at this
    rw[←g,mW (xs.take n),this,bJC,bMj]
  ·have h0:=of_decide_eq_false h
   have i:n=0:=by omega
   subst i
   simp (disch:=first|rfl|omega)only[S1,aC,aE,aM,aJ,zB,reduceCtorEq,zG,d]
   rw[←g];rfl
theorem aZv{xs:List Nat}{s:VS}{orc:cN}{n:Nat}(f:xs.length<10000000):fH PG cC orc (n+1) 94 [tW xs] s=some (tW (cG xs),s):=by
 refine aFo rfl func94 aIU rfl ?_
 simp only[f94,N1,bD,bJ,bM,bL,bH,zB,zG]
 simp (disch:=first|rfl|omega)only[S1,aH,aC,aE,aM,aJ,zB]
 refine .loop (fun n e s'=>s'=s/\n<=xs.length/\e 0=some (tW (xs.take n))/\cG (xs.take n)=cG xs) xs.length ⟨rfl,bIK _, ?_,by simp⟩ (dC f) ?_
 ·simp
  rfl
 ·rintro n e s ⟨rfl,hn,d,g⟩
  have a:(xs.take n).length=n:=by simp;omega
  simp (disch:=first|rfl|omega)only[S1,aN,aC,aE,aM,aJ,zB,d,a]
  refine rR (fun h=> ?_) (fun h=> ?_)
  ·have h0:=of_decide_eq_true h
   simp (disch:=first|rfl|omega)only[S1,aN,aC,aE,aM,aJ,zB,d,a,h,getD_take]
   refine cJ (fun h1=> ?_) (fun h1=> ?_)
   ·have c:=of_decide_eq_true h1
    simp (disch:=first|rfl|omega)only[S1,aN,aC,aE,aM,aJ,zB,d,a]
    refine⟨n-1,by omega,by omega, ?_, ?_⟩
    ·rw[bJC,bJc (by omega)];rfl
    ·rw[←g,show n=(n-1)+1 by omega]
     exact(wU (by omega) c).symm
   ·have c:=of_decide_eq_false h1
    simp (disch:=first|rfl|omega)only[S1,zB,reduceCtorEq,d]
    have:=wW (k:=n-1) (by omega) c
    rw[show n-1+1=n by omega]at this
    rw[←g,mW (xs.take n),this,bJC,bMj]
  ·have h0:=of_decide_eq_false h
   have i:n=0:=by omega
   subst i
   simp (disch:=first|rfl|omega)only[S1,aC,aE,aM,aJ,zB,reduceCtorEq,zG,d]
   rw[←g];rfl
theorem aAp{xs:List Nat}{s:VS}{orc:cN}(f:xs.length<10000000):fH PG cC orc lA 94 [tW xs] s=some (tW (cG xs),s):=aZv (n:=7) f
theorem aYx{zs:List Nat}{k off len:Nat}{s:VS}{orc:cN}{n:Nat}(p:len<10000000)(o:k<s.nxt)(j:s.ob k=⟨0,zs.map wc⟩)(f:off+len<=zs.length):fH PG cC orc (n+1) 94 [.ow k off len 1] s=some (.ow k off (cG ((zs.drop off).take len)).length 1,s):=by
 refine aFo rfl func94 aIU rfl ?_
 simp only[f94,N1,bD,bJ,bM,bL,bH,zB,zG]
 simp (disch:=first|rfl|omega)only[S1,aH,aC,aE,aM,aJ,zB]
 refine .loop (fun n e s'=>s'=s/\n<=len/\e 0=some (.ow k off n 1)/\cG ((zs.drop off).take n)=cG ((zs.drop off).take len)) len ⟨rfl,bIK _,rfl,rfl⟩ (dC p) ?_
 rintro n e s ⟨rfl,hn,d,g⟩
 simp (disch:=first|rfl|omega)only[S1,aN,aC,aE,aM,aJ,zB,d]
 refine rR (fun h=> ?_) (fun h=> ?_)
 ·have h0:=of_decide_eq_true h
  have v:zs.getD (off+(n-1)) 0=(zs.drop off).getD (n-1) 0:=by rw[uK]
  simp (disch:=first|rfl|omega)only[S1,aN,aC,aE,aM,aJ,zB,reduceCtorEq,d,h,j]
  refine cJ (fun h1=> ?_) (fun h1=> ?_)
  ·have c:=of_decide_eq_true h1
   simp (disch:=first|rfl|omega)only[S1,aN,aC,aE,aM,aJ,zB,d]
   refine⟨n-1,by omega,by omega,rfl, ?_⟩
   rw[←g,show n=(n-1)+1 by omega]
   exact(wU (by simp;omega) (v ▸ c)).symm
  ·have c:=of_decide_eq_false h1
   simp (disch:=first|rfl|omega)only[S1,zB,reduceCtorEq,d]
   have:=wW (xs:=zs.drop off) (k:=n-1) (by simp;omega) (v ▸ c)
   rw[show n-1+1=n by omega]at this
   rw[←g,this]
 ·have h0:=of_decide_eq_false h
  have i:n=0:=by omega
  subst i
  simp only[Nat.lt_irrefl,decide_false]at h ⊢
  simp (disch:=first|rfl|omega)only[S1,aC,aE,aM,aJ,zB,reduceCtorEq,d]
  rw[←g];rfl
theorem bBs{zs:List Nat}{k off len:Nat}{s:VS}{orc:cN}(p:len<10000000)(o:k<s.nxt)(j:s.ob k=⟨0,zs.map wc⟩)(f:off+len<=zs.length):fH PG cC orc lA 94 [.ow k off len 1] s=some (.ow k off (cG ((zs.drop off).take len)).length 1,s):=aYx (n:=7) p o j f
theorem aCU{zs:List Nat}{k len:Nat}{s:VS}{orc:cN}(o:k<s.nxt)(j:s.ob k=⟨0,zs.map wc⟩)(f:zs.length=len)(p:len<10000000):fH PG cC orc lA 94 [.ow k 0 len 1] s=some (.ow k 0 (cG zs).length 1,s):=by
 rw[bBs p o j (by omega),bJd,bJ2 (by omega)]
theorem aM7:bQ PG 79 f79 [4] []=true:=by kernel_rfl
def vR:EC Nat:=⟨fun x=>[wc x],1,by decide,fun _=>rfl,fun x=>Can.cons (aG6 x) Can.nil,fun _=>rfl,3,fun _=>by simp only[bW,wc,dA];omega⟩
theorem aAJ(xs:List Nat):vR.row xs=xs.map wc:=by
 induction xs with
 |nil=>rfl
 |cons x xs ih=>rw[vR.row_cons,ih];rfl
theorem t_W(xs:List Nat):vR.t xs=tW xs:=by unfold EC.t;rw[aAJ];rfl
theorem bG0{s:VS}{k len:Nat}{xs ys:List Nat}(o:k<s.nxt)(j:s.ob k=⟨0,xs.map wc⟩)(f:len=xs.length)(h2:ys≠ [])(n1:xs.length<=10000000)(A:ys.length<=10000000):gT PG 100 s (.ow k 0 len 1) (tW ys)=some (.ow s.nxt 0 (len+ys.length) 1,(s.set k ⟨2,[]⟩).new ((xs++ys).map wc)):=by
 have h:=aBW (E:=vR) (P:=PG) (e:=100) (s:=s) (k:=k) (len:=len) (sz:=1) (l:=xs) (l2:=ys) (y:=vR.t ys) c1 s1 aEW o (by rw[j,aAJ]) f rfl h2 n1 A
 rw[aAJ,t_W]at h
 exact h
theorem aSt{s:VS}{k len k2:Nat}{xs:List Nat}{y:Nat}(o:k<s.nxt)(j:s.ob k=⟨0,xs.map wc⟩)(f:len=xs.length)(n1:xs.length<=10000000)(q:k2<s.nxt)(u:s.ob k2=⟨0,[.int .u32 (y:Nat)]⟩):gT PG 100 s (.ow k 0 len 1) (.ow k2 0 1 1)=some (.ow s.nxt 0 (len+1) 1,(s.set k ⟨2,[]⟩).new ((xs++[y]).map wc)):=by
 have h:=aBW (E:=vR) (P:=PG) (e:=100) (s:=s) (k:=k) (len:=len) (sz:=1) (l:=xs) (l2:=[y]) (y:= .ow k2 0 1 1) c1 s1 (aFb (E:=vR) (l:=[y]) q (by rw[u,aAJ];rfl) (by decide)) o (by rw[j,aAJ]) f rfl (fun e=>by cases e) n1 (show(1:Nat)<=10000000 by decide)
 rw[aAJ]at h
 exact h
theorem aJu:TV.nil.one=true:=rfl
theorem aPG{s:VS}:dM s [.ag [.b false,.nil]]=some (tI 0,false):=by
 have e:tI 0= .ag [.b false,.em]:=by unfold tI ci;rw[Int.natAbs_zero,gW];rfl
 rw[e];rfl
theorem nU{n:Bool}{k:Nat}(h:(aO k).length<10000000):CC (VX (m+2)) 79 [.b n,tW (aO k)] (tI (sg n k)):=by
 refine .of (Can.cons (cP.b _) (vH _)) (by simp only[bW,dA,fJ];decide) ?_
 refine bY rfl func79 aM7 rfl ?_
 simp only[f79,N1,bD,bJ,bM,bL,bH,zB,zG]
 simp (disch:=first|rfl|omega)only[S1,aN,aC,aE,aM,aJ,zB,zD,aAp,kH]
 refine cJ (fun e=> ?_) (fun e=> ?_)
 ·have e0:k=0:=by have:=bJA (of_decide_eq_true e);exact sE.1 this
  simp (disch:=first|rfl|omega)only[S1,aD,zB,reduceCtorEq,zD,zG,zH,aJu,aPG]
  rw[e0];cases n<;>rfl
 ·have e0:=of_decide_eq_false e
  simp (disch:=first|rfl|omega)only[S1,aD,zB,reduceCtorEq,zD,zG,zH]
  rw[aGo]
  have h1:decide (0<(aO k).length)=true:=decide_eq_true (by omega)
  rw[h1,bK6]
theorem aXp{n:Nat}(hn:n<18446744073709551616):cG [n%4294967296,n/4294967296%4294967296]=aO n:=by
 rw[aOS (by omega) (by omega),show n%4294967296+4294967296*(n/4294967296%4294967296)=n by omega]
theorem aV0:bQ PG 176 f176 [2] []=true:=by kernel_rfl
theorem aVt{n:Nat}(hn:n<18446744073709551616):VX (m+2) 176 [.int .u64 (n:Nat)]=some (.tp [tW (aO n)],true):=by
 refine bY rfl func176 aV0 rfl ?_
 simp only[f176,N1,bD,bJ,bM,bL,bH,zB,zG]
 simp (disch:=first|rfl|omega)only[S1,aC,aE,aM,aJ,aD,zB,zE,zH]
 simp (disch:=first|rfl|omega)only[S1,zB,bK9,List.replicate_zero,bJu,List.map_nil]
 rw[aCU (zs:=[n%4294967296,n/4294967296%4294967296]) (len:=2) bKX rfl rfl (by decide)]
 simp (disch:=first|rfl|omega)only[S1,zB,reduceCtorEq]
 rw[xB bKX rfl,aXp hn]
theorem aCC{n:Nat}(hn:n<18446744073709551616):CC (VX (m+2)) 176 [.int .u64 (n:Nat)] (tW (aO n)):= .fr (Can.cons (cP.int _ _) Can.nil) (by simp only[bW,dA];decide) (aVt hn)
theorem bBo{y:Nat}(h:y<4294967296):aCa (wc y)=some y:=by
 show(if y<4294967296 then some y else none)=_
 rw[if_pos h]
theorem aEQ{xs:List Nat}(hx:bC xs):rO (tW xs)=some xs:=by
 have h:∀ys:List Nat,(∀y∈ys,y<4294967296)->(ys.map wc).mapM aCa=some ys:=fun ys=>by
  induction ys with
  |nil=>intro _;rfl
  |cons y ys ih=>
   intro w
   simp only[bJu,List.mapM_cons,ih fun z B=>w z (List.mem_cons_of_mem _ B),bBo (w y List.mem_cons_self)];rfl
 cases xs with
 |nil=>rfl
 |cons x xs=>exact h (x::xs) hx
theorem aEL{k:Nat}(h:(aO k).length<=2):CC (VX (m+1)) 178 [tW (aO k)] (.int .u64 (k:Nat)):=by
 refine .of (vH _) (by simp only[bW,fJ];decide) ?_
 have C:wO 178 [tW (aO k)]=some (.int .u64 (k:Nat),false):=by
  show(rO (tW (aO k))).bind _=_
  rw[aEQ (cV k)]
  simp only[Option.bind_some]
  rw[if_pos h,cO]
 show(match wO _ _ with |some r=>some r|none=>_)=_
 rw[C]
end
section
variable {m:Nat}
theorem aJx{et:fO}{k:bQc}{z:Int}:bX et .neq (.int k z) (.int k z)=some (.b false):=by simp [bX,dY]
theorem aFF{et:fO}{k:bQc}{z w:Int}:bX et .gtr (.int k z) (.int k w)=some (.b (decide (w<z))):=by simp [bX,dY]
def rV(z w:Int):Int:=if z<w then-1 else if w<z then 1 else 0
theorem aFX(k:bQc)(z w:Int):Can [.int k z,.int k w]:=Can.cons (cP.int _ _) (Can.cons (cP.int _ _) Can.nil)
theorem aFV(k:bQc)(z w:Int):bW [.int k z,.int k w]<=cK:=by simp only[bW,dA];decide
theorem xT(k:bQc)(z:Int):Can [.int k z]:=Can.cons (cP.int _ _) Can.nil
theorem aAy(k:bQc)(z:Int):bW [.int k z]<=cK:=by simp only[bW,dA];decide
theorem aWB:bQ PG 289 f289 [2] []=true:=by kernel_rfl
theorem aMp{z:Int}:CC (VX (m+1)) 289 [.int .u32 z] (.b false):=by
 refine .of (xT _ _) (aAy _ _) ?_
 refine bY rfl func289 aWB rfl ?_
 simp only[f289,N1,bD,bJ,bM,bL,bH,zB,zG]
 simp (disch:=first|rfl|omega)only[S1,aC,aE,aM,aJ,zB,reduceCtorEq,aJx]
theorem bAY:bQ PG 251 f251 [4,19,16] []=true:=by kernel_rfl
theorem bDs{z w:Int}:VX (m+2) 251 [.int .u32 z,.int .u32 w]=some (.int .i64 (rV z w),false):=by
 refine bY rfl func251 bAY rfl ?_
 simp only[f251,N1,bD,bJ,bM,bL,bH,zB,zG]
 have h1:=aMp (m:=m) (z:=z)
 have h2:=aMp (m:=m) (z:=w)
 unfold rV
 simp (disch:=first|rfl|omega)only[S1,aC,aE,aM,aJ,zB,zD,vJ 289 rfl,h1 _,h2 _,aAn]
 refine cJ (fun e=> ?_) (fun e=> ?_)
 ·simp (disch:=first|rfl|omega)only[S1,aC,aE,aM,aJ,zB,reduceCtorEq]
  rw[if_pos (of_decide_eq_true e)]
 ·rw[if_neg (of_decide_eq_false e)]
  simp (disch:=first|rfl|omega)only[S1,zB,aFF]
  refine cJ (fun e=> ?_) (fun e=> ?_)
  ·simp (disch:=first|rfl|omega)only[S1,aC,aE,aM,aJ,zB,reduceCtorEq]
   rw[if_pos (of_decide_eq_true e)];rfl
  ·simp (disch:=first|rfl|omega)only[S1,aC,aE,aM,aJ,zB,reduceCtorEq]
   rw[if_neg (of_decide_eq_false e)];rfl
theorem bDX{z w:Int}:CC (VX (m+2)) 251 [.int .u32 z,.int .u32 w] (.int .i64 (rV z w)):= .of (aFX _ _ _) (aFV _ _ _) bDs
theorem aW5:bQ PG 250 f250 [2] []=true:=by kernel_rfl
theorem aNh{z:Int}:CC (VX (m+1)) 250 [.int .i64 z] (.b false):=by
 refine .of (xT _ _) (aAy _ _) ?_
 refine bY rfl func250 aW5 rfl ?_
 simp only[f250,N1,bD,bJ,bM,bL,bH,zB,zG]
 simp (disch:=first|rfl|omega)only[S1,aC,aE,aM,aJ,zB,reduceCtorEq,aJx]
theorem bBC:bQ PG 179 f179 [4,19,16] []=true:=by kernel_rfl
theorem bDp{z w:Int}:VX (m+2) 179 [.int .i64 z,.int .i64 w]=some (.int .i64 (rV z w),false):=by
 refine bY rfl func179 bBC rfl ?_
 simp only[f179,N1,bD,bJ,bM,bL,bH,zB,zG]
 have h1:=aNh (m:=m) (z:=z)
 have h2:=aNh (m:=m) (z:=w)
 unfold rV
 simp (disch:=first|rfl|omega)only[S1,aC,aE,aM,aJ,zB,zD,vJ 250 rfl,h1 _,h2 _,aAn]
 refine cJ (fun e=> ?_) (fun e=> ?_)
 ·simp (disch:=first|rfl|omega)only[S1,aC,aE,aM,aJ,zB,reduceCtorEq]
  rw[if_pos (of_decide_eq_true e)]
 ·rw[if_neg (of_decide_eq_false e)]
  simp (disch:=first|rfl|omega)only[S1,zB,aFF]
  refine cJ (fun e=> ?_) (fun e=> ?_)
  ·simp (disch:=first|rfl|omega)only[S1,aC,aE,aM,aJ,zB,reduceCtorEq]
   rw[if_pos (of_decide_eq_true e)];rfl
  ·simp (disch:=first|rfl|omega)only[S1,aC,aE,aM,aJ,zB,reduceCtorEq]
   rw[if_neg (of_decide_eq_false e)];rfl
theorem aPA{z w:Int}:CC (VX (m+2)) 179 [.int .i64 z,.int .i64 w] (.int .i64 (rV z w)):= .of (aFX _ _ _) (aFV _ _ _) bDp
theorem bB5:bQ PG 85 f85 [2] []=true:=by kernel_rfl
theorem bAk{x:Bool×List Nat}(h:x.2.length<10000000):VX (m+1) 85 [tX x]=some (.int .i64 (if (cG x.2).length=0 then 0 else if x.1 then-1 else 1),false):=by
 obtain⟨n,xs⟩:=x
 refine bY rfl func85 bB5 rfl ?_
 simp only[f85,N1,bD,bJ,bM,bL,bH,zB,zG]
 simp (disch:=first|rfl|omega)only[S1,aN,aC,aE,aM,aJ,zB,reduceCtorEq,zD,zG,zH,rK,aT,aAp]
 refine cJ (fun e=> ?_) (fun e=> ?_)
 ·simp (disch:=first|rfl|omega)only[S1,aC,aE,aM,aJ,zB,reduceCtorEq]
  rw[if_pos (of_decide_eq_true e)];rfl
 ·rw[if_neg (of_decide_eq_false e)]
  cases n<;>simp (disch:=first|rfl|omega)only[S1,aC,aE,aM,aJ,zB,reduceCtorEq,zD,zG,zH,aT]<;>rfl
theorem bHv(z:Int):tI z=tX (decide (z<0),aO z.natAbs):=rfl
theorem aBE{z:Int}(h:aX 9000000 z.natAbs):CC (VX (m+1)) 85 [tI z] (.int .i64 z.sign):=by
 refine .of (vL z) (vM z) ?_
 rw[bHv,bAk (bJe h.len (by decide))]
 simp only[kH,aB3]
 congr 2
 by_cases h0:z=0
 ·rw[if_pos h0,h0];rfl
 ·rw[if_neg h0]
  by_cases h1:z<0
  ·rw[decide_eq_true h1,if_pos rfl,bK8 h1]
  ·rw[decide_eq_false h1,bK5 (by omega)];rfl
theorem aPi(x y:Nat):rV (x:Int) (y:Int)=if x<y then-1 else if y<x then 1 else 0:=by
 unfold rV
 by_cases h1:x<y
 ·rw[if_pos h1,if_pos (by omega)]
 ·rw[if_neg h1,if_neg (by omega)]
  by_cases h2:y<x
  ·rw[if_pos h2,if_pos (by omega)]
  ·rw[if_neg h2,if_neg (by omega)]
theorem aVm:bQ PG 180 f180 [4,31,20] []=true:=by kernel_rfl
theorem aWv{xs ys:List Nat}(hx:xs.length<10000000)(lx:bC xs)(ly:bC ys):VX (m+3) 180 [tW xs,tW ys]=some (.int .i64 (nI xs ys),false):=by
 refine bY rfl func180 aVm rfl ?_
 simp only[f180,N1,bD,bJ,bM,bL,bH,zB,zG]
 simp (disch:=first|rfl|omega)only[S1,aN,aC,aE,aM,aJ,zB,zD]
 refine cJ (fun h=> ?_) (fun h=> ?_)
 ·have h':xs.length≠ys.length:=by simpa using h
  have c1:=aPA (m:=m) (z:=(xs.length:Nat)) (w:=(ys.length:Nat))
  simp (disch:=first|rfl|omega)only[S1,aN,zB,reduceCtorEq,vJ 179 rfl,c1 _]
  rw[aPi]
  by_cases h1:xs.length<ys.length
  ·rw[if_pos h1,aMd h1]
  ·rw[if_neg h1,if_pos (by omega),aNo (by omega)]
 ·have h':xs.length=ys.length:=by simpa using h
  simp (disch:=first|rfl|omega)only[S1,aN,aC,aE,aM,aJ,zB]
  refine .loop (fun n e s=>s=eA/\n<=xs.length/\e 0=some (tW xs)/\e 1=some (tW ys)/\e 5=some (.int .i64 (iz n))/\xs.drop n=ys.drop n) xs.length ?_ (dC hx) ?_
  ·simp (disch:=first|rfl|omega)only[S1,zB]
   simp [h']
  ·rintro n e s ⟨rfl,hn,e0,b,c,g⟩
   simp (disch:=first|rfl|omega)only[S1,aC,aE,aM,aJ,zB,c]
   refine cJ (fun h=> ?_) (fun h=> ?_)
   ·have h0:=of_decide_eq_true h
    have f:n-1<xs.length:=by omega
    have a:xs.drop (n-1+1)=ys.drop (n-1+1):=by rw[show n-1+1=n by omega];exact g
    simp (disch:=first|rfl|omega)only[S1,zB,e0,b,c]
    refine cJ (fun h1=> ?_) (fun h1=> ?_)
    ·have d:xs.getD (n-1) 0≠ys.getD (n-1) 0:=by simpa using h1
     have c1:=bDX (m:=m) (z:=(xs.getD (n-1) 0:Nat)) (w:=(ys.getD (n-1) 0:Nat))
     simp (disch:=first|rfl|omega)only[S1,zB,reduceCtorEq,e0,b,c,c1 _]
     rw[aPi]
     by_cases h2:xs.getD (n-1) 0<ys.getD (n-1) 0
     ·rw[if_pos h2,aMr lx h' f a h2]
     ·rw[if_neg h2,if_pos (by omega),aMF ly h' f a (by omega)]
    ·have d:xs.getD (n-1) 0=ys.getD (n-1) 0:=by simpa using h1
     simp (disch:=first|rfl|omega)only[S1,aC,aE,aM,aJ,zB,e0,b,c]
     exact⟨n-1,by omega,by omega,rfl,by rw[aA3 xs f,aA3 ys (by omega),a,d]⟩
   ·have h0:=of_decide_eq_false h
    obtain rfl:n=0:=by omega
    simp (disch:=first|rfl|omega)only[S1,aC,aE,aM,aJ,zB,reduceCtorEq,zG]
    have:xs=ys:=g
    subst this
    rw[aNk];rfl
end
section
variable {m:Nat}
theorem aBe{a b:Nat}(c:(aO a).length<10000000):CC (VX (m+3)) 180 [tW (aO a),tW (aO b)] (.int .i64 (if a<b then-1 else if b<a then 1 else 0)):= .of (vB _ _) (by simp only[bW,fJ];decide) (by rw[aWv c (cV _) (cV _),aHG])
theorem eSl:fM PG 45= .sli:=by kernel_rfl
theorem bCY{x:Nat}{xs:List Nat}:bX .sli .eql (tW (x::xs)) .nil=some (.b false):=rfl
theorem aWM:bQ PG 93 f93 [2] []=true:=by kernel_rfl
theorem aFd{xs:List Nat}(h:xs.length<=10000000):CC (VX (m+1)) 93 [tW xs] (tW xs):=by
 cases xs with
 |nil=>exact .of (vH _) (by simp only[bW,fJ];decide) rfl
 |cons x xs=>
  refine .fr (vH _) (by simp only[bW,fJ];decide) ?_
  refine bY rfl func93 aWM rfl ?_
  simp only[f93,N1,bD,bJ,bM,bL,bH,zB,zG]
  simp (disch:=first|rfl|omega)only[S1,aK,aC,aE,aM,aJ,aD,zB,zH,eSl,bCY,aB4]
  rw[bG0 (xs:=[]) (len:=0) bKX rfl rfl (fun e=>by cases e) (by decide) h]
  simp (disch:=first|rfl|omega)only[S1,zB,reduceCtorEq]
  rw[aFD (k:=1) (off:=0) (len:=xs.length+1) (zs:=x::xs) (show 1<2 by decide) rfl (by rw[bIV];omega),bJd,bJ2 (by rw[bIV];exact bIK _)]
theorem oT{xs:List Nat}(d:xs.length<10000000):CC (VX (m+1)) 94 [tW xs] (tW (cG xs)):= .of (vH _) (by simp only[bW,fJ];decide) (aIX d)
theorem aBY{z:Int}{k:Nat}(h:aX k z.natAbs)(f:k<10000000):(aO z.natAbs).length<10000000:=bJe h.len f
theorem bCR:bQ PG 275 f275 [2] []=true:=by kernel_rfl
theorem aS3{z:Int}(h:aX 9000000 z.natAbs):VX (m+3) 275 [tI z]=some (tI (-z),false):=by
 have c1:=aFd (m:=m+1) (xs:=aO z.natAbs) (bJg (aBY h (by decide)))
 have c2:=nU (m:=m) (n:= !decide (z<0)) (k:=z.natAbs) (aBY h (by decide))
 rw[aSL]at c2
 have c0:=oT (m:=m+1) (xs:=aO z.natAbs) (aBY h (by decide))
 rw[kH]at c0
 refine bY rfl func275 bCR rfl ?_
 simp only[f275,N1,bD,bJ,bM,bL,bH,zB,zG]
 simp (disch:=first|rfl|omega)only[S1,zB,reduceCtorEq,zD,zG,zH,TI,aT,c0 _,c1 _,c2 _]
theorem aRq{z:Int}(h:aX 9000000 z.natAbs):CC (VX (m+3)) 275 [tI z] (tI (-z)):= .of (vL z) (vM z) (aS3 h)
theorem bA0:bQ PG 252 f252 [2] []=true:=by kernel_rfl
theorem bDd{z:Int}(h:aX 9000000 z.natAbs):VX (m+3) 252 [tI z]=some (tI z,false):=by
 have c1:=aFd (m:=m+1) (xs:=aO z.natAbs) (bJg (aBY h (by decide)))
 have c2:=nU (m:=m) (n:=decide (z<0)) (k:=z.natAbs) (aBY h (by decide))
 rw[aBz]at c2
 have c0:=oT (m:=m+1) (xs:=aO z.natAbs) (aBY h (by decide))
 rw[kH]at c0
 refine bY rfl func252 bA0 rfl ?_
 simp only[f252,N1,bD,bJ,bM,bL,bH,zB,zG]
 simp (disch:=first|rfl|omega)only[S1,zB,reduceCtorEq,zD,zG,zH,TI,aT,c0 _,c1 _,c2 _]
theorem aQS{z:Int}(h:aX 9000000 z.natAbs):CC (VX (m+3)) 252 [tI z] (tI z):= .of (vL z) (vM z) (bDd h)
end
section
variable {m:Nat}
theorem aOt{zs:List Nat}(h:bC zs)(F:(aO (val zs)).length=zs.length):zs=aO (val zs):=by
 have h1:=iB h
 have h2:=mW zs
 rw[h1,F,bJy]at h2
 exact h2.symm
def OwW(s:VS)(v:TV)(zs:List Nat):Prop:=∃k,v= .ow k 0 zs.length 1/\k<s.nxt/\s.ob k=⟨0,zs.map wc⟩
theorem OwW.step{s:VS}{v:TV}{zs:List Nat}(h:OwW s v zs)(x:Nat)(n1:zs.length<=10000000):∃v' s',gT PG 100 (s.new [.int .u32 (x:Nat)]) v (.ow s.nxt 0 1 1)=some (v',s')/\OwW s' v' (zs++[x]):=by
 obtain⟨k,rfl,D,G⟩:=h
 refine⟨_,_,aSt (s:=s.new [.int .u32 (x:Nat)]) (k:=k) (xs:=zs) (y:=x) (k2:=s.nxt) (Nat.lt_succ_of_lt D) ((if_neg (by omega)).trans G) rfl n1 (bIZ _) (if_pos rfl),s.nxt+1, ?_,bIZ _,if_pos rfl⟩
 rw[bJ3];rfl
theorem OwW.ret{s:VS}{v:TV}{zs:List Nat}(h:OwW s v zs):dM s [v]=some (.tp [tW zs],true):=by
 obtain⟨k,rfl,D,G⟩:=h
 rw[aFD D G (by omega),bJd,bJy]
theorem aHR{zs:List Nat}{w:Nat}(h:bC zs)(O:w<4294967296):bC (zs++[w]):=fun x hx=>by
 rcases List.mem_append.1 hx with hx|hx
 ·exact h x hx
 ·rw[bJZ.1 hx];exact O
theorem bBn{xs ys zs:List Nat}{k c:Nat}(F:zs.length=k)(h:val zs+4294967296^k*c=val (xs.take k)+val (ys.take k)):val (zs++[(c+xs.getD k 0+ys.getD k 0)%4294967296])+4294967296^(k+1)*((c+xs.getD k 0+ys.getD k 0)/4294967296)=val (xs.take (k+1))+val (ys.take (k+1)):=by
 rw[aCG,F,nT,nT,bJ1]
 have p:val [(c+xs.getD k 0+ys.getD k 0)%4294967296]=(c+xs.getD k 0+ys.getD k 0)%4294967296:=by simp [val]
 rw[p]
 have P:=bK4 (c+xs.getD k 0+ys.getD k 0) 4294967296
 generalize xs.getD k 0=x at*
 generalize ys.getD k 0=y at*
 generalize (c+x+y)%4294967296=r at*
 generalize (c+x+y)/4294967296=q at*
 generalize 4294967296^k=B at*
 have Q:B*(4294967296*q+r)=B*c+B*x+B*y:=by rw[P];rw[bJ6,bJ6]
 rw[bJ6]at Q
 have X:B*4294967296*q=B*(4294967296*q):=bJ5 _ _ _
 omega
theorem bAF:bQ PG 215 f215 [4,51,34,20,23,21,22] []=true:=by kernel_rfl
theorem aQT{a b:Nat}(hx:(aO a).length<9000000)(H:(aO b).length<9000000):VX (m+2) 215 [tW (aO a),tW (aO b)]=some (.tp [tW (aO (a+b))],true):=by
 have key:∀ {a b:Nat},(aO a).length<9000000->(aO b).length<=(aO a).length->True:=fun _ _=>trivial
 refine bY rfl func215 bAF rfl ?_
 simp only[f215,N1,bD,bJ,bM,bL,bH,zB,zG]
 simp (disch:=first|rfl|omega)only[S1,aN,aC,aE,aM,aJ,zB,zD]
 have L:∃N c d,(aO c).length=N/\(aO d).length<=N/\N<9000000/\c+d=a+b/\(c=(if (aO a).length<(aO b).length then b else a))/\(d=(if (aO a).length<(aO b).length then a else b)):=by
  by_cases h:(aO a).length<(aO b).length
  ·exact⟨_,b,a,rfl,by omega,H,bJW _ _,(if_pos h).symm,(if_pos h).symm⟩
  ·exact⟨_,a,b,rfl,by omega,hx,rfl,(if_neg h).symm,(if_neg h).symm⟩
 obtain⟨N,c,d,hc,R,L,hs,ec,ed⟩:=L
 rw[←hs]
 refine cJ (fun h=> ?A) (fun h=> ?B)
 case' A=>rw[if_pos (of_decide_eq_true h)]at ec ed
 case' B=>rw[if_neg (of_decide_eq_false h)]at ec ed
 all_goals
  subst ec ed
  have h1:N+1<=10000000:=by omega
  simp (disch:=first|rfl|omega)only[S1,aN,aC,aE,aM,aJ,zB,zH,aB4,hc]
  refine .up (fun k e s=>∃(v:TV) (zs:List Nat) (b:Nat),e 0=some (tW (aO c))/\e 1=some (tW (aO d))/\e 5=some v/\e 6=some (.int .u64 (b:Nat))/\e 20=some (tW (aO c))/\e 21=some (.int .i64 (N:Nat))/\e 22=some (.int .i64 (k:Nat))/\OwW s v zs/\zs.length=k/\b<=1/\bC zs/\val zs+4294967296^k*b=val ((aO c).take k)+val ((aO d).take k)) N ?_ (dC (by omega)) ?_
  ·refine⟨.ow 0 0 0 1,[],0, ?_, ?_, ?_, ?_, ?_, ?_, ?_,⟨0,rfl,Nat.one_pos,rfl⟩,rfl,bIR _,bC.nil, ?_⟩<;>first|(simp (disch:=first|rfl|omega)only[S1,zB];done)|simp [val]
  ·rintro k e s D ⟨v,zs,b,e0,p,u,z,g,i,j,how,zl,Y,zL,t⟩
   have lc:=cV c
   have ld:=cV d
   by_cases o:k<N
   ·have g1:decide (k<N)=true:=decide_eq_true o
    have S:=lc.getD k
    have T:=ld.getD k
    have I:=bBn zl t
    obtain⟨v',s',ea,f⟩:=how.step ((b+(aO c).getD k 0+(aO d).getD k 0)%4294967296) (by omega)
    have U:k<(aO c).length:=by omega
    cases E:decide (k<(aO d).length)
    ·have V:(aO d).getD k 0=0:=qF (by have:=of_decide_eq_false E;omega)
     rw[V,bJD]at I ea f
     simp (disch:=first|rfl|omega)only[S1,aK,aN,aC,aE,aM,aJ,aD,zB,zE,zH,e0,p,u,z,g,i,j,g1,E,aCj,ea]
     exact⟨o,v',_,_,rfl,rfl,f,by simp [zl],by omega,aHR zL (bJa _ (by decide)),I⟩
    ·have W:=of_decide_eq_true E
     simp (disch:=first|rfl|omega)only[S1,aK,aN,aC,aE,aM,aJ,aD,zB,zE,zH,e0,p,u,z,g,i,j,g1,E,aCj,ea]
     exact⟨o,v',_,_,rfl,rfl,f,by simp [zl],by omega,aHR zL (bJa _ (by decide)),I⟩
   ·have g1:decide (k<N)=false:=decide_eq_false o
    obtain rfl:k=N:=by omega
    simp (disch:=first|rfl|omega)only[S1,aC,aE,aM,aJ,zB,z,i,j,g1]
    rw[bJ2 (by omega),bJ2 R,cO,cO]at t
    refine cJ (fun hB=> ?_) (fun hB=> ?_)
    ·have J:b=1:=by have:=of_decide_eq_true hB;omega
     subst J
     obtain⟨v',s',ea,f⟩:=how.step (1%4294967296) (by omega)
     simp (disch:=first|rfl|omega)only[S1,aK,aD,zB,reduceCtorEq,zE,zG,zH,u,z,aCj,ea]
     have l:val (zs++[1%4294967296])=c+d:=by
      rw[aCG,zl,show val [1%4294967296]=1 by decide];exact t
     have M:=aHR zL (show 1%4294967296<4294967296 by decide)
     have n:(aO (c+d)).length=(zs++[1%4294967296]).length:=by
      have g2:=iY M
      rw[l]at g2
      have g3:=lY g2
      have g4:=iY (cV (c+d))
      rw[cO]at g4
      rw[bJ3]at g3 ⊢
      simp only[bIV,List.length_nil]at g3 ⊢
      rcases bIT (aO (c+d)).length (k+1)with g5|g5
      ·have:=bJ9 (show 0<4294967296 by decide) (show(aO (c+d)).length<=k by omega)
       omega
      ·omega
     have C:=aOt M (by rw[l];exact n)
     rw[l]at C
     rw[f.ret,C]
    ·have K:b=0:=by have:=of_decide_eq_false hB;omega
     subst K
     rw[bKK,bJD]at t
     have n:(aO (c+d)).length=zs.length:=by
      have g2:=iY zL
      rw[t]at g2
      have g3:=lY g2
      have g4:(aO c).length<=(aO (c+d)).length:=oO (Nat.le_add_right c d)
      omega
     have C:=aOt zL (by rw[t];exact n)
     rw[t]at C
     simp (disch:=first|rfl|omega)only[S1,zB,reduceCtorEq,zG,u]
     rw[how.ret,C]
theorem aPF{a b:Nat}(hx:(aO a).length<9000000)(H:(aO b).length<9000000):CC (VX (m+2)) 215 [tW (aO a),tW (aO b)] (tW (aO (a+b))):= .fr (vB _ _) (by simp only[bW,fJ];decide) (aQT hx H)
end
section
variable {m:Nat}
theorem aBS{et:fO}{x y:Nat}(hx:x<18446744073709551616)(B:y<18446744073709551616):bX et .sub (.int .u64 (x:Int)) (.int .u64 (y:Int))=some (.int .u64 (((x+18446744073709551616-y)%18446744073709551616:Nat):Int)):=by
 simp only[bX,dY,if_true]
 rw[aA0]
 congr 2
 omega
theorem aYf:bQ PG 216 f216 [4,27,16] []=true:=by kernel_rfl
theorem bAK{xs ys:List Nat}(hx:xs.length<9000000)(d:ys.length<=xs.length)(lx:bC xs)(ly:bC ys)(v:val ys<=val xs):VX (m+2) 216 [tW xs,tW ys]=some (.tp [tW (aO (val xs-val ys))],true):=by
 refine bY rfl func216 aYf rfl ?_
 simp only[f216,N1,bD,bJ,bM,bL,bH,zB,zG]
 simp (disch:=first|rfl|omega)only[S1,aN,aC,aE,aM,aJ,zB,zD]
 refine .up (fun k e s=>∃(b:Nat) (zs:List Nat),s.nxt=1/\s.ob 0=⟨0,zs.map wc⟩/\e 0=some (tW xs)/\e 1=some (tW ys)/\e 5=some (.ow 0 0 xs.length 1)/\e 6=some (.int .u64 (b:Nat))/\e 13=some (tW xs)/\e 14=some (.int .i64 (xs.length:Nat))/\e 15=some (.int .i64 (k:Nat))/\b<=1/\zs.length=xs.length/\bC zs/\val (zs.take k)+val (ys.take k)=val (xs.take k)+4294967296^k*b) xs.length ?_ (dC (by omega)) ?_
 ·refine⟨0,bIQ xs.length 0, ?_⟩
  simp (disch:=first|rfl|omega)only[S1,zB,zH]
  simp [val,qD]
 ·rintro k e s C ⟨b,zs,sn,so,e0,n,o,p,f,g,h,w,zl,zL,j⟩
  by_cases hc:k<xs.length
  ·have g1:decide (k<xs.length)=true:=decide_eq_true hc
   have h1:=lx.getD k
   have h2:=ly.getD k
   have q:=aLi (zs:=zs) (by omega) h1 h2 w j
   have a:bC (zs.set k ((xs.getD k 0+4294967296-ys.getD k 0-b)%4294967296)):=jO zL (bJa _ (by decide))
   have c:=aBS (et:=fM PG 103) (x:=xs.getD k 0) (y:=b) (by omega) (by omega)
   have z:(xs.getD k 0+18446744073709551616-b)%18446744073709551616<18446744073709551616:=bJa _ (by decide)
   have sh63:∀x:Nat,bX (fM PG 103) .shr (.int .u64 (x:Int)) (.int .u64 ((63:Nat):Int))=some (.int .u64 ((x/2^63:Nat):Int)):=fun x=>xJ (by decide)
   cases l:decide (k<ys.length)
   ·have r:ys.getD k 0=0:=qF (by have:=of_decide_eq_false l;omega)
    rw[r]at q a
    have t:(xs.getD k 0+18446744073709551616-b)%18446744073709551616%4294967296=(xs.getD k 0+4294967296-0-b)%4294967296:=by omega
    have u:(xs.getD k 0+18446744073709551616-b)%18446744073709551616/2^63=1-(xs.getD k 0+4294967296-0-b)/4294967296:=by
     rw[show(2:Nat)^63=9223372036854775808 from rfl];omega
    simp (disch:=first|rfl|omega)only[S1,aN,aC,aE,aM,aJ,zB,zG,e0,n,o,p,f,g,h,sn,so,g1,l,c,sh63,t,u]
    exact⟨hc,_,_,rfl,rfl,by omega,by simp [zl],a,q⟩
   ·have A:=of_decide_eq_true l
    have i:=aBS (et:=fM PG 103) (x:=(xs.getD k 0+18446744073709551616-b)%18446744073709551616) (y:=ys.getD k 0) z (by omega)
    have t:((xs.getD k 0+18446744073709551616-b)%18446744073709551616+18446744073709551616-ys.getD k 0)%18446744073709551616%4294967296=(xs.getD k 0+4294967296-ys.getD k 0-b)%4294967296:=by omega
    have u:((xs.getD k 0+18446744073709551616-b)%18446744073709551616+18446744073709551616-ys.getD k 0)%18446744073709551616/2^63=1-(xs.getD k 0+4294967296-ys.getD k 0-b)/4294967296:=by
     rw[show(2:Nat)^63=9223372036854775808 from rfl];omega
    simp (disch:=first|rfl|omega)only[S1,aN,aC,aE,aM,aJ,zB,zG,e0,n,o,p,f,g,h,sn,so,g1,l,c,i,sh63,t,u]
    exact⟨hc,_,_,rfl,rfl,by omega,by simp [zl],a,q⟩
  ·have g1:decide (k<xs.length)=false:=decide_eq_false hc
   obtain rfl:k=xs.length:=by omega
   rw[bJ2 (by omega),bJ2 d,bJy]at j
   have r:=iY zL
   rw[zl]at r
   have hb0:b=0:=by
    rcases bIT 0 b with hb0|hb0
    ·have:b=1:=by omega
     subst this;omega
    ·omega
   subst hb0
   simp (disch:=first|rfl|omega)only[S1,zB,o,g,h,g1]
   rw[aCU (zs:=zs) (by omega) so zl (by omega)]
   simp (disch:=first|rfl|omega)only[S1,zB,reduceCtorEq]
   rw[xB (by omega) so,iB zL,show val zs=val xs-val ys by omega]
theorem aIG{xs ys:List Nat}(hx:xs.length<9000000)(d:ys.length<=xs.length)(lx:bC xs)(ly:bC ys)(v:val ys<=val xs):CC (VX (m+2)) 216 [tW xs,tW ys] (tW (aO (val xs-val ys))):= .fr (Can.cons (jB _) (Can.cons (jB _) Can.nil)) (by simp only[bW,fJ];decide) (bAK hx d lx ly v)
end
section
variable {m:Nat}
theorem aMn:bQ PG 217 f217 [4,32,35,33,34,25,28,26,27,18] []=true:=by kernel_rfl
theorem bBM{xs ys:List Nat}(hx:xs.length<4000000)(t:ys.length<4000000)(v:xs≠ [])(w:ys≠ [])(lx:bC xs)(ly:bC ys):VX (m+2) 217 [tW xs,tW ys]=some (.tp [tW (aO (val xs*val ys))],true):=by
 have z1:decide (xs.length=0)=false:=decide_eq_false (fun h=>v (bJA h))
 have z2:decide (ys.length=0)=false:=decide_eq_false (fun h=>w (bJA h))
 refine bY rfl func217 aMn rfl ?_
 simp only[f217,N1,bD,bJ,bM,bL,bH,zB,zG]
 simp (disch:=first|rfl|omega)only[S1,aN,aC,aE,aM,aJ,zB,zD,z1,z2]
 refine .up (fun k e s=>∃zs:List Nat,s.nxt=1/\s.ob 0=⟨0,zs.map wc⟩/\e 0=some (tW xs)/\e 1=some (tW ys)/\e 5=some (.ow 0 0 (xs.length+ys.length) 1)/\e 25=some (tW xs)/\e 26=some (.int .i64 (xs.length:Nat))/\e 27=some (.int .i64 (k:Nat))/\zs.length=xs.length+ys.length/\bC zs/\(∀j,k+ys.length<=j->zs.getD j 0=0)/\val zs=val (xs.take k)*val ys) xs.length ?_ (dC (by omega)) ?_
 ·refine⟨bIQ (xs.length+ys.length) 0, ?_⟩
  simp (disch:=first|rfl|omega)only[S1,zB]
  simp only[qD,aHk,wV,val]
  simp
 ·rintro i e s D ⟨zs,sn,so,e0,n,o,a,b,d,zl,zL,g,f⟩
  by_cases h0:i<xs.length
  ·have g1:decide (i<xs.length)=true:=decide_eq_true h0
   have h1:=lx.getD i
   simp (disch:=first|rfl|omega)only[S1,aN,aC,aE,aM,aJ,zB,n,a,b,d,g1]
   refine .up (fun k e s=>∃(c:Nat) (zs:List Nat),s.nxt=1/\s.ob 0=⟨0,zs.map wc⟩/\e 0=some (tW xs)/\e 1=some (tW ys)/\e 5=some (.ow 0 0 (xs.length+ys.length) 1)/\e 6=some (.int .i64 (i:Nat))/\e 7=some (.int .u32 (xs.getD i 0:Nat))/\e 8=some (.int .u64 (c:Nat))/\e 25=some (tW xs)/\e 26=some (.int .i64 (xs.length:Nat))/\e 27=some (.int .i64 (i:Nat))/\e 32=some (tW ys)/\e 33=some (.int .i64 (ys.length:Nat))/\e 34=some (.int .i64 (k:Nat))/\c<4294967296/\zs.length=xs.length+ys.length/\bC zs/\(∀j,i+ys.length<=j->zs.getD j 0=0)/\val zs+4294967296^(i+k)*c=val (xs.take i)*val ys+4294967296^i*xs.getD i 0*val (ys.take k)) ys.length ?_ (dC (by omega)) ?_
   ·refine⟨0,zs, ?_⟩
    simp (disch:=first|rfl|omega)only[S1,zB,zG,e0,n,o,a,b,d,sn,so]
    simp only[zl,zL,f,true_and,val,bKK,bJD,and_true]
    exact g
   ·rintro k e s E ⟨c,zs,sn,so,e0,n,o,y,z,A,a,b,d,p,q,r,hc,zl,zL,g,f⟩
    by_cases l:k<ys.length
    ·have g2:decide (k<ys.length)=true:=decide_eq_true l
     have t:=ly.getD k
     have x:=zL.getD (i+k)
     obtain⟨F,C⟩:=aLx hc x h1 t
     have u:=aLk (by omega) f
     simp (disch:=first|rfl|omega)only[S1,aC,aE,aM,aJ,zB,reduceCtorEq,zG,e0,n,o,y,z,A,a,b,d,p,q,r,sn,so,g2]
     rw[show c+zs.getD (i+k) 0+xs.getD i 0*ys.getD k 0=c+(xs.getD i 0*ys.getD k 0+zs.getD (i+k) 0) by omega]at u C
     refine⟨l,_,_,rfl,rfl, ?_,by simp [zl],jO zL (bJa _ (by decide)),fun j B=> ?_,u⟩
     ·omega
     ·rw[getD_set_ne (by omega)];exact g j B
    ·have g2:decide (k<ys.length)=false:=decide_eq_false l
     obtain rfl:k=ys.length:=by omega
     have u:=aLw h0 zl (g _ (bIK _)) f
     simp (disch:=first|rfl|omega)only[S1,aN,aC,aE,aM,aJ,zB,zC,reduceCtorEq,zG,e0,n,o,y,A,a,b,d,q,r,sn,so,g2]
     refine⟨h0,_,rfl,by simp [zl],jO zL ?_,fun j B=> ?_, ?_⟩
     ·exact bJa _ (by decide)
     ·rw[getD_set_ne (by omega)];exact g j (by omega)
     ·rw[bJo hc];exact u
  ·have g1:decide (i<xs.length)=false:=decide_eq_false h0
   obtain rfl:i=xs.length:=by omega
   rw[bJy]at f
   simp (disch:=first|rfl|omega)only[S1,zB,o,b,d,g1]
   rw[aCU (zs:=zs) (by omega) so zl (by omega)]
   simp (disch:=first|rfl|omega)only[S1,zB,reduceCtorEq]
   rw[xB (by omega) so,iB zL,f]
theorem bAU{xs ys:List Nat}(hx:xs.length<4000000)(t:ys.length<4000000)(lx:bC xs)(ly:bC ys):CC (VX (m+2)) 217 [tW xs,tW ys] (tW (aO (val xs*val ys))):=by
 by_cases h0:xs=[]\/ys=[]
 ·have g:val xs*val ys=0:=by rcases h0 with rfl|rfl<;>simp [val]
  rw[g,gW]
  refine .of (vB _ _) (by simp only[bW,fJ];decide) ?_
  refine bY rfl func217 aMn rfl ?_
  simp only[f217,N1,bD,bJ,bM,bL,bH,zB,zG]
  by_cases h1:xs=[]
  ·subst h1
   simp (disch:=first|rfl|omega)only[S1,aN,aC,aE,aM,aJ,zB,reduceCtorEq,zD]
   rfl
  ·have z1:decide (xs.length=0)=false:=decide_eq_false (fun h=>h1 (bJA h))
   have h2:ys=[]:=h0.resolve_left h1
   subst h2
   simp (disch:=first|rfl|omega)only[S1,aN,aC,aE,aM,aJ,zB,reduceCtorEq,zD,z1]
   rfl
 ·exact .fr (vB _ _) (by simp only[bW,fJ];decide) (bBM hx t (fun h=>h0 (.inl h)) (fun h=>h0 (.inr h)) lx ly)
end
section
variable {m:Nat}
theorem aVv:bQ PG 86 f86 [2] []=true:=by kernel_rfl
theorem aLF{z:Int}(h1: -9223372036854775808<=z)(h2:z<9223372036854775808):VX (m+3) 86 [.int .i64 z]=some (tI z,false):=by
 have j:=aCC (m:=m) (n:=z.natAbs) (by omega)
 have u:(aO z.natAbs).length<10000000:=bJe (lY (k:=2) (by show z.natAbs<18446744073709551616;omega)) (by decide)
 have hs:=nU (m:=m) (n:=decide (z<0)) (k:=z.natAbs) u
 rw[aBz]at hs
 refine bY rfl func86 aVv rfl ?_
 simp only[f86,N1,bD,bJ,bM,bL,bH,zB,zG]
 simp (disch:=first|rfl|omega)only[S1,aC,aE,aM,aJ,zB,aAi]
 refine cJ (fun hc=> ?_) (fun hc=> ?_)
 ·have h0:z<0:=of_decide_eq_true hc
  have p:IntKind.u64.wrap z=((18446744073709551616-z.natAbs:Nat):Int):=by rw[aA0];omega
  have v:=aOK (n:=z.natAbs) (by omega) (by omega)
  rw[p]
  simp (disch:=first|rfl|omega)only[S1,aC,aE,aM,aJ,zB,reduceCtorEq,zD,zG,zH,TI,v,aAi,vJ 176 rfl,j _,vJ 79 rfl,hs _]
 ·have h0:¬z<0:=of_decide_eq_false hc
  have p:IntKind.u64.wrap z=((z.natAbs:Nat):Int):=by rw[aA0];omega
  rw[p]
  simp (disch:=first|rfl|omega)only[S1,aC,aE,aM,aJ,zB,reduceCtorEq,zD,zG,zH,TI,aAi,vJ 176 rfl,j _,vJ 79 rfl,hs _]
theorem aCD{z:Int}(h1: -9223372036854775808<=z)(h2:z<9223372036854775808):CC (VX (m+3)) 86 [.int .i64 z] (tI z):= .of (xT _ _) (aAy _ _) (aLF h1 h2)
theorem bDC:bQ PG 136 f136 [4] []=true:=by kernel_rfl
theorem bF0(z w:Int):sg (!(decide (z<0)==decide (w<0))) (z.natAbs*w.natAbs)=z*w:=by
 have ea:(z.natAbs*w.natAbs:Nat)=(z*w).natAbs:=(bJJ z w).symm
 rw[ea]
 by_cases g:z<0<;>by_cases j:w<0
 ·have:=Int.mul_pos_of_neg_of_neg g j
  simp only[sg,g,j,decide_true];simp;omega
 ·have:=Int.mul_nonpos_of_nonpos_of_nonneg (bMl g) (bKY.1 j)
  simp only[sg,g,j,decide_true,decide_false];simp;omega
 ·have:=Int.mul_nonpos_of_nonneg_of_nonpos (bKY.1 g) (bMl j)
  simp only[sg,g,j,decide_true,decide_false];simp;omega
 ·have:=Int.mul_nonneg (bKY.1 g) (bKY.1 j)
  simp only[sg,g,j,decide_false];simp;omega
theorem aRn{z w:Int}(h:aX 3000000 z.natAbs)(h':aX 3000000 w.natAbs):VX (m+3) 136 [tI z,tI w]=some (tI (z*w),false):=by
 have t:=h.len
 have l2:=h'.len
 have t1:=oT (m:=m+1) (xs:=aO z.natAbs) (by omega)
 have t2:=oT (m:=m+1) (xs:=aO w.natAbs) (by omega)
 rw[kH]at t1 t2
 have l:=bAU (m:=m) (xs:=aO z.natAbs) (ys:=aO w.natAbs) (by omega) (by omega) (cV _) (cV _)
 rw[cO,cO]at l
 have hs:=nU (m:=m) (n:= !(decide (z<0)==decide (w<0))) (k:=z.natAbs*w.natAbs) (bJe ((h.mul h').len) (by decide))
 rw[bF0]at hs
 refine bY rfl func136 bDC rfl ?_
 simp only[f136,N1,bD,bJ,bM,bL,bH,zB,zG]
 simp (disch:=first|rfl|omega)only[S1,zB,reduceCtorEq,zD,zG,zH,TI,aT,(t1 _).1,(t2 _).1,vZ,aBD,(l _).1,(hs _).1]
theorem vE{z w:Int}(h:aX 3000000 z.natAbs)(h':aX 3000000 w.natAbs):CC (VX (m+3)) 136 [tI z,tI w] (tI (z*w)):= .of (mG z w) (mF z w) (aRn h h')
theorem bE5:bQ PG 270 f270 [4,27,17] []=true:=by kernel_rfl
theorem aSW{z w:Int}(h:aX 8000000 z.natAbs)(h':aX 8000000 w.natAbs):VX (m+4) 270 [tI z,tI w]=some (tI (z+w),false):=by
 have t:=h.len
 have l2:=h'.len
 have t1:=oT (m:=m+2) (xs:=aO z.natAbs) (by omega)
 have t2:=oT (m:=m+2) (xs:=aO w.natAbs) (by omega)
 rw[kH]at t1 t2
 refine bY rfl func270 bE5 rfl ?_
 simp only[f270,N1,bD,bJ,bM,bL,bH,zB,zG]
 simp (disch:=first|rfl|omega)only[S1,zB,reduceCtorEq,zD,zG,zH,TI,aT,(t1 _).1,(t2 _).1,vZ,aJC]
 refine cJ (fun e=> ?_) (fun e=> ?_)
 ·have l:=aPF (m:=m+1) (a:=z.natAbs) (b:=w.natAbs) (by omega) (by omega)
  have hs:=nU (m:=m+1) (n:=decide (z<0)) (k:=z.natAbs+w.natAbs) (bJe ((h.add h').len) (by decide))
  have g:sg (decide (z<0)) (z.natAbs+w.natAbs)=z+w:=by
   simp only[beq_iff_eq,decide_eq_decide]at e
   by_cases g:z<0
   ·simp only[sg,g,decide_true,if_true];omega
   ·simp only[sg,g,decide_false];simp;omega
  rw[g]at hs
  simp (disch:=first|rfl|omega)only[S1,zB,reduceCtorEq,zD,zG,zH,TI,aT,(l _).1,(hs _).1]
 ·have i:decide (z<0)≠decide (w<0):=by simpa using e
  have hc:=aBe (m:=m) (a:=z.natAbs) (b:=w.natAbs) (by omega)
  by_cases o:z.natAbs<w.natAbs
  ·have l:=aIG (m:=m+1) (xs:=aO w.natAbs) (ys:=aO z.natAbs) (by omega) (oO (by omega)) (cV _) (cV _) (by rw[cO,cO];omega)
   rw[cO,cO]at l
   have hs:=nU (m:=m+1) (n:=decide (w<0)) (k:=w.natAbs-z.natAbs) (bJe ((h'.le (Nat.sub_le _ _)).len) (by decide))
   have g:sg (decide (w<0)) (w.natAbs-z.natAbs)=z+w:=by
    by_cases g:w<0
    ·simp only[sg,g,decide_true,if_true];simp only[g,decide_true,ne_eq,decide_eq_true_eq]at i;omega
    ·simp only[sg,g,decide_false];simp only[g,decide_false,ne_eq,decide_eq_false_iff_not,Decidable.not_not]at i;simp;omega
   rw[g]at hs
   rw[if_pos o]at hc
   simp (disch:=first|rfl|omega)only[S1,aC,aE,aM,aJ,zB,reduceCtorEq,zD,zG,zH,TI,aT,vJ 180 rfl,hc _,aEF,(l _).1,(hs _).1]
  ·have l:=aIG (m:=m+1) (xs:=aO z.natAbs) (ys:=aO w.natAbs) (by omega) (oO (by omega)) (cV _) (cV _) (by rw[cO,cO];omega)
   rw[cO,cO]at l
   have hs:=nU (m:=m+1) (n:=decide (z<0)) (k:=z.natAbs-w.natAbs) (bJe ((h.le (Nat.sub_le _ _)).len) (by decide))
   have g:sg (decide (z<0)) (z.natAbs-w.natAbs)=z+w:=by
    by_cases g:z<0
    ·simp only[sg,g,decide_true,if_true];simp only[g,decide_true,ne_eq,Bool.true_eq,decide_eq_true_eq]at i;omega
    ·simp only[sg,g,decide_false];simp only[g,decide_false,ne_eq,Bool.false_eq,decide_eq_false_iff_not,Decidable.not_not]at i;simp;omega
   rw[g]at hs
   rw[if_neg o]at hc
   obtain⟨r,q⟩:∃r:Nat,(if w.natAbs<z.natAbs then(1:Int)else 0)=(r:Int):=by
    split
    ·exact⟨1,rfl⟩
    ·exact⟨0,rfl⟩
   rw[q]at hc
   simp (disch:=first|rfl|omega)only[S1,aC,aE,aM,aJ,zB,reduceCtorEq,zD,zG,zH,TI,aT,vJ 180 rfl,hc _,aKz,(l _).1,(hs _).1]
theorem aRH{z w:Int}(h:aX 8000000 z.natAbs)(h':aX 8000000 w.natAbs):CC (VX (m+4)) 270 [tI z,tI w] (tI (z+w)):= .of (mG z w) (mF z w) (aSW h h')
theorem aQi{et:fO}{k:bQc}{z w:Int}:bX et .neq (.int k z) (.int k w)=some (.b (!decide (z=w))):=by simp only[bX,dY,if_true]
theorem bAw{et:fO}{z w:Int}(h:Sm z)(h':Sm w):bX et .mul (.int .i64 z) (.int .i64 w)=some (.int .i64 (z*w)):=by
 have h1:z= -1\/z=0\/z=1:=by have:=h.1;have:=h.2;omega
 have h2:w= -1\/w=0\/w=1:=by have:=h'.1;have:=h'.2;omega
 rcases h1 with rfl|rfl|rfl<;>rcases h2 with rfl|rfl|rfl<;>rfl
theorem aC9(z:Int):(z<0/\z.sign= -1)\/(z=0/\z.sign=0)\/(0<z/\z.sign=1):=by
 rcases bLx z 0 with h|h|h
 ·exact .inl ⟨h,bK8 h⟩
 ·exact .inr (.inl ⟨h,by rw[h];rfl⟩)
 ·exact .inr (.inr ⟨h,bK5 h⟩)
theorem aS8{z w:Int}(h:z.sign≠w.sign):rV z.sign w.sign=(z-w).sign:=by
 unfold rV
 rcases aC9 z with ⟨a,b⟩|⟨a,b⟩|⟨a,b⟩<;>rcases aC9 w with ⟨c,d⟩|⟨c,d⟩|⟨c,d⟩<;>rw[b,d]at h ⊢ <;>first|exact absurd rfl h|(rcases aC9 (z-w)with ⟨e,f⟩|⟨e,f⟩|⟨e,f⟩<;>rw[f]<;>first|rfl|omega)
theorem cmp_eq{z w:Int}(h:z.sign=w.sign):z.sign*(if z.natAbs<w.natAbs then-1 else if w.natAbs<z.natAbs then 1 else 0)=(z-w).sign:=by
 rcases aC9 z with ⟨a,b⟩|⟨a,b⟩|⟨a,b⟩<;>rcases aC9 w with ⟨c,d⟩|⟨c,d⟩|⟨c,d⟩<;>rw[b,d]at h<;>first|(exact absurd h (by decide))|(rw[b];rcases aC9 (z-w)with ⟨e,f⟩|⟨e,f⟩|⟨e,f⟩<;>rw[f]<;>split<;>first|rfl|omega|(split<;>first|rfl|omega))
theorem bC9:bQ PG 88 f88 [4] []=true:=by kernel_rfl
theorem aRJ{z w:Int}(h:aX 8000000 z.natAbs)(h':aX 8000000 w.natAbs):VX (m+4) 88 [tI z,tI w]=some (.int .i64 (z-w).sign,false):=by
 have t:=h.len
 have l2:=h'.len
 have t1:=oT (m:=m+2) (xs:=aO z.natAbs) (by omega)
 have t2:=oT (m:=m+2) (xs:=aO w.natAbs) (by omega)
 rw[kH]at t1 t2
 have g1:=aBE (m:=m+2) (h.mono (k:=9000000) (by decide))
 have g2:=aBE (m:=m+2) (h'.mono (k:=9000000) (by decide))
 have gc:=aPA (m:=m+1) (z:=z.sign) (w:=w.sign)
 have hc:=aBe (m:=m) (a:=z.natAbs) (b:=w.natAbs) (by omega)
 refine bY rfl func88 bC9 rfl ?_
 simp only[f88,N1,bD,bJ,bM,bL,bH,zB,zG]
 simp (disch:=first|rfl|omega)only[S1,aC,aE,aM,aJ,zB,reduceCtorEq,zD,zG,zH,TI,g1 _,g2 _]
 have sm:Sm (if z.natAbs<w.natAbs then-1 else if w.natAbs<z.natAbs then 1 else 0):=by
  split
  ·exact⟨by decide,by decide⟩
  ·split<;>exact⟨by decide,by decide⟩
 simp (disch:=first|rfl|omega)only[S1,zB,aQi]
 refine cJ (fun e=> ?_) (fun e=> ?_)
 ·have i:z.sign≠w.sign:=by simpa using e
  simp (disch:=first|rfl|omega)only[S1,zB,reduceCtorEq,vJ 179 rfl,gc _]
  rw[aS8 i]
 ·have s:z.sign=w.sign:=by simpa using e
  obtain⟨r,q⟩:∃r:Int,(if z.natAbs<w.natAbs then(-1:Int)else if w.natAbs<z.natAbs then 1 else 0)=r:=⟨_,rfl⟩
  have hf:=cmp_eq s
  rw[q]at hc sm hf
  simp (disch:=first|rfl|omega)only[S1,zB,reduceCtorEq,zD,zG,zH,aT,(t1 _).1,(t2 _).1,hc _,bAw (aCE z) sm]
  rw[hf]
theorem aSv{z w:Int}(h:aX 8000000 z.natAbs)(h':aX 8000000 w.natAbs):CC (VX (m+4)) 88 [tI z,tI w] (.int .i64 (z-w).sign):= .of (mG z w) (mF z w) (aRJ h h')
end
section
variable {m:Nat}
theorem aX1{xs:List Nat}(h:0<xs.length):(cG xs).length=xs.length↔xs.getD (xs.length-1) 0≠0:=by
 obtain⟨n,hn⟩:∃n,xs.length=n+1:=⟨xs.length-1,by omega⟩
 have e:xs.take (n+1)=xs:=bJ2 (by omega)
 rw[hn,bJw]
 constructor
 ·intro h1 h2
  have b:=wU (xs:=xs) (k:=n) (by omega) h2
  rw[e]at b
  have f:=qC (xs.take n)
  rw[←b,bIW]at f
  omega
 ·intro h1
  have b:=wW (xs:=xs) (k:=n) (by omega) h1
  rwa [e]at b
theorem aY0:bQ PG 84 f84 [2] []=true:=by kernel_rfl
theorem bAH{x:Bool×List Nat}(h:x.2.length<10000000):VX (m+1) 84 [tX x]=some (.b (dW x),false):=by
 obtain⟨n,xs⟩:=x
 simp only at h
 refine bY rfl func84 aY0 rfl ?_
 simp only[f84,N1,bD,bJ,bM,bL,bH,zB,zG]
 unfold dW
 simp only
 cases a:decide (xs.length=0)
 ·have c:0<xs.length:=by have:=of_decide_eq_false a;omega
  have g1:decide (0<xs.length)=true:=decide_eq_true c
  have d:=aX1 c
  simp (disch:=first|rfl|omega)only[S1,aN,aC,aE,aM,aJ,zB,reduceCtorEq,zD,zG,zH,rK,aT,a,g1]
  refine rb ?_
  rw[Bool.or_true,bK6]
  by_cases h1:xs.getD (xs.length-1) 0=0
  ·rw[decide_eq_true h1,decide_eq_false (fun h=>d.1 h h1)];rfl
  ·rw[decide_eq_false h1,decide_eq_true (d.2 h1)];rfl
 ·have h0:xs=[]:=bJA (of_decide_eq_true a)
  subst h0
  cases n
  ·simp (disch:=first|rfl|omega)only[S1,aN,aC,aE,aM,aJ,zB,reduceCtorEq,zD,zG,zH,rK,aT]
   rfl
  ·simp (disch:=first|rfl|omega)only[S1,aN,aC,aE,aM,aJ,zB,reduceCtorEq,zD,zG,zH,rK,aT]
   rfl
theorem aPj{x:Bool×List Nat}(h:x.2.length<10000000):CC (VX (m+1)) 84 [tX x] (.b (dW x)):= .of (aK6 x) (aK1 x) (bAH h)
end
section
variable {m:Nat}
theorem bAf:bQ PG 244 f244 [5,4,16] []=true:=by kernel_rfl
theorem bCh{xs:List Nat}{n:Nat}(i:xs.length<10000000)(lx:bC xs)(hn:0<n)(a:n<4294967296):VX (m+3) 244 [tW xs,.int .u32 (n:Nat)]=some (.tp [tW (aO (val xs/n)),tW (aO (val xs%n))],false):=by
 refine bY rfl func244 bAf rfl ?_
 simp only[f244,N1,bD,bJ,bM,bL,bH,zB,zG]
 simp (disch:=first|rfl|omega)only[S1,aN,aC,aE,aM,aJ,zB,zD]
 refine .loop (fun k e s=>k<=xs.length/\∃ρ zs,s.nxt=1/\s.ob 0=⟨0,zs.map wc⟩/\e 0=some (tW xs)/\e 1=some (.int .u32 (n:Nat))/\e 6=some (.ow 0 0 xs.length 1)/\e 7=some (.int .u64 (ρ:Nat))/\e 8=some (.int .i64 (iz k))/\ρ<n/\zs.length=xs.length/\bC zs/\val (xs.drop k)=n*val (zs.drop k)+ρ) xs.length ?_ (dC (by omega)) ?_
 ·refine⟨bIK _,0,bIQ xs.length 0, ?_⟩
  simp (disch:=first|rfl|omega)only[S1,zB]
  simp [val,hn,qD]
 ·rintro k e s ⟨o,ρ,zs,sn,so,e0,b,c,d,f,hρ,zl,zL,g⟩
  simp (disch:=first|rfl|omega)only[S1,aC,aE,aM,aJ,zB,f]
  refine cJ (fun h=> ?_) (fun h=> ?_)
  ·have h0:=of_decide_eq_true h
   have hx:=lx.getD (k-1)
   simp (disch:=first|rfl|omega)only[S1,aC,aE,aM,aJ,zB,zG,e0,b,c,d,f,sn,so]
   have hq:=aGg hρ hx
   rw[bJW,bIX]at hq
   rw[bJo hq]
   refine⟨k-1,by omega,by omega,_,_,rfl,rfl,rfl,bJa _ hn,by simp [zl],jO zL hq, ?_⟩
   have:=aJs (xs:=xs) (zs:=zs) (j:=k-1) (n:=n) (r:=ρ) (by omega) zl (by rw[show k-1+1=k by omega];exact g)
   rw[bIX 4294967296,bJW (xs.getD (k-1) 0)]at this
   exact this
  ·have h0:=of_decide_eq_false h
   obtain rfl:k=0:=by omega
   simp only[bJd]at g
   simp (disch:=first|rfl|omega)only[S1,zB,zG,c]
   rw[aCU (zs:=zs) (by omega) so zl (by omega)]
   have l:=aCC (m:=m) (n:=ρ) (by omega)
   simp (disch:=first|rfl|omega)only[S1,zB,reduceCtorEq,d,vJ 176 rfl,l _]
   rw[aHB (by omega) so (by omega) (jB _) (by rw[fJ];decide),iB zL]
   rw[g,Nat.mul_add_div hn,bKs hρ,bJD,Nat.mul_add_mod,bJo hρ]
theorem bEK{xs:List Nat}{n:Nat}(i:xs.length<10000000)(lx:bC xs)(hn:0<n)(a:n<4294967296):CC (VX (m+3)) 244 [tW xs,.int .u32 (n:Nat)] (.tp [tW (aO (val xs/n)),tW (aO (val xs%n))]):= .of (aJM _ _ _) (by simp only[bW,fJ,dA];decide) (bCh i lx hn a)
end
section
variable {m:Nat}
theorem bBX:bQ PG 117 f117 [0] []=true:=by kernel_rfl
theorem aJU:CC (VX (m+4)) 117 [] (tI ((1:Nat):Int)):=by
 refine .of Can.nil (by simp only[bW];decide) ?_
 have f2:=aCD (m:=m) (z:=((1:Nat):Int)) (by decide) (by decide)
 refine bY rfl func117 bBX rfl ?_
 simp only[f117,N1,bD,bJ,bM,bL,bH,zB,zG]
 simp (disch:=first|rfl|omega)only[S1,aC,aE,aM,aJ,zB,reduceCtorEq,zD,zG,zH,TQ,vJ 86 rfl,f2 _]
theorem aXv:bQ PG 206 f206 [2] []=true:=by kernel_rfl
theorem aBv{z:Int}:CC (VX (m+1)) 206 [tI z] (.b (decide (z=1))):=by
 refine .of (vL z) (vM z) ?_
 refine bY rfl func206 aXv rfl ?_
 simp only[f206,N1,bD,bJ,bM,bL,bH,zB,zG]
 have c:=aEP (z:=z)
 cases d:decide (z<0)
 ·cases hB:decide ((aO z.natAbs).length=1)
  ·simp (disch:=first|rfl|omega)only[S1,aN,aC,aE,aM,aJ,zB,reduceCtorEq,zD,zG,zH,TI,aT,d,hB]
   exact rb (decide_eq_false fun h=>of_decide_eq_false hB (c.2 h).1).symm
  ·have j:=of_decide_eq_true hB
   simp (disch:=first|rfl|omega)only[S1,aN,aC,aE,aM,aJ,zB,reduceCtorEq,zD,zG,zH,TI,aT,d,j]
   refine rb ?_
   by_cases h1:(aO z.natAbs).getD 0 0=1
   ·rw[decide_eq_true h1,decide_eq_true (c.1 ⟨j,h1,of_decide_eq_false d⟩)]
   ·rw[decide_eq_false h1,decide_eq_false fun h=>h1 (c.2 h).2.1]
 ·simp (disch:=first|rfl|omega)only[S1,aC,aE,aM,aJ,zB,reduceCtorEq,zD,zG,zH,TI,aT,d]
  exact rb (decide_eq_false fun h=>(c.2 h).2.2 (of_decide_eq_true d)).symm
theorem aVL:bQ PG 253 f253 [2] []=true:=by kernel_rfl
theorem aNH{z:Int}:CC (VX (m+1)) 253 [tI z] (.b (decide (z=0))):=by
 refine .of (vL z) (vM z) ?_
 refine bY rfl func253 aVL rfl ?_
 simp only[f253,N1,bD,bJ,bM,bL,bH,zB,zG]
 simp (disch:=first|rfl|omega)only[S1,aN,aC,aE,aM,aJ,zB,reduceCtorEq,zD,zG,zH,TI,aT]
 exact rb (decide_eq_decide.2 aB3)
theorem aVx:bQ PG 43 f43 [2] []=true:=by kernel_rfl
theorem aHx{z:Int}(h1: -9223372036854775808<=z)(h2:z<9223372036854775808):VX (m+5) 43 [.int .i64 z]=some (tR (z:Rat),false):=by
 have f1:=aCD (m:=m+1) (z:=z) h1 h2
 have f2:=aJU (m:=m)
 refine bY rfl func43 aVx rfl ?_
 simp only[f43,N1,bD,bJ,bM,bL,bH,zB,zG]
 simp (disch:=first|rfl|omega)only[S1,aD,zB,reduceCtorEq,zD,zG,zH,TQ,vJ 86 rfl,f1 _,vJ 117 rfl,f2 _]
 exact oU rfl rfl
theorem aBc{z:Int}(h1: -9223372036854775808<=z)(h2:z<9223372036854775808):CC (VX (m+5)) 43 [.int .i64 z] (tR (z:Rat)):= .of (xT _ _) (aAy _ _) (aHx h1 h2)
theorem aO2:bQ PG 139 f139 [2] []=true:=by kernel_rfl
theorem aFz{q:Rat}(h:FR 9000000 q):CC (VX (m+2)) 139 [tR q] (.int .i64 (fW q)):=by
 refine .of (aC4 q) (aC3 q) ?_
 have hs:=aBE (m:=m) h.1
 refine bY rfl func139 aO2 rfl ?_
 simp only[f139,N1,bD,bJ,bM,bL,bH,zB,zG]
 simp (disch:=first|rfl|omega)only[S1,aC,aE,aM,aJ,zB,reduceCtorEq,zD,zG,zH,TQ,aT,vJ 85 rfl,hs _]
 rfl
theorem bCq:bQ PG 211 f211 [2] []=true:=by kernel_rfl
theorem aS7{q:Rat}(h:FR 9000000 q):VX (m+4) 211 [tR q]=some (tR (-q),false):=by
 have hs:=aRq (m:=m) h.1
 refine bY rfl func211 bCq rfl ?_
 simp only[f211,N1,bD,bJ,bM,bL,bH,zB,zG]
 simp (disch:=first|rfl|omega)only[S1,aD,zB,reduceCtorEq,zD,zG,zH,TQ,aT,hs _]
 exact oU rfl rfl
theorem aJL{q:Rat}(h:FR 9000000 q):CC (VX (m+4)) 211 [tR q] (tR (-q)):= .of (aC4 q) (aC3 q) (aS7 h)
theorem aOs(z:Int){n:Nat}(h:0<n):(z*(n:Int)).sign=z.sign:=by rw[Int.sign_mul,bK5 (a:=(n:Int)) (by omega),Int.mul_one]
theorem bEx:bQ PG 55 f55 [4,16] []=true:=by kernel_rfl
theorem aSg{a b:Rat}(h:FR 30000 a)(h':FR 30000 b):VX (m+5) 55 [tR a,tR b]=some (.int .i64 (fW (a-b)),false):=by
 have g1:=aFz (m:=m+2) (h.mono (k:=9000000) (by decide))
 have g2:=aFz (m:=m+2) (h'.mono (k:=9000000) (by decide))
 have l:=vE (m:=m+1) (z:=a.num) (w:=(b.den:Int)) (h.1.mono (by decide)) (h'.2.mono (by decide))
 have o:=vE (m:=m+1) (z:=b.num) (w:=(a.den:Int)) (h'.1.mono (by decide)) (h.2.mono (by decide))
 have hc:=aSv (m:=m) (z:=a.num*b.den) (w:=b.num*a.den) ((h.mul1 h').1.mono (by decide)) ((h'.mul1 h).1.mono (by decide))
 rw[←aJb]at hc
 have s1:(a.num*b.den).sign=fW a:=aOs _ b.den_pos
 have i:(b.num*a.den).sign=fW b:=aOs _ a.den_pos
 refine bY rfl func55 bEx rfl ?_
 simp only[f55,N1,bD,bJ,bM,bL,bH,zB,zG]
 simp (disch:=first|rfl|omega)only[S1,aC,aE,aM,aJ,zB,reduceCtorEq,zD,zG,zH,TQ,g1 _,g2 _,aQi]
 refine cJ (fun e=> ?_) (fun e=> ?_)
 ·have f:(a.num*b.den).sign≠(b.num*a.den).sign:=by rw[s1,i];simpa using e
  have g:=aS8 f
  rw[s1,i,←aJb]at g
  unfold rV at g
  simp (disch:=first|rfl|omega)only[S1,zB,aAn]
  refine cJ (fun e=> ?_) (fun e=> ?_)
  ·simp (disch:=first|rfl|omega)only[S1,aC,aE,aM,aJ,zB,reduceCtorEq]
   rw[←g,if_pos (of_decide_eq_true e)]
  ·simp (disch:=first|rfl|omega)only[S1,aC,aE,aM,aJ,zB,reduceCtorEq]
   rw[←g,if_neg (of_decide_eq_false e)]
   rw[s1,i]at f
   rw[if_pos (by have:=of_decide_eq_false e;omega)];rfl
 ·simp (disch:=first|rfl|omega)only[S1,zB,reduceCtorEq,zD,zG,zH,TQ,aT,l _,o _,hc _]
theorem aRU{a b:Rat}(h:FR 30000 a)(h':FR 30000 b):CC (VX (m+5)) 55 [tR a,tR b] (.int .i64 (fW (a-b))):= .of (pD a b) (rP a b) (aSg h h')
end
section
variable {m:Nat}
theorem bEC:bQ PG 246 f246 [4,16] []=true:=by kernel_rfl
theorem aRs{xs:List Nat}{sh:Nat}{s:VS}{orc:cN}(t:xs.length<9000000)(lx:bC xs)(hs:sh<32):∃R s1,fH PG cC orc lA 246 [tW xs,.int .i64 (sh:Nat)] s=some (R,s1)/\R= .ow s.nxt 0 (xs.length+1) 1/\s1.nxt=s.nxt+1/\(∀k,k<s.nxt->s1.ob k=s.ob k)/\∃zs:List Nat,s1.ob s.nxt=⟨0,zs.map wc⟩/\zs.length=xs.length+1/\bC zs/\val zs=val xs*2^sh:=by
 refine aBJ (n:=7) rfl func246 bEC rfl ?_
 simp only[f246,N1,bD,bJ,bM,bL,bH,zB,zG]
 simp (disch:=first|rfl|omega)only[S1,aH,aN,aC,aE,aM,aJ,zB,zD,zH]
 refine .up (fun k e s1=>s1.nxt=s.nxt+1/\(∀k,k<s.nxt->s1.ob k=s.ob k)/\∃zs:List Nat,s1.ob s.nxt=⟨0,zs.map wc⟩/\e 0=some (tW xs)/\e 1=some (.int .i64 (sh:Nat))/\e 5=some (.ow s.nxt 0 (xs.length+1) 1)/\e 13=some (tW xs)/\e 14=some (.int .i64 (xs.length:Nat))/\e 15=some (.int .i64 (k:Nat))/\zs.length=xs.length+1/\bC zs/\zs.getD k 0<2^sh/\(∀j,k<j->zs.getD j 0=0)/\val (zs.take (k+1))=val (xs.take k)*2^sh) xs.length ?_ (dC (by omega)) ?_
 ·have i:0<2^sh:=bJx (by decide)
  refine⟨rfl,fun k l=> ?_,bIQ (xs.length+1) 0, ?_⟩
  ·rw[iP,show(k==s.nxt)=false by simp;omega];rfl
  simp (disch:=first|rfl|omega)only[S1,zB]
  refine⟨qD _,by rw[wV];exact i,fun j _=>wV _ _,by simp [val,bK9]⟩
 ·rintro k e s1 l ⟨sn,sk,zs,so,e0,d,f,a,b,c,zl,zL,z1,z2,z3⟩
  simp (disch:=first|rfl|omega)only[S1,b,c]
  refine cJ (fun h=> ?_) (fun h=> ?_)
  ·have h0:=of_decide_eq_true h
   have h1:=lx.getD k
   have h2:=aNT hs h1
   have u:=zL.getD k
   have o:=aMx hs h0 h1 zl zL z1 z2 z3
   have p:=aRK (x:=xs.getD k 0) hs z1
   have q:(zs.set k (zs.getD k 0+xs.getD k 0*2^sh%4294967296)).length=xs.length+1:=by rw[bJX,zl]
   have g:xs.getD k 0*2^sh/4294967296%4294967296=xs.getD k 0*2^sh/4294967296:=bJo (by omega)
   simp (disch:=first|rfl|omega)only[S1,aC,aE,aM,aJ,zB,reduceCtorEq,e0,d,f,a,b,c,sn,so,xK (n:=sh),p,g]
   refine⟨h0,fun j r=> ?_,_,rfl,o⟩
   rw[show(j==s.nxt)=false by simp;omega]
   exact sk j r
  ·have h0:=of_decide_eq_false h
   obtain rfl:k=xs.length:=by omega
   rw[bJ2 (by omega),bJy]at z3
   simp (disch:=first|rfl|omega)only[S1,zB,reduceCtorEq,f,sn,so]
   exact⟨_,rfl,rfl,sk,zs,rfl,zl,zL,z3⟩
end
end Go.Proofs.YtmjoaipkaddkbaaGreatDoor.Ev
namespace Go.Proofs.YtmjoaipkaddkbaaGreatDoor
section
def part(xs:List Nat)(i k:Nat):List Nat:=(xs.drop i).take k
theorem xA(xs:List Nat)(i k:Nat):val (part xs i (k+1))=val (part xs i k)+4294967296^k*xs.getD (i+k) 0:=by
 unfold part;rw[nT,uK]
theorem aF3{zs:List Nat}{i k y:Nat}(h:i+k<zs.length):val (part (zs.set (i+k) y) i (k+1))=val (part zs i k)+4294967296^k*y:=by
 rw[xA,uJ h]
 congr 2
 unfold part
 rw[List.drop_set,if_neg (by omega),show i+k-i=k by omega,List.take_set_of_le (by omega)]
theorem aL9{P b X Y B z y:Nat}(h:P+B*b=X+Y):P+B*((b+(z+y))%4294967296)+B*4294967296*((b+(z+y))/4294967296)=X+B*z+(Y+B*y):=by
 have e:=bK4 (b+(z+y)) 4294967296
 generalize (b+(z+y))%4294967296=r at*
 generalize (b+(z+y))/4294967296=q at*
 have F:B*(4294967296*q+r)=B*b+B*z+B*y:=by rw[e,bJ6,bJ6];omega
 rw[bJ6]at F
 rw[bJ5]
 omega
end
end Go.Proofs.YtmjoaipkaddkbaaGreatDoor
namespace Go.Proofs.YtmjoaipkaddkbaaGreatDoor.Ev
section
variable {m:Nat}
theorem bB0{et:fO}{x y:Nat}:bX et .add (.int .u32 (x:Int)) (.int .u32 (y:Int))=some (.int .u32 (((x+y)%4294967296:Nat):Int)):=by
 simp only[bX,dY,if_true]
 rw[show(x:Int)+(y:Int)=((x+y:Nat):Int) by simp,aIq]
theorem aVc:bQ PG 248 f248 [] []=true:=by kernel_rfl
theorem aVG{xs ys ys0:List Nat}{g g2 i n:Nat}{s:VS}{orc:cN}(O:g<s.nxt)(G:s.ob g=⟨0,xs.map wc⟩)(H:g2<s.nxt)(l:s.ob g2=⟨0,ys0.map wc⟩)(o:g2≠g)(d:ys0.take n=ys)(I:bC xs)(J:bC ys)(hn:ys.length=n)(Q:i+(n+1)<=xs.length)(S:xs.length<9000000):∃R s1,fH PG cC orc lA 248 [.ow g i (n+1) 1,.ow g2 0 n 1] s=some (R,s1)/\s1.nxt=s.nxt/\(∀j,j≠g->s1.ob j=s.ob j)/\∃(zs:List Nat) (q:Nat),s1.ob g=⟨0,zs.map wc⟩/\bC zs/\zs.length=xs.length/\(∀t,(t<i\/i+(n+1)<=t)->zs.getD t 0=xs.getD t 0)/\val (part zs i (n+1))+4294967296^(n+1)*q=val (part xs i (n+1))+val ys:=by
 have K:n<=ys0.length:=by rw[←d,bIW]at hn;omega
 have a:∀k,k<n->ys0.getD k 0=ys.getD k 0:=fun k v=>by rw[←d,getD_take v]
 refine aBJ (n:=7) rfl func248 aVc rfl ?_
 simp only[f248,N1,bD,bJ,bM,bL,bH,zG]
 simp (disch:=first|rfl|omega)only[S1,aH,aN,aC,aE,aM,aJ,zB,zD]
 refine .up (fun k e s1=>s1.nxt=s.nxt/\(∀j,j≠g->s1.ob j=s.ob j)/\∃(b:Nat) (zs:List Nat),s1.ob g=⟨0,zs.map wc⟩/\e 0=some (.ow g i (n+1) 1)/\e 1=some (.ow g2 0 n 1)/\e 4=some (.int .u64 (b:Nat))/\e 7=some (.ow g2 0 n 1)/\e 8=some (.int .i64 (n:Nat))/\e 9=some (.int .i64 (k:Nat))/\b<=1/\bC zs/\zs.length=xs.length/\(∀t,(t<i\/i+k<=t)->zs.getD t 0=xs.getD t 0)/\val (part zs i k)+4294967296^k*b=val (part xs i k)+val (ys.take k)) n ?_ (dC (by omega)) ?_
 ·refine⟨rfl,fun _ _=>rfl,0,xs,G, ?_, ?_, ?_, ?_, ?_, ?_,bIR _,I,rfl,fun _ _=>rfl, ?_⟩<;>first|(simp (disch:=first|rfl|omega)only[S1,zB];done)|simp [val,part]
 ·rintro k e s1 v ⟨sn,sk,b,zs,so,e0,w,A,C,D,E,L,zL,zl,zo,p⟩
  by_cases hc:k<n
  ·have g1:decide (k<n)=true:=decide_eq_true hc
   have so2:=(sk g2 o).trans l
   have sn2:g2<s1.nxt:=by omega
   have a:=a k hc
   have M:=zL.getD (i+k)
   have T:=J.getD k
   have c:=zo (i+k) (.inr (bIK _))
   simp (disch:=first|rfl|omega)only[S1,aC,aE,aM,aJ,zB,reduceCtorEq,e0,w,A,C,D,E,sn,so,so2,g1,a]
   refine⟨hc,fun j f=> ?_,_,_,rfl,rfl,by omega,jO zL (bJa _ (by decide)),by rw[bJX,zl],fun t N=> ?_, ?_⟩
   ·rw[show(j==g)=false by simpa using f];exact sk j f
   ·rw[getD_set_ne (by omega)];exact zo t (by omega)
   ·rw[aF3 (by omega),xA,nT,←c,bJ1]
    exact aL9 p
  ·have g1:decide (k<n)=false:=decide_eq_false hc
   obtain rfl:k=n:=by omega
   rw[bJ2 (by omega)]at p
   have M:=zL.getD (i+k)
   have c:=zo (i+k) (.inr (bIK _))
   have u:b%4294967296=b:=bJo (by omega)
   simp (disch:=first|rfl|omega)only[S1,aN,zB,reduceCtorEq,e0,w,A,D,E,sn,so,g1,u,bB0]
   refine⟨_,rfl,fun j f=> ?_,_,(zs.getD (i+k) 0+b)/4294967296,rfl,jO zL (bJa _ (by decide)),by rw[bJX,zl],fun t N=> ?_, ?_⟩
   ·rw[show(j==g)=false by simpa using f];exact sk j f
   ·rw[getD_set_ne (by omega)];exact zo t (by omega)
   ·rw[aF3 (by omega),xA,←c,bJ1]
    have h0:=aL9 (y:=0) (z:=zs.getD (i+k) 0) (Y:=val ys) p
    rw[bJD,bKK,bJD,bJW b]at h0
    rw[h0]
end
end Go.Proofs.YtmjoaipkaddkbaaGreatDoor.Ev
namespace Go.Proofs.YtmjoaipkaddkbaaGreatDoor
section
theorem aZP{x y d b p q:Nat}(hx:x<4294967296)(J:y<4294967296)(K:d<4294967296)(O:b<4294967296)(c:p=y*d+b)(hq:q=if x<p%4294967296 then 1 else 0):
  p<18446744073709551616/\p/4294967296+q<4294967296/\(x+4294967296*q-p%4294967296)+p=x+4294967296*(p/4294967296+q)/\x+4294967296*q-p%4294967296<4294967296:=by
 have h1:y*d<=4294967295*4294967295:=bKl (by omega) (by omega)
 have h2:p<=4294967295*4294967296:=by omega
 split at hq
 ·subst hq;refine⟨by omega, ?_,by omega,by omega⟩
  omega
 ·subst hq;refine⟨by omega,by omega,by omega,by omega⟩
theorem aYF{P Y X d b o x y p b' BK:Nat}(h5:P+d*Y=X+BK*b)(c:p=y*d+b)(hs:o+p=x+4294967296*b'):P+BK*o+d*(Y+BK*y)=X+BK*x+BK*4294967296*b':=by
 have C:d*(Y+BK*y)=d*Y+BK*(y*d):=by rw[bJ6,bLN,bIX d y]
 have l:=congrArg (BK* ·) hs
 simp only[bJ6,c]at l
 rw[C,bJ5]
 omega
theorem aMA{x p q:Nat}(hx:x<4294967296)(c:p<4294967296)(hq:q=if x<p then 1 else 0):(x+18446744073709551616-p)%18446744073709551616%4294967296=x+4294967296*q-p/\(x+18446744073709551616-p)%18446744073709551616/2^63=q:=by
 rw[show(2:Nat)^63=9223372036854775808 from rfl]
 split at hq
 all_goals
  subst hq
  omega
end
end Go.Proofs.YtmjoaipkaddkbaaGreatDoor
namespace Go.Proofs.YtmjoaipkaddkbaaGreatDoor.Ev
section
variable {m:Nat}
theorem aV7:bQ PG 247 f247 [6,16] []=true:=by kernel_rfl
theorem aVi{xs ys ys0:List Nat}{g g2 i n d:Nat}{s:VS}{orc:cN}(hg:g<s.nxt)(Q:s.ob g=⟨0,xs.map wc⟩)(S:g2<s.nxt)(E:s.ob g2=⟨0,ys0.map wc⟩)(F:g2≠g)(r:ys0.take n=ys)(T:bC xs)(U:bC ys)(hn:ys.length=n)(hi:i+(n+1)<=xs.length)(O:xs.length<9000000)(K:d<4294967296):∃R s1,fH PG cC orc lA 247 [.ow g i (n+1) 1,.ow g2 0 n 1,.int .u64 (d:Nat)] s=some (R,s1)/\s1.nxt=s.nxt/\(∀j,j≠g->s1.ob j=s.ob j)/\∃(zs:List Nat) (q:Nat),R= .b (decide (q=1))/\q<=1/\s1.ob g=⟨0,zs.map wc⟩/\bC zs/\zs.length=xs.length/\(∀t,(t<i\/i+(n+1)<=t)->zs.getD t 0=xs.getD t 0)/\val (part zs i (n+1))+d*val ys=val (part xs i (n+1))+4294967296^(n+1)*q:=by
 have sh63:∀x:Nat,bX (fM PG 103) .shr (.int .u64 (x:Int)) (.int .u64 ((63:Nat):Int))=some (.int .u64 ((x/2^63:Nat):Int)):=fun x=>xJ (by decide)
 have V:n<=ys0.length:=by rw[←r,bIW]at hn;omega
 have f:∀k,k<n->ys0.getD k 0=ys.getD k 0:=fun k L=>by rw[←r,getD_take L]
 refine aBJ (n:=7) rfl func247 aV7 rfl ?_
 simp only[f247,N1,bD,bJ,bM,bL,bH,zB,zG]
 simp (disch:=first|rfl|omega)only[S1,aH,aN,aC,aE,aM,aJ,zB,zD]
 refine .up (fun k e s1=>s1.nxt=s.nxt/\(∀j,j≠g->s1.ob j=s.ob j)/\∃(b:Nat) (zs:List Nat),s1.ob g=⟨0,zs.map wc⟩/\e 0=some (.ow g i (n+1) 1)/\e 1=some (.ow g2 0 n 1)/\e 2=some (.int .u64 (d:Nat))/\e 7=some (.int .u64 (b:Nat))/\e 13=some (.ow g2 0 n 1)/\e 14=some (.int .i64 (n:Nat))/\e 15=some (.int .i64 (k:Nat))/\b<4294967296/\bC zs/\zs.length=xs.length/\(∀t,(t<i\/i+k<=t)->zs.getD t 0=xs.getD t 0)/\val (part zs i k)+d*val (ys.take k)=val (part xs i k)+4294967296^k*b) n ?_ (dC (by omega)) ?_
 ·refine⟨rfl,fun _ _=>rfl,0,xs,Q, ?_, ?_, ?_, ?_, ?_, ?_, ?_,by decide,T,rfl,fun _ _=>rfl, ?_⟩<;>first|(simp (disch:=first|rfl|omega)only[S1,zB];done)|simp [val,part]
 ·rintro k e s1 L ⟨sn,sk,b,zs,so,e0,C,l,M,u,v,w,z,zL,zl,zo,N⟩
  by_cases hc:k<n
  ·have g1:decide (k<n)=true:=decide_eq_true hc
   have so2:=(sk g2 F).trans E
   have sn2:g2<s1.nxt:=by omega
   have f:=f k hc
   have D:=zL.getD (i+k)
   have J:=U.getD k
   have h:=zo (i+k) (.inr (bIK _))
   obtain⟨p,c⟩:∃p,p=ys.getD k 0*d+b:=⟨_,rfl⟩
   obtain⟨q,hq⟩:∃q,q=if zs.getD (i+k) 0<p%4294967296 then 1 else 0:=⟨_,rfl⟩
   obtain⟨t1,t2,t3,t4⟩:=aZP D J K z c hq
   obtain⟨G,H⟩:=aMA D (bJa p (by decide)) hq
   have W:ys.getD k 0*d<18446744073709551616:=by omega
   have Z:ys.getD k 0*d+b<18446744073709551616:=by omega
   have a:=aBS (et:=fM PG 103) (x:=zs.getD (i+k) 0) (y:=p%4294967296) (by omega) (by omega)
   simp (disch:=first|rfl|omega)only[S1,aC,aE,aM,aJ,zB,reduceCtorEq,e0,C,l,M,u,v,w,sn,so,so2,g1,f,←c,a,sh63,G,H]
   refine⟨hc,fun j A=> ?_,_,_,rfl,rfl,t2,jO zL t4,by rw[bJX,zl],fun t ht=> ?_, ?_⟩
   ·rw[show(j==g)=false by simpa using A];exact sk j A
   ·rw[getD_set_ne (by omega)];exact zo t (by omega)
   ·rw[aF3 (by omega),xA,nT,←h,bJ1]
    exact aYF N c t3
  ·have g1:decide (k<n)=false:=decide_eq_false hc
   obtain rfl:k=n:=by omega
   rw[bJ2 (by omega)]at N
   have D:=zL.getD (i+k)
   have h:=zo (i+k) (.inr (bIK _))
   obtain⟨q,hq⟩:∃q,q=if zs.getD (i+k) 0<b then 1 else 0:=⟨_,rfl⟩
   obtain⟨G,H⟩:=aMA D z hq
   have a:=aBS (et:=fM PG 103) (x:=zs.getD (i+k) 0) (y:=b) (by omega) (by omega)
   have I:q<=1:=by rw[hq];split<;>omega
   have B:zs.getD (i+k) 0+4294967296*q-b<4294967296/\zs.getD (i+k) 0+4294967296*q-b+b=zs.getD (i+k) 0+4294967296*q:=by
    split at hq<;>subst hq<;>omega
   simp (disch:=first|rfl|omega)only[S1,aN,aC,aE,aM,aJ,zB,reduceCtorEq,e0,C,M,v,w,sn,so,g1,a,sh63,G,H]
   refine⟨_,rfl,fun j A=> ?_,_,q,rfl,I,rfl,jO zL B.1,by rw[bJX,zl],fun t ht=> ?_, ?_⟩
   ·rw[show(j==g)=false by simpa using A];exact sk j A
   ·rw[getD_set_ne (by omega)];exact zo t (by omega)
   ·rw[aF3 (by omega),xA,←h,bJ1]
    have l:=congrArg (4294967296^k* ·) B.2
    simp only[bJ6]at l
    rw[bJ5]
    omega
end
end Go.Proofs.YtmjoaipkaddkbaaGreatDoor.Ev
namespace Go.Proofs.YtmjoaipkaddkbaaGreatDoor
section
theorem aV8{us xs:List Nat}{j k:Nat}(I:val (xs.drop j)<4294967296^k)(hs:∀t,j+k<=t->us.getD t 0=xs.getD t 0):val (us.drop j)=val (part us j k):=by
 apply aI3
 intro t
 unfold part
 by_cases J:t<k
 ·rw[getD_take J]
 ·rw[uK,hs _ (by omega),←uK,aHh I (by omega),qF (by rw[bIW];omega)]
theorem aV3{us xs:List Nat}{j:Nat}(K:us.length=xs.length)(hs:∀t,t<j->us.getD t 0=xs.getD t 0):us.take j=xs.take j:=by
 apply aF1 (by rw[bIW,bIW,K])
 intro t v
 rw[bIW]at v
 rw[getD_take (by omega),getD_take (by omega)]
 exact hs t (by omega)
structure vU(U V B q t h n x:Nat):Prop where
 hB:0<B
 hq:q*V<=U
 hq':U<(q+1)*V
 hqs:q<4294967296
 hh:2147483648<=h
 hh':h<4294967296
 hn:n<4294967296
 hx:x<4294967296
 hU:U/B=x+4294967296*t
 hV:(n+4294967296*h)*B<=V
 hV':V<(n+4294967296*h+1)*B
 hUV:t<(h+1)*4294967296
theorem vU.first{U V B q t h n x:Nat}(g:vU U V B q t h n x):q<=t/h/\t/h<=4294967297/\h*(t/h)+t%h=t/\t%h<4294967296:=by
 have hh:=g.hh
 have h1:U/(4294967296*B)=t:=by
  rw[bIX,←Nat.div_div_eq_div_mul,g.hU]
  have:=g.hx
  omega
 have h2:h*(4294967296*B)<=V:=by
  refine bIO ?_ g.hV
  rw[←bJ5]
  exact bJ8 _ (by omega)
 refine⟨aLq h1 h2 (bJH (by omega) g.hB) (by omega) g.hq, ?_,bK4 t h,bJR (bJa t (by omega)) g.hh'⟩
 have i:=g.hUV
 have u:=g.hh'
 rw[bJp,bKQ]at i
 have G:t<4294967298*h:=by omega
 have:=bKJ (by rw[bIX]at G;exact G)
 omega
theorem vU.great{U V B q t h n x d r:Nat}(g:vU U V B q t h n x)(e:h*d+r=t)(hc:x+4294967296*r<d*n):q<d:=by
 refine aUK g.hU g.hV g.hB g.hq ?_
 rw[←e,bJ6 d,bJ6 4294967296,bLN d,bIX d h]
 omega
theorem vU.near{U V B q t h n x d r:Nat}(g:vU U V B q t h n x)(e:h*d+r=t)(m:d<4294967296)(w:q<=d)(hc:d*n<=x+4294967296*r):d=q\/d=q+1:=by
 have h1:d*(n+4294967296*h)<=x+4294967296*t:=by
  rw[←e,bJ6 d,bJ6 4294967296,bLN d,bIX d h]
  omega
 have h2:(x+4294967296*t)*B<=U:=by rw[←g.hU];exact bLf _ _
 have i:d*B<=4294967296*B:=bJ8 _ (by omega)
 have u:4294967296*B<=V:=bIO (bJ8 _ (by have:=g.hh;omega)) g.hV
 have:=aWq h2 g.hV' i u g.hq' h1
 omega
theorem vU.low{U V B q t h n x d r:Nat}(g:vU U V B q t h n x)(e:h*d+r=t)(m:d<=4294967296)(w:q<=d)(S:4294967296<=r):d=q:=by
 have h2:t*(4294967296*B)<=U:=by
  refine bIO ?_ (bLf U B)
  rw[g.hU,←bJ5]
  exact bJ8 _ (by omega)
 have i:V<=(h+1)*(4294967296*B):=by
  refine bIO (bJg g.hV') ?_
  rw[←bJ5]
  exact bJ8 _ (by have:=g.hn;omega)
 have:=aXx h2 i m (by rw[bIX d h];omega) g.hq'
 omega
theorem bBB{xs ys:List Nat}{j p V:Nat}(H:bC xs)(y:bC ys)(L:p+2<=ys.length)(hV:val ys=V)(l:4294967296^(p+1)*2147483648<=V)(o:V<4294967296^(p+2))(hU:val (xs.drop j)<V*4294967296):
  vU (val (xs.drop j)) V (4294967296^p) (val (xs.drop j)/V) (xs.getD (j+p+1) 0+4294967296*xs.getD (j+p+2) 0) (ys.getD (p+1) 0) (ys.getD p 0) (xs.getD (j+p) 0):=by
 have hB:0<4294967296^p:=aCT p
 have z:0<V:=bIP (bJH (aCT (p+1)) (by omega)) l
 have eY:V=val (ys.take p)+4294967296^p*(ys.getD p 0+4294967296*ys.getD (p+1) 0):=by
  have h1:val (ys.take (p+2))=val ys:=aCA (by rw[hV];exact o)
  rw[←hV,←h1,nT,nT,bJ1,bJ6,bJ5,bKu]
 have A:val (ys.take p)<4294967296^p:=by
  have:=iY (y.take p)
  rwa [bIW,bJc (by omega)]at this
 have eU:val (xs.drop j)=val (part xs j p)+4294967296^p*(xs.getD (j+p) 0+4294967296*(xs.getD (j+p+1) 0+4294967296*xs.getD (j+p+2) 0)):=by
  have h1:val (part xs j (p+3))=val (xs.drop j):=aCA (bIP hU (by rw[bJ1];exact bJ8 _ (bJg o)))
  rw[←h1,xA,xA,xA,bJ1,bJ1]
  rw[show j+(p+2)=j+p+2 by omega,show j+(p+1)=j+p+1 by omega]
  simp only[bJ6,bJ5,bKu]
  rw[bJ1]
  simp only[bJ5]
 have C:val (part xs j p)<4294967296^p:=by
  have h1:=iY (((H.drop j).take p))
  refine bIP h1 (bJ9 (by omega) ?_)
  rw[bIW];omega
 have D:=y.getD (p+1)
 have E:=y.getD p
 have F:=H.getD (j+p)
 generalize val (part xs j p)=a at*
 generalize val (ys.take p)=b at*
 generalize val (xs.drop j)=U at*
 generalize xs.getD (j+p) 0=M at*
 generalize xs.getD (j+p+1) 0=N at*
 generalize xs.getD (j+p+2) 0=O at*
 generalize ys.getD (p+1) 0=h at*
 generalize ys.getD p 0=n at*
 have s:U/4294967296^p=M+4294967296*(N+4294967296*O):=by
  rw[eU,bLM _ _ hB,bKs C,bJl]
 have f:V/4294967296^p=n+4294967296*h:=by
  rw[eY,bLM _ _ hB,bKs A,bJl]
 refine⟨hB,bLf _ _, ?_, ?_, ?_,D,E,F,s, ?_, ?_, ?_⟩
 ·have:=bMk U z
  rwa [bIX]at this
 ·exact bKJ hU
 ·have h1:4294967296*2147483648<=V/4294967296^p:=by
   rw[bKV hB]
   rw[bJ1]at l
   refine bIO (bKx ?_) l
   rw[bIX,bJ5]
  rw[f]at h1
  omega
 ·rw[←f];exact bLf _ _
 ·rw[←f,bIX];exact bMk V hB
 ·have h1:U/4294967296^p<(n+4294967296*h+1)*4294967296:=by
   apply bKJ
   refine bIP hU ?_
   have h2:V<(n+4294967296*h+1)*4294967296^p:=by rw[←f,bIX];exact bMk V hB
   refine bIO (bJ8 4294967296 (bJg h2)) (bKx ?_)
   rw[bIX _ (4294967296^p),bJ5]
  rw[s]at h1
  have i:(n+4294967296*h+1)*4294967296<=4294967296*(4294967296*(h+1)):=by
   rw[bIX];exact bJ7 _ (by omega)
  omega
theorem aZE{P d V U qd:Nat}(h:P+d*V=U)(hq:U/V=qd)(m:d=qd\/d=qd+1)(hV:0<V):d=qd/\P=U%V:=by
 have h1:=bK4 U V
 have h2:=bJa U hV
 rw[hq]at h1
 rcases m with rfl|rfl
 ·refine⟨rfl, ?_⟩
  rw[bIX]at h1;omega
 ·exfalso
  rw[bJp,bKQ,bIX qd]at h;omega
theorem bDg{P P2 c d V U B3 qd:Nat}(h:P+d*V=U+B3)(T:P<B3)(h2:P2+B3*c=P+V)(Q:P2<B3)(R:V<=B3)(hq:U/V=qd)(m:d=qd\/d=qd+1)(hV:0<V):d=qd+1/\P2=U%V:=by
 have h1:=bK4 U V
 have i:=bJa U hV
 rw[hq]at h1
 rcases m with rfl|rfl
 ·exfalso
  rw[bIX]at h1;omega
 ·refine⟨rfl, ?_⟩
  rw[bJp,bKQ,bIX qd]at h
  have u:P2+B3*c=B3+U%V:=by omega
  match c with
  |0=>omega
  |1=>omega
  |c+2=>rw[bJ6]at u;have:0<=B3*c:=bIR _;omega
end
section
theorem bFD{x y s r:Nat}(p:s+r=32)(hx:x<4294967296):(x/2^s)|||(y*2^r%4294967296)=(x+4294967296*y)/2^s%4294967296:=by
 have f:2^s*2^r=4294967296:=by rw[←bK7,p]
 have h0:0<2^s:=bJx (by omega)
 have q:x/2^s<2^r:=bKJ (by rw[f];exact hx)
 have E:(x+4294967296*y)/2^s=x/2^s+2^r*y:=by
  rw[←f,bJ5,bLM _ _ h0]
 have F:y*2^r%4294967296=2^r*(y%2^s):=by
  rw[←f,bIX (2^s) (2^r),bIX y,Nat.mul_mod_mul_left]
 have g:(x/2^s+2^r*y)%4294967296=x/2^s+2^r*(y%2^s):=by
  have h1:=bK4 y (2^s)
  have h2:2^r*(y%2^s)+2^r<=4294967296:=by
   have t:y%2^s+1<=2^s:=bJa _ h0
   have l:=bJ7 (2^r) t
   rw[bJ6,bJn,bIX (2^r) (2^s),f]at l
   exact l
  have G:2^r*y=4294967296*(y/2^s)+2^r*(y%2^s):=by
   conv=>lhs;rw[←h1]
   rw[bJ6,←bJ5,bIX (2^r) (2^s),f]
  rw[G]
  generalize 2^r*(y%2^s)=u at*
  generalize x/2^s=v at*
  generalize 2^r=P at*
  omega
 rw[E,F,g,Nat.or_comm,←Nat.two_pow_add_eq_or_of_lt q,bJW]
theorem aZ2{y r:Nat}(H:r<=32)(K:y<4294967296):y*2^r<18446744073709551616:=by
 have h1:2^r<=2^32:=bJ9 (by decide) H
 have h2:y*2^r<=4294967295*2^32:=bKl (by omega) h1
 omega
end
end Go.Proofs.YtmjoaipkaddkbaaGreatDoor
namespace Go.Proofs.YtmjoaipkaddkbaaGreatDoor.Ev
section
variable {m:Nat}
theorem aBH{et:fO}{k:bQc}{x n:Nat}(h:n<=32):bX et .shr (.int .u32 (x:Int)) (.int k (n:Int))=some (.int .u32 ((x/2^n:Nat):Int)):=by
 simp only[bX]
 rw[if_pos ⟨by omega,by omega⟩]
 simp only[qM,qM.bitsN',Int.toNat_natCast,bJc h]
theorem bDJ:bQ PG 249 f249 [4,28] []=true:=by kernel_rfl
theorem bGW{xs:List Nat}{sh:Nat}(C:xs.length<9000000)(lx:bC xs)(hs:sh<32):VX (m+1) 249 [tW xs,.int .i64 (sh:Nat)]=some (.tp [tW (nH sh xs)],true):=by
 refine bY rfl func249 bDJ rfl ?_
 simp only[f249,N1,bD,bJ,bM,bL,bH,zB,zG]
 simp (disch:=first|rfl|omega)only[S1,aN,aC,aE,aM,aJ,zB,zD]
 refine .up (fun k e s=>∃zs:List Nat,s.nxt=1/\s.ob 0=⟨0,zs.map wc⟩/\e 0=some (tW xs)/\e 1=some (.int .i64 (sh:Nat))/\e 5=some (.ow 0 0 xs.length 1)/\e 11=some (tW xs)/\e 12=some (.int .i64 (xs.length:Nat))/\e 13=some (.int .i64 (k:Nat))/\zs.length=xs.length/\(∀j,j<k->zs.getD j 0=qN xs sh j)) xs.length ?_ (dC (by omega)) ?_
 ·refine⟨bIQ xs.length 0, ?_⟩
  simp (disch:=first|rfl|omega)only[S1,zB]
  exact fun j D=>absurd D (by omega)
 ·rintro k e s L ⟨zs,sn,so,e0,w,g,a,b,c,zl,z⟩
  by_cases h0:k<xs.length
  ·have g1:decide (k<xs.length)=true:=decide_eq_true h0
   have h1:=lx.getD k
   have h2:=lx.getD (k+1)
   cases o:decide (k+1<xs.length)
   ·have t:=of_decide_eq_false o
    have l:xs.getD k 0/2^sh=qN xs sh k:=by
     rw[qN,show xs.getD (k+1) 0=0 from qF (by omega),bKK,bJD,bJo (bJe (bKc _ _) h1)]
    simp (disch:=first|rfl|omega)only[S1,aN,aC,aE,aM,aJ,zB,zG,e0,w,g,a,b,c,sn,so,g1,o,aBH (n:=sh)]
    exact⟨h0,_,rfl,by simp [zl],aEM (by omega) z l.symm⟩
   ·have t:=of_decide_eq_true o
    have A:=bFD (x:=xs.getD k 0) (y:=xs.getD (k+1) 0) (s:=sh) (r:=32-sh) (by omega) h1
    have B:=aZ2 (y:=xs.getD (k+1) 0) (r:=32-sh) (by omega) h2
    have I:xs.getD k 0/2^sh<4294967296:=bJe (bKc _ _) h1
    have J:xs.getD (k+1) 0*2^(32-sh)%4294967296<4294967296:=bJa _ (by decide)
    have d:(zs.set k (xs.getD k 0/2^sh)).getD k 0=xs.getD k 0/2^sh:=YtmjoaipkaddkbaaGreatDoor.uJ (by omega) _
    have i:(zs.set k (xs.getD k 0/2^sh)).length=xs.length:=by rw[bJX,zl]
    simp (disch:=first|rfl|omega)only[S1,aN,aC,aE,aM,aJ,zB,reduceCtorEq,zG,e0,w,g,a,b,c,sn,so,g1,o,aBH (n:=sh),xK (n:=32-sh),d,i,A]
    refine⟨h0,_,rfl,by rw[bJX,i], ?_⟩
    rw[List.set_set]
    exact aEM (by omega) z rfl
  ·have g1:decide (k<xs.length)=false:=decide_eq_false h0
   obtain rfl:k=xs.length:=by omega
   have e:zs=nH sh xs:=aF1 (by rw[zl,aHn]) fun j D=>by rw[z j (by omega),aM0 sh xs j (by omega)]
   simp (disch:=first|rfl|omega)only[S1,zB,reduceCtorEq,g,b,c,g1]
   rw[aFD (by omega) so (by omega),bJd,bJ2 (by omega),e]
theorem bGv{xs:List Nat}{sh:Nat}(C:xs.length<9000000)(lx:bC xs)(hs:sh<32):CC (VX (m+1)) 249 [tW xs,.int .i64 (sh:Nat)] (tW (nH sh xs)):= .fr (aJM _ _ _) (by simp only[bW,fJ,dA];decide) (bGW C lx hs)
end
section
variable {m:Nat}
def blF:Nat->Nat->Nat
 |0,_=>0
 |f+1,x=>if x=0 then 0 else blF f (x/2)+1
theorem aRX:∀(f x:Nat),x<2^f->blF f x=blen x
 |0,x,h=>by
  have:x=0:=by simp at h;exact h
  rw[this,aBk];rfl
 |f+1,x,h=>by
  unfold blF
  split
  ·next h0=>rw[h0,aBk]
  ·next h0=>rw[aAa h0,aRX f (x/2) (by rw[bJ1]at h;omega)]
def aU0:ByteArray:={ data:=(([0,1,2,2,3,3,3,3,4,4,4,4,4,4,4,4,5,5,5,5,5,5,5,5,5,5,5,5,5,5,5,5,6,6,6,6,6,6,6,6,6,6,6,6,6,6,6,6,6,6,6,6,6,6,6,6,6,6,6,6,6,6,6,6].append [7,7,7,7,7,7,7,7,7,7,7,7,7,7,7,7,7,7,7,7,7,7,7,7,7,7,7,7,7,7,7,7,7,7,7,7,7,7,7,7,7,7,7,7,7,7,7,7,7,7,7,7,7,7,7,7,7,7,7,7,7,7,7,7]).append ([8,8,8,8,8,8,8,8,8,8,8,8,8,8,8,8,8,8,8,8,8,8,8,8,8,8,8,8,8,8,8,8,8,8,8,8,8,8,8,8,8,8,8,8,8,8,8,8,8,8,8,8,8,8,8,8,8,8,8,8,8,8,8,8].append [8,8,8,8,8,8,8,8,8,8,8,8,8,8,8,8,8,8,8,8,8,8,8,8,8,8,8,8,8,8,8,8,8,8,8,8,8,8,8,8,8,8,8,8,8,8,8,8,8,8,8,8,8,8,8,8,8,8,8,8,8,8,8,8])).toArray }
theorem bAO:((List.range 256).all fun j=>tH aU0 j==some (blF 8 j))=true:=by kernel_rfl
theorem bBZ{j:Nat}(h:j<256):tH aU0 j=some (blen j):=by
 have:=bJt.1 bAO j (List.mem_range.2 h)
 rw[←aRX 8 j h]
 exact eq_of_beq this
theorem aF4{j:Nat}(h:j<256):tH { data:=(([0,1,2,2,3,3,3,3,4,4,4,4,4,4,4,4,5,5,5,5,5,5,5,5,5,5,5,5,5,5,5,5,6,6,6,6,6,6,6,6,6,6,6,6,6,6,6,6,6,6,6,6,6,6,6,6,6,6,6,6,6,6,6,6].append [7,7,7,7,7,7,7,7,7,7,7,7,7,7,7,7,7,7,7,7,7,7,7,7,7,7,7,7,7,7,7,7,7,7,7,7,7,7,7,7,7,7,7,7,7,7,7,7,7,7,7,7,7,7,7,7,7,7,7,7,7,7,7,7]).append ([8,8,8,8,8,8,8,8,8,8,8,8,8,8,8,8,8,8,8,8,8,8,8,8,8,8,8,8,8,8,8,8,8,8,8,8,8,8,8,8,8,8,8,8,8,8,8,8,8,8,8,8,8,8,8,8,8,8,8,8,8,8,8,8].append [8,8,8,8,8,8,8,8,8,8,8,8,8,8,8,8,8,8,8,8,8,8,8,8,8,8,8,8,8,8,8,8,8,8,8,8,8,8,8,8,8,8,8,8,8,8,8,8,8,8,8,8,8,8,8,8,8,8,8,8,8,8,8,8])).toArray } j=some (blen j):=bBZ h
theorem n8:oE PG 100 5=some .u8:=by kernel_rfl
theorem n8i:oE PG 5 3=some .i64:=by kernel_rfl
theorem aDY:nC PG 9=true:=by kernel_rfl
theorem aDb{x:Nat}:IntKind.u8.wrap (x:Int)=((x%256:Nat):Int):=by
 have i:(2^IntKind.u8.bits:Int)=256:=rfl
 unfold IntKind.wrap
 simp only[i,IntKind.signed,bKI,Bool.false_eq_true,if_false]
 omega
theorem aFu:∀(k:Nat) {x:Nat},2^k<=x->blen x=blen (x/2^k)+k
 |0,x,_=>by simp
 |k+1,x,h=>by
  have h1:2^k*2<=x:=h
  have h2:0<2^k:=bJx (by decide)
  have o:2<=x/2^k:=(bKV h2).2 (by rw[bIX];exact h1)
  rw[aFu k (by omega),aAa (show x/2^k≠0 by omega),Nat.div_div_eq_div_mul,bJ1]
  omega
theorem bBu:bQ PG 288 f288 [2] []=true:=by kernel_rfl
theorem bDc{x:Nat}(hx:x<4294967296):VX (m+1) 288 [.int .u32 (x:Nat)]=some (.int .i64 (blen x:Nat),false):=by
 refine bY rfl func288 bBu rfl ?_
 simp only[f288,N1,bD,bJ,bM,bL,bH,zB,zG]
 have l:blen x<33:=by have:=aBP (k:=32) hx;omega
 cases b:decide (65536<=x)
 ·have h1:=of_decide_eq_false b
  cases hB:decide (256<=x)
  ·have h2:=of_decide_eq_false hB
   have a:x%256=x:=bJo (by omega)
   simp (disch:=first|rfl|omega)only[S1,aC,aE,aM,aJ,zB,reduceCtorEq,b,hB,n8,n8i,aDY,aDb,a,aF4 (j:=x) (by omega)]
  ·have h2:=of_decide_eq_true hB
   have a:x/2^8%256=x/2^8:=bJo (by omega)
   have d:=aFu 8 h2
   have c:x/2^8<256:=by omega
   simp (disch:=first|rfl|omega)only[S1,aC,aE,aM,aJ,zB,reduceCtorEq,b,hB,n8,n8i,aDY,aDb,aBH (n:=8),a,aF4 (j:=x/2^8) c]
   rw[d,bJW]
 ·have h1:=of_decide_eq_true b
  have d:=aFu 16 h1
  have p:x/2^16<65536:=by omega
  have g:blen (x/2^16)<33:=by omega
  rw[d]
  cases hB:decide (256<=x/2^16)
  ·have h2:=of_decide_eq_false hB
   have a:x/2^16%256=x/2^16:=bJo (by omega)
   have c:x/2^16<256:=by omega
   simp (disch:=first|rfl|omega)only[S1,aC,aE,aM,aJ,zB,reduceCtorEq,b,hB,n8,n8i,aDY,aDb,aBH (n:=16),a,aF4 (j:=x/2^16) c]
   rw[bJW]
  ·have h2:=of_decide_eq_true hB
   have a:x/2^16/2^8%256=x/2^16/2^8:=bJo (by omega)
   have e:=aFu 8 h2
   have c:x/2^16/2^8<256:=by omega
   simp (disch:=first|rfl|omega)only[S1,aC,aE,aM,aJ,zB,reduceCtorEq,zD,b,hB,n8,n8i,aDY,aDb,aBH (n:=16),aBH (n:=8),a,aF4 (j:=x/2^16/2^8) c]
   rw[e]
   exact congrArg (fun n:Nat=>TV.int .i64 (n:Int)) (by omega)
theorem bDj{x:Nat}(hx:x<4294967296):CC (VX (m+1)) 288 [.int .u32 (x:Nat)] (.int .i64 (blen x:Nat)):= .of (xT _ _) (aAy _ _) (bDc hx)
theorem bCS:bQ PG 245 f245 [2] []=true:=by kernel_rfl
theorem bGh{x:Nat}(hx:x<4294967296):VX (m+2) 245 [.int .u32 (x:Nat)]=some (.int .i64 ((32-blen x:Nat):Int),false):=by
 have c1:=bDj (m:=m) hx
 have l:=aBP (k:=32) hx
 refine bY rfl func245 bCS rfl ?_
 simp only[f245,N1,bD,bJ,bM,bL,bH,zB,zG]
 simp (disch:=first|rfl|omega)only[S1,aC,aE,aM,aJ,zB,reduceCtorEq,vJ 288 rfl,c1 _]
theorem bFg{x:Nat}(hx:x<4294967296):CC (VX (m+2)) 245 [.int .u32 (x:Nat)] (.int .i64 ((32-blen x:Nat):Int)):= .of (xT _ _) (aAy _ _) (bGh hx)
end
end Go.Proofs.YtmjoaipkaddkbaaGreatDoor.Ev