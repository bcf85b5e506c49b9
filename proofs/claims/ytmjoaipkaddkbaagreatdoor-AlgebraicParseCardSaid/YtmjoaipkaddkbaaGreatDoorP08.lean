/- Part of a proof. -/
import Derived.Lib.ItoaNum
import Derived.Test.YtmjoaipkaddkbaaGreatDoorP07
import Derived.Lib.AtoiAll
import Derived.Laws.BytesArg
import Derived.Deep.LoopGhost
import Derived.Deep.Upon
import Derived.Deep.Cut
noncomputable section
open Int renaming natAbs_natCast→bMR
open List renaming append_assoc→bKH,append_nil→bKQ,count_append→bMU,count_cons_self→bNr,foldl_cons→bLN,isPrefixOf_iff_prefix→bNq,length_append→bJW,length_cons→bJN,length_drop→bK3,length_map→bKo,map_cons→bKc,mem_append→bKy,mem_cons→bJZ,mem_cons_of_mem→bKx,mem_cons_self→bKn,mem_map→bKP,mem_singleton→bKF
open Nat renaming le_refl→bJE,lt_of_lt_of_le→bJK,mod_eq_of_lt→bKg,mul_assoc→bK1,mul_comm→bJR,pow_succ→bJX,strongRecOn→bLp,zero_add→bKi,zero_le→bJJ
open Go renaming Value→bR4
set_option maxRecDepth 10000000
open Go
open Go.Proofs.Tryz
open Go.Lib renaming decDigits→cm,nDigits→cn,nDigits_small→cq,nDigits_big→cr,decDigits_length→ct,trimPrefix→cg,hasPrefix→ce,cut→cu,index→bt,atoiAll→cw,hid→br
namespace Go.Proofs.YtmjoaipkaddkbaaGreatDoor
def nW(d:Nat):UInt8:=UInt8.ofNat (48+d)
def aBc:Nat->Nat->List UInt8
 |0,_=>[]
 |k+1,c=>aBc k (c/10)++[nW (c%10)]
theorem aAy{u:Nat}(h:¬u<10):cm u=cm (u/10)++[nW (u%10)]:=by
 rw[cm,dif_neg h];rfl
theorem oA{u:Nat}(h:u<10):cm u=[nW u]:=Lib.decDigits_one h
theorem aTd:∀(k h c:Nat),0<h->c<10^k->cm (h*10^k+c)=cm h++aBc k c
 |0,h,c,_,hc=>by
  obtain rfl:c=0:=by simpa using hc
  simp [aBc]
 |k+1,h,c,h0,hc=>by
  have j:0<10^k:=Nat.pow_pos (by decide)
  have e:h*10^(k+1)=10*(h*10^k):=by rw[bJX,←bK1,bJR]
  have h1:1<=h*10^k:=Nat.mul_pos h0 j
  have g:c/10<10^k:=by rw[bJX]at hc;omega
  rw[aAy (by omega),show(h*10^(k+1)+c)/10=h*10^k+c/10 by omega,show(h*10^(k+1)+c)%10=c%10 by omega,aTd k h (c/10) h0 g,bKH]
  rfl
theorem aRn:∀(k c:Nat),c<10^(k+1)->aBc (k+1) c=List.replicate (k+1-cn c) 48++cm c
 |0,c,hc=>by
  have i:c<10:=by simpa using hc
  rw[cq i,oA i]
  simp [aBc,bKg i]
 | k+1,c,hc=>by
  have g:c/10<10^(k+1):=by rw[bJX]at hc;omega
  rw[aBc,aRn k (c/10) g]
  by_cases h:c<10
  ·rw[Nat.div_eq_of_lt h,cq (show 0<10 by decide),cq h,oA (show 0<10 by decide),oA h,bKg h,show k+1-1=k by omega,show k+1+1-1=k+1 by omega,List.replicate_succ']
   rfl
  ·rw[cr h,aAy h,bKH,show k+1+1-(cn (c/10)+1)=k+1-cn (c/10) by omega]
theorem aDN{d:Nat}(h:d<10):(nW d).toNat=48+d:=by
 unfold nW
 rw[UInt8.toNat_ofNat']
 exact bKg (by omega)
theorem aDj:∀(u:Nat),∀b∈cm u,48<=b.toNat/\b.toNat<=57:=by
 intro u
 induction u using bLp with
 | ind u ih=>
  intro b f
  by_cases h:u<10
  ·rw[oA h,bKF]at f
   subst f
   rw[aDN h];omega
  ·rw[aAy h,bKy,bKF]at f
   rcases f with f|rfl
   ·exact ih _ (by omega) b f
   ·rw[aDN (by omega)];omega
def fL(l:List UInt8):Nat:=l.foldl (fun a b=>10*a+(b.toNat-48)) 0
theorem yE(u:Nat):fL (cm u)=u:=by
 induction u using bLp with
 | ind u ih=>
  by_cases h:u<10
  ·rw[oA h]
   show 10*0+((nW u).toNat-48)=u
   rw[aDN h];omega
  ·have e:=ih (u/10) (by omega)
   unfold fL at e ⊢
   rw[aAy h,List.foldl_append,e]
   show 10*(u/10)+((nW (u%10)).toNat-48)=u
   rw[aDN (by omega)];omega
theorem aE0(u:Nat):cm u≠ []:=by
 intro e
 have h:=ct u
 have:=Lib.nDigits_pos u
 rw[e]at h
 simp at h;omega
theorem bBd(u:Nat)(h0:u≠0):(cm u).head? ≠some 48:=by
 induction u using bLp with
 | ind u ih=>
  by_cases h:u<10
  ·rw[oA h]
   intro e
   have m:nW u=48:=Option.some.inj e
   have n:=congrArg UInt8.toNat m
   rw[aDN h]at n
   have:(48:UInt8).toNat=48:=rfl
   omega
  ·rw[aAy h,List.head?_append]
   cases q:(cm (u/10)).head? with
   |none=>exact absurd (List.head?_eq_none_iff.1 q) (aE0 _)
   |some b=>
    have:=ih (u/10) (by omega) (by omega)
    rw[q]at this
    exact this
theorem aIC:∀(b:List UInt8) (a:Nat),b.foldl (fun a b=>10*a+(b.toNat-48)) a=a*10^b.length+fL b
 | [],a=>by simp [fL]
 | x::b,a=>by
  unfold fL
  rw[bLN,bLN,aIC b,aIC b (10*0+(x.toNat-48)),bJN,bJX]
  have e:(10*a+(x.toNat-48))*10^b.length=a*(10^b.length*10)+(x.toNat-48)*10^b.length:=by
   rw[Nat.add_mul,bJR 10 a,bK1,bJR 10 (10^b.length)]
  have n:(10*0+(x.toNat-48))*10^b.length=(x.toNat-48)*10^b.length:=by rw[Nat.mul_zero,bKi]
  rw[e,n]
  omega
theorem aHV(a b:List UInt8):fL (a++b)=fL a*10^b.length+fL b:=by
 show(a++b).foldl _ 0=_
 rw[List.foldl_append,aIC b];rfl
theorem aIe(a:List UInt8)(x:UInt8):fL (a++[x])=10*fL a+(x.toNat-48):=by
 rw[aHV]
 show fL a*10^1+(10*0+(x.toNat-48))=_
 omega
theorem yF:∀(l:List UInt8),(∀b∈l,b.toNat<=57)->fL l<10^l.length
 | [],_=>by decide
 |x::l,h=>by
  have e:=aHV [x] l
  have ih:=yF l (fun b f=>h b (bKx _ f))
  have hx:=h x bKn
  rw[List.singleton_append]at e
  rw[e,bJN,bJX]
  have m:fL [x]=x.toNat-48:=by show 10*0+(x.toNat-48)=_;omega
  have h1:(x.toNat-48)*10^l.length<=9*10^l.length:=Nat.mul_le_mul_right _ (by omega)
  rw[m]
  omega
def vW:List Nat->List UInt8
 | []=>[]
 | [c]=>cm c
 |c::d::cs=>vW (d::cs)++aBc 9 c
def mU:List Nat->Nat
 | []=>0
 |c::cs=>c+1000000000*mU cs
theorem aMM:∀(cs:List Nat),(∀c∈cs,c<1000000000)->(∀h:cs≠ [],cs.getLast h≠0)->cs≠ []->vW cs=cm (mU cs)/\0<mU cs
 | [],_,_,h=>absurd rfl h
 | [c],_,o,h=>⟨by simp [vW,mU],by
   have:=o h
   simp [mU]at this ⊢;omega⟩
 | c::d::cs,hc,o,h=>by
  obtain⟨e,j⟩:=aMM (d::cs) (fun x hx=>hc x (bKx _ hx)) (fun h'=>by have:=o h;rwa [List.getLast_cons h']at this) (by simp)
  have p:=hc c bKn
  constructor
  ·rw[vW,e]
   refine(aTd 9 (mU (d::cs)) c j p).symm.trans (congrArg cm ?_)
   show mU (d::cs)*1000000000+c=c+1000000000*mU (d::cs)
   omega
  ·rw[mU];omega
namespace Ev
def cD(z:Int):List UInt8:=if z<0 then 45::cm z.natAbs else cm z.natAbs
theorem aFO(z:Int):cg (cD z) [45]=cm z.natAbs/\ce (cD z) [45]=decide (z<0):=by
 unfold cD
 by_cases h:z<0
 ·rw[if_pos h,ak h]
  exact⟨aLE [45] (cm z.natAbs),aLF [45] (cm z.natAbs)⟩
 ·rw[if_neg h,ai h]
  have j:ce (cm z.natAbs) [45]=false:=by
   cases hd:cm z.natAbs with
   |nil=>exact absurd hd (aE0 _)
   |cons b l=>
    have hb:=aDj z.natAbs b (by rw[hd];exact bKn)
    unfold ce
    simp only[List.isPrefixOf,Bool.and_true]
    rw[ao]
    intro e
    have:b.toNat=45:=by rw[←e];rfl
    omega
  exact⟨by unfold cg;rw[j];rfl,j⟩
theorem aSt{x:UInt8}(h:48<=x.toNat):nW (x.toNat-48)=x:=by
 unfold nW
 rw[show 48+(x.toNat-48)=x.toNat by omega]
 exact UInt8.ofNat_toNat
theorem aK3:∀(n:Nat) (ds:List UInt8),ds.length=n+1->(∀b∈ds,48<=b.toNat/\b.toNat<=57)->(ds.head? ≠some 48\/n=0)->cm (fL ds)=ds
 | 0,ds,g,m,_=>by
  match ds,g with
  | [x],_=>
   have hx:=m x bKn
   have e:fL [x]=x.toNat-48:=by show 10*0+(x.toNat-48)=_;omega
   rw[e,oA (by omega),aSt hx.1]
 | n+1,ds,g,m,hh=>by
  have h0:ds≠ []:=fun e=>by rw[e]at g;cases g
  obtain⟨l,x,rfl⟩:∃l x,ds=l++[x]:=⟨_,_,(List.dropLast_concat_getLast h0).symm⟩
  have B:l.length=n+1:=by simpa using g
  have hx:=m x (by simp)
  have H:∀b∈l,48<=b.toNat/\b.toNat<=57:=fun b hb=>m b (by simp [hb])
  have hh':l.head? ≠some 48:=by
   rcases hh with h|h
   ·cases l with
    |nil=>cases B
    |cons a l=>simpa using h
   ·cases h
  have ih:=aK3 n l B H (.inl hh')
  have j:0<fL l:=Nat.pos_of_ne_zero fun e=>by
   rw[e,oA (by decide)]at ih
   exact hh' (by rw[←ih];rfl)
  rw[aIe,aAy (by omega),show(10*fL l+(x.toNat-48))/10=fL l by omega,show(10*fL l+(x.toNat-48))%10=x.toNat-48 by omega,ih,aSt hx.1]
def sgZ(n:Bool)(k:Nat):Int:=if n=true then-(k:Int)else k
theorem aQk(w:List UInt8):w=(if ce w [45]=true then 45::cg w [45]else cg w [45]):=by
 unfold cg
 by_cases h:ce w [45]=true
 ·rw[if_pos h,if_pos h]
  unfold ce at h
  rw[bNq]at h
  obtain⟨t,rfl⟩:=h
  rfl
 ·rw[if_neg h,if_neg h]
theorem bF8{w ds:List UInt8}{ng:Bool}(hd:cg w [45]=ds)(hn:ce w [45]=ng)(h0:ds≠ [])(m:∀b∈ds,48<=b.toNat/\b.toNat<=57)(hh:¬(ds.head? =some 48/\(1<ds.length\/ng=true))):w=cD (sgZ ng (fL ds)):=by
 have o:=aQk w
 rw[hd,hn]at o
 obtain⟨n,g⟩:∃n,ds.length=n+1:=⟨ds.length-1,by have:=List.length_pos_iff.2 h0;omega⟩
 cases ng with
 | true=>
  have h1:ds.head? ≠some 48:=fun e=>hh ⟨e,.inr rfl⟩
  have e:=aK3 n ds g m (.inl h1)
  have j:0<fL ds:=Nat.pos_of_ne_zero fun C=>by
   rw[C,oA (by decide)]at e
   exact h1 (by rw[←e];rfl)
  rw[o,if_pos rfl]
  unfold cD sgZ
  rw[if_pos rfl,if_pos (by omega),Int.natAbs_neg,bMR,e]
 | false=>
  have e:=aK3 n ds g m (by
   by_cases h1:ds.head? =some 48
   ·refine .inr ?_
    have:¬1<ds.length:=fun h2=>hh ⟨h1,.inl h2⟩
    omega
   ·exact .inl h1)
  rw[o]
  unfold cD sgZ
  simp only[Bool.false_eq_true,if_false]
  rw[if_neg (by omega),bMR,e]
theorem aFC{a b:Int}(h:cD a=cD b):a=b:=by
 obtain⟨a1,a2⟩:=aFO a
 obtain⟨Q,S⟩:=aFO b
 rw[h]at a1 a2
 have C:a.natAbs=b.natAbs:=by rw[←yE a.natAbs,←a1,Q,yE]
 have E:decide (a<0)=decide (b<0):=by rw[←a2,S]
 have U:a<0↔b<0:=by simpa using E
 omega
def gM(w:List UInt8):Option Int:=open Classical in if h:∃z,w=cD z then some h.choose else none
theorem yB(z:Int):gM (cD z)=some z:=by
 have h:∃y,cD z=cD y:=⟨z,rfl⟩
 unfold gM
 rw[dif_pos h]
 exact congrArg some (aFC h.choose_spec).symm
theorem aBH{w:List UInt8}{z:Int}(h:gM w=some z):w=cD z:=by
 unfold gM at h
 split at h
 ·next h'=>cases h;exact h'.choose_spec
 ·cases h
theorem aDp{w:List UInt8}(h:∀z,w≠cD z):gM w=none:=by
 cases e:gM w with
 |none=>rfl
 |some z=>exact absurd (aBH e) (h z)
theorem bHd{w:List UInt8}(h:gM w=none)(z:Int):w≠cD z:=fun e=>by rw[e,yB]at h;cases h
def eJ:List UInt8:=[97,108,103,101,98,114,97,105,99,32,91]
def gW(zs:List Int)(r:Int):List UInt8:=eJ++cX 32 (zs.map cD)++[93,32]++cm r.toNat
theorem aPJ{c:UInt8}{n:Nat}:∀ws:List (List UInt8),(∀w∈ws,w.length+1<=n)->(cX c ws).length<=n*ws.length
 | [],_=>bJJ _
 | [w],h=>by have:=h w bKn;simp only[cX,List.length_singleton];omega
 |w::v::ws,h=>by
  have h1:=h w bKn
  have h2:=aPJ (c:=c) (v::ws) fun x hx=>h x (bKx _ hx)
  rw[cX,bJW,bJN,bJN (a:=w),Nat.mul_succ]
  omega
theorem aZB{zs:List Int}(h:rS zs)(h2:2<=zs.length)(g:0<zs.getD (zs.length-1) 0)(L:gF (dP zs) (dV (dP zs))=[1]):aAK (dP zs)<=8:=by
 have j:=(aJ8 h h2 g L).all.2
 have M:=fN (dP zs)
 have G:=xY zs
 have Y:=h.1
 unfold aAK yU
 split
 ·omega
 ·have:=aDL (-iW (dP zs)) (iV (dP zs)) (0,0)
  unfold gO
  simp only at this
  omega
theorem aC5{zs:List Int}{r:Int}(h:rS zs)(hv:vz zs r=true):0<=r/\r<8:=by
 unfold vz at hv
 simp only[Bool.and_eq_true,ap]at hv
 obtain⟨⟨⟨⟨⟨h1,h2⟩,A⟩,F⟩,Z⟩,h6⟩:=hv
 have:=aZB h h1 h2 F
 omega
theorem bAF(z:Int)(h:z.natAbs<2^256):(cm z.natAbs).length<=78/\(cD z).length<=79:=by
 have s:∀(k u:Nat),u<10^(k+1)->cn u<=k+1:=by
  intro k
  induction k with
  |zero=>intro u h;rw[cq (by omega)];omega
  | succ k ih=>
   intro u h
   by_cases h1:u<10
   ·rw[cq h1];omega
   ·rw[cr h1]
    have:=ih (u/10) (by rw[bJX]at h;omega)
    omega
 have h1:=s 77 z.natAbs (bJK h (by decide))
 rw[←ct]at h1
 refine⟨h1, ?_⟩
 unfold cD
 split
 ·rw[bJN];omega
 ·omega
theorem aQN{z:Int}{n:Nat}(h:(cD z).length<=n):z.natAbs<10^n:=by
 have h1:=yF (cm z.natAbs) (fun b hb=>(aDj _ b hb).2)
 rw[yE]at h1
 refine bJK h1 (Nat.pow_le_pow_right (by decide) ?_)
 unfold cD at h
 split at h
 ·rw[bJN]at h;omega
 ·exact h
theorem aFV(z:Int):∀b∈cD z,b≠32/\b≠93:=fun b hb=>by
 have hd:=aDj z.natAbs
 unfold cD at hb
 have key:b∈cm z.natAbs->b≠32/\b≠93:=fun h=>by
  have:=hd b h
  refine⟨fun e=> ?_,fun e=> ?_⟩<;>(rw[e]at this;revert this;decide)
 split at hb
 ·rcases bJZ.1 hb with rfl|hb
  ·decide
  ·exact key hb
 ·exact key hb
theorem aPh{c d:UInt8}(hd:d≠c):∀ws:List (List UInt8),(∀w∈ws,∀b∈w,b≠d)->∀b∈cX c ws,b≠d
 | [],_,b,hb=>by cases hb
 | [w],h,b,hb=>h w bKn b hb
 | w::v::ws,h,b,hb=>by
  rw[cX]at hb
  rcases bKy.1 hb with hb|hb
  ·exact h w bKn b hb
  ·rcases bJZ.1 hb with rfl|hb
   ·exact fun e=>hd e.symm
   ·exact aPh hd (v::ws) (fun x hx=>h x (bKx _ hx)) b hb
theorem aS8(c:UInt8):∀J:List UInt8,∃w ws,J=cX c (w::ws)/\(∀v∈w::ws,∀b∈v,b≠c)/\ws.length=J.count c/\∀v∈w::ws,v.length<=J.length
 | []=>⟨[],[],rfl,fun v hv b hb=>(by rw[bKF.1 hv]at hb;cases hb),rfl,fun v hv=>(by rw[bKF.1 hv];exact bJE _)⟩
 | b ::J=>by
  obtain⟨w,ws,h1,h2,A,F⟩:=aS8 c J
  by_cases hb:b=c
  ·subst hb
   refine⟨[],w::ws,by rw[cX,←h1];rfl,fun v hv d hd=> ?_,by rw[bJN,A,bNr],fun v hv=> ?_⟩
   ·rcases bJZ.1 hv with rfl|hv
    ·cases hd
    ·exact h2 v hv d hd
   ·rcases bJZ.1 hv with rfl|hv
    ·exact bJJ _
    ·exact Nat.le_succ_of_le (F v hv)
  ·refine⟨b::w,ws, ?_,fun v hv d hd=> ?_,by rw[A,List.count_cons_of_ne hb],fun v hv=> ?_⟩
   ·rw[h1];cases ws<;>rfl
   ·rcases bJZ.1 hv with rfl|hv
    ·rcases bJZ.1 hd with rfl|hd
     ·exact hb
     ·exact h2 w bKn d hd
    ·exact h2 v (bKx _ hv) d hd
   ·rcases bJZ.1 hv with rfl|hv
    ·exact Nat.succ_le_succ (F w bKn)
    ·exact Nat.le_succ_of_le (F v (bKx _ hv))
theorem aIy{c:UInt8}{w v:List UInt8}{ws vs:List (List UInt8)}(h1:∀u∈w::ws,∀b∈u,b≠c)(h2:∀u∈v::vs,∀b∈u,b≠c)(h:cX c (w::ws)=cX c (v::vs)):w::ws=v::vs:=by
 rw[←aF9 ws w (ws.length+vs.length) h1 (Nat.le_add_right _ _),h,aF9 vs v _ h2 (Nat.le_add_left _ _)]
theorem aLT{c:UInt8}:∀(ws:List (List UInt8)) (w:List UInt8),ws.length<=(cX c (w::ws)).count c
 | [],_=>bJJ _
 |v::ws,w=>by
  have:=aLT (c:=c) ws v
  rw[cX,bMU,bNr,bJN]
  omega
theorem aNA{c:UInt8}:∀ {ws:List (List UInt8)} {w:List UInt8},w∈ws->w.length<=(cX c ws).length
 | [v],w,h=>by simp at h;rw[h];exact bJE _
 |v::u::ws,w,h=>by
  rw[cX,bJW,bJN]
  rcases bJZ.1 h with rfl|h
  ·omega
  ·have:=aNA (c:=c) h;omega
def Form(T:List UInt8)(p:List Int×Int):Prop:=T=gW p.1 p.2/\vz p.1 p.2=true/\rS p.1
theorem aCr{zs:List Int}{r:Int}(h:vz zs r=true):zs≠ []:=fun e=>by rw[e]at h;cases h
theorem aJ4{zs:List Int}{J:List UInt8}(h0:zs≠ [])(I:J=cX 32 (zs.map cD))(g:J.length<=77)(hc:J.count 32<=7):rS zs:=by
 refine⟨?_,fun z G=> ?_⟩
 ·cases zs with
  |nil=>exact absurd rfl h0
  |cons z zs=>
   have:=aLT (c:=32) (zs.map cD) (cD z)
   rw[bKc]at I
   rw[←I,bKo]at this
   rw[bJN];omega
 ·have h1:=aNA (c:=32) (List.mem_map_of_mem (f:=cD) G)
  rw[←I]at h1
  exact bJK (aQN (Nat.le_trans h1 g)) (by decide)
theorem aAp{zs:List Int}{r:Int}:cu (cg (gW zs r) eJ) [93,32]=(cX 32 (zs.map cD),cm r.toNat,true):=by
 unfold gW
 rw[bKH,bKH,aLE]
 exact bGf (t:=[32]) (aPh (by decide) _ fun w o b hb=>by
  obtain⟨z, -,rfl⟩:=bKP.1 o
  exact(aFV z b hb).2)
theorem aD3{zs:List Int}:∀u∈zs.map cD,∀b∈u,b≠32:=fun u V b hb=>by
 obtain⟨z, -,rfl⟩:=bKP.1 V
 exact(aFV z b hb).1
theorem aER:∀ {a b:List Int},a.map cD=b.map cD->a=b
 | [],[],_=>rfl
 | [],_::_,h=>by cases h
 |_::_,[],h=>by cases h
 |x::a,y::b,h=>by
  rw[bKc,bKc]at h
  injection h with h1 h2
  rw[aFC h1,aER h2]
theorem aWN{zs:List Int}{r:Int}{w:List UInt8}{ws:List (List UInt8)}(h0:zs≠ [])(o:∀v∈w::ws,∀b∈v,b≠32)(h:(cu (cg (gW zs r) eJ) [93,32]).1=cX 32 (w::ws)):w::ws=zs.map cD:=by
 rw[aAp]at h
 cases zs with
 |nil=>exact absurd rfl h0
 |cons z zs=>
  rw[bKc]at h ⊢
  exact(aIy (by rw[←bKc];exact aD3) o h).symm
theorem Form.uniq{T:List UInt8}{p q:List Int×Int}(j:Form T p)(hq:Form T q):p=q:=by
 obtain⟨zs,r⟩:=p
 obtain⟨ys,s⟩:=q
 obtain⟨h1,h2,A⟩:=j
 obtain⟨k1,k2,N⟩:=hq
 simp only at h1 h2 A k1 k2 N
 have e:=aAp (zs:=zs) (r:=r)
 rw[←h1,k1,aAp]at e
 injection e with C E
 injection E with E _
 have U:s.toNat=r.toNat:=by rw[←yE s.toNat,E,yE]
 have G:=aCr h2
 have W:=aCr k2
 have r1:=aC5 A h2
 have r2:=aC5 N k2
 have X:ys.map cD=zs.map cD:=by
  cases ys with
  |nil=>exact absurd rfl W
  | cons y ys=>
   cases zs with
   |nil=>exact absurd rfl G
   |cons z zs=>
    rw[bKc,bKc]at C ⊢
    exact aIy (by rw[←bKc];exact aD3) (by rw[←bKc];exact aD3) C
 rw[aER X,show r=s by omega]
theorem aNx{p:List UInt8}(j:p≠ []):∀ {R:List UInt8} {i:Nat},bt R p=(i:Int)->R=R.take i++(p++R.drop (i+p.length))
 | [],i,h=>by
  unfold bt at h
  split at h
  ·next e=>exact absurd (List.isEmpty_iff.1 e) j
  ·omega
 | b::l,i,h=>by
  unfold bt at h
  split at h
  ·next e=>
   obtain rfl:i=0:=by omega
   obtain⟨t,M⟩:=bNq.1 e
   rw[List.take_zero,bKi,List.nil_append,←M,List.drop_left]
  ·split at h
   ·omega
   ·next K=>
    have L:=Lib.index_ge l p
    have O:bt l p≠ -1:=fun e=>K (by rw[e];rfl)
    obtain⟨k,rfl⟩:∃k,i=k+1:=⟨i-1,by omega⟩
    have ih:=aNx j (R:=l) (i:=k) (by omega)
    rw[List.take_succ_cons,show k+1+p.length=(k+p.length)+1 by omega,List.drop_succ_cons,List.cons_append,←ih]
theorem aZs{p:List UInt8}(j:p≠ [])(R:List UInt8):∃J D f,cu R p=(J,D,f)/\(D≠ []->R=J++(p++D))/\(∃q,R=J++q)/\D.length<=R.length:=by
 by_cases h:0<=bt R p
 ·obtain⟨i,P⟩:∃i:Nat,bt R p=i:=⟨(bt R p).toNat,by omega⟩
  refine⟨R.take i,R.drop (i+p.length),true, ?_,fun _=>aNx j P,⟨R.drop i,(List.take_append_drop i R).symm⟩,by rw[bK3];omega⟩
  unfold cu
  rw[if_pos h,P]
  rfl
 ·refine⟨R,[],false,by unfold cu;rw[if_neg h],fun e=>absurd rfl e,⟨[],(bKQ R).symm⟩,bJJ _⟩
theorem bA2(T p:List UInt8):(cg T p).length<=T.length/\(cg T p).count 32<=T.count 32:=by
 unfold cg
 split
 ·exact⟨by rw[bK3];omega,(List.drop_sublist _ _).count_le 32⟩
 ·exact⟨bJE _,bJE _⟩
theorem aPR{n:Nat}(h:n<10):cw (cm n)= .ok (n:Int):=by
 rw[oA h]
 have:n=0\/n=1\/n=2\/n=3\/n=4\/n=5\/n=6\/n=7\/n=8\/n=9:=by omega
 rcases this with rfl|rfl|rfl|rfl|rfl|rfl|rfl|rfl|rfl|rfl<;>rfl
theorem aWI{l:List UInt8}{v:Int}(h:cw l= .ok v):l≠ []/\ -9223372036854775808<=v/\v<9223372036854775808:=by
 unfold cw at h
 split at h
 ·cases h
 ·refine⟨(fun e=>by cases e), ?_⟩
  simp only at h
  split at h
  ·cases h
  ·cases h
  ·split at h
   ·cases h
   ·split at h
    ·cases h
    ·next u _ h1 h2=>
     injection h with h
     split at h<;>omega
def kQ(T:List UInt8):Option (List Int×Int):=open Classical in if h:∃p,Form T p then some h.choose else none
theorem aIo{T:List UInt8}{p:List Int×Int}(h:Form T p):kQ T=some p:=by
 have h':∃p,Form T p:=⟨p,h⟩
 unfold kQ
 rw[dif_pos h']
 exact congrArg some (h'.choose_spec.uniq h)
theorem aNi{T:List UInt8}{p:List Int×Int}(h:kQ T=some p):Form T p:=by
 unfold kQ at h
 split at h
 ·next h'=>cases h;exact h'.choose_spec
 ·cases h
theorem tB{T:List UInt8}(h:∀p,¬Form T p):kQ T=none:=by
 cases e:kQ T with
 |none=>rfl
 |some p=>exact absurd (aNi e) (h p)
theorem aYV{T:List UInt8}{zs:List Int}{r:Int}(g:T.length<=80)(hc:T.count 32<=8)(h:T=gW zs r)(hv:vz zs r=true):Form T (zs,r):=by
 refine⟨h,hv,show rS zs from aJ4 (aCr hv) rfl ?_ ?_⟩
 ·rw[h]at g
  unfold gW at g
  simp only[bJW]at g
  have:eJ.length=11:=rfl
  have:([93,32]:List UInt8).length=2:=rfl
  omega
 ·rw[h]at hc
  unfold gW at hc
  simp only[bMU]at hc
  have:eJ.count 32=1:=by decide
  have:([93,32]:List UInt8).count 32=1:=by decide
  omega
section
open Go Go.RowKit
def bs(l:List UInt8):ByteArray:=⟨l.toArray⟩
theorem qT(l:List UInt8):(bs l).size=l.length:=by
 show l.toArray.size=_
 exact List.size_toArray
theorem aFS(l:List UInt8):(bs l).data.toList=l:=rfl
theorem vF(l:List UInt8):(bs l).toList=l:=by
 have h:=Lib.extract_toList (bs l) 0 (bs l).size
 have e:(bs l).extract 0 (bs l).size=bs l:=ByteArray.extract_zero_size
 rw[e,qT,Nat.sub_zero,List.drop_zero,aFS,List.take_of_length_le (bJE _)]at h
 exact h
theorem aB2{l:List UInt8}{j:Nat}(h:j<l.length):uM (bs l) j=some (l.getD j 0).toNat:=by
 unfold uM
 have e:(bs l)[j]? =some (l.getD j 0):=by
  rw[getElem?_pos (bs l) j (by rw[qT];exact h)]
  show some (l.toArray[j])=_
  simp [h]
 rw[e]
theorem bHb{l:List UInt8}{a b:Nat}:(bs l).extract a b=bs ((l.drop a).take (b-a)):=by
 apply ByteArray.ext
 apply Array.ext'
 exact Lib.extract_data (bs l) a b
theorem aKx(a b:List UInt8):bs a++bs b=bs (a++b):=by
 apply ByteArray.ext
 show(bs a++bs b).data=_
 rw[ByteArray.data_append]
 simp [bs]
theorem bY.block'{w w':World}(h:bY w w'){b:Nat}(hb:b<w.heap.size):w'.heap[b]? =w.heap[b]? :=Below.block h b hb
theorem aEz{w:World}{b:Nat}{u v:bR4}{T:TypeId}(h:w.heap[b]? =some (.cells #[u,v] T (0,0))):w.cell? ⟨b,0,none⟩=some u/\w.cell? ⟨b,1,none⟩=some v/\w.frozen? ⟨b,0,none⟩=false/\w.frozen? ⟨b,1,none⟩=false:=by
 simp [World.cell?,World.frozen?,h]
theorem bBE{w:World}{b:Nat}{u v x y:bR4}{T:TypeId}(h:w.heap[b]? =some (.cells #[u,v] T (0,0))):((w.setCell ⟨b,0,none⟩ x).setCell ⟨b,1,none⟩ y).heap[b]? =some (.cells #[x,y] T (0,0)):=by
 simp [World.setCell,Array.getElem?_modify,h]
theorem bHV{w w':World}{B:Nat}{x:Bool}{y:bR4}{T:TypeId}{fr:Nat×Nat}(hy:∀k z,y≠ .int k z)(hB:w.heap[B]? =some (.cells #[.bool x,y] T fr))(ho:∀p,p≠B->w'.heap[p]? =w.heap[p]?){v:bR4}{xs:List Nat}(h:WT w v (tW xs)):WT w' v (tW xs):=by
 have hl:∀(l:List Nat) (vs:List bR4),dF w vs (l.map wc)->dF w' vs (l.map wc):=fun l=>by
  induction l with
  |nil=>intro vs h;cases h;exact .nil
  |cons a l ih=>
   intro vs h
   cases h with |cons ha hl=>
   cases ha
   exact .cons (.int _ _) (ih _ hl)
 cases xs with
 |nil=>
  cases h with
  |emn=>exact .emn
  |ems a c=>exact .ems a c
 | cons a xs=>
  cases h with
  | im hp hl' hs hc=>
   rename_i p off len c cs el fr'
   by_cases hpB:p=B
   ·subst hpB
    rw[hB]at hp
    cases hp
    have hc':dF w _ (wc a::xs.map wc):=hc
    exfalso
    have h0:∀l:List bR4,l=([Value.bool x,y].drop off).take (len*1)->dF w l (wc a::xs.map wc)->False:=fun l e h=>by
     cases h with |cons ha _=>
     cases ha
     have h1:∀u∈([Value.bool x,y].drop off).take (len*1),u= .bool x\/u=y:=fun u hu=>by
      have:=List.mem_of_mem_drop (List.mem_of_mem_take hu)
      simpa using this
     rcases h1 _ (by rw[←e];exact bKn)with h|h
     ·cases h
     ·exact hy _ _ h.symm
    exact h0 _ rfl hc'
   ·exact .im (by rw[ho p hpB];exact hp) hl' hs (hl (a::xs) _ hc)
theorem aS7{w:World}{v:bR4}{xs:List Nat}(h:WT w v (tW xs)):∃A c,v= .slice A xs.length c:=by
 obtain⟨A,c,e, -⟩:=aE9 (n:=xs.length) (sz:=1) (by decide) (ts:=xs.map wc) (by rw[bKo,Nat.mul_one]) h
 exact⟨A,c,e⟩
theorem aUw{w:World}{v:bR4}{z:Int}(h:WT w v (tI z)):∃A c,v= .agg #[.bool (decide (z<0)),.slice A (aO z.natAbs).length c]/\WT w (.slice A (aO z.natAbs).length c) (tW (aO z.natAbs)):=by
 cases h with |ag h=>
 cases h with |cons h1 h=>
 cases h with |cons h2 h=>
 cases h
 cases h1
 obtain⟨A,c,rfl⟩:=aS7 h2
 exact⟨A,c,rfl,h2⟩
def dd(k:Nat):List UInt8:=if k=0 then []else cm k
theorem bEO{k:Nat}(h:0<k):dd k=dd (k/10)++[nW (k%10)]:=by
 unfold dd
 rw[if_neg (by omega)]
 by_cases h1:k<10
 ·rw[if_pos (by omega),oA h1,bKg h1];rfl
 ·rw[if_neg (by omega),aAy h1]
theorem aRZ{k:Nat}(h:aX 9 k):(dd k).length<=100:=by
 have s:∀(k u:Nat),u<10^(k+1)->cn u<=k+1:=by
  intro k
  induction k with
  |zero=>intro u h;rw[cq (by omega)];omega
  | succ k ih=>
   intro u h
   by_cases h1:u<10
   ·rw[cq h1];omega
   ·rw[cr h1]
    have:=ih (u/10) (by rw[bJX]at h;omega)
    omega
 have h1:=s 99 k (bJK h (by decide))
 rw[←ct]at h1
 unfold dd
 split
 ·exact bJJ _
 ·exact h1
theorem aYT(l:List UInt8):(bs l).toList.isEmpty=decide (l=[]):=by
 rw[vF]
 cases l<;>rfl
theorem aWd(W:World)(z:Int):(convert 119 9 (.slice (some ⟨W.heap.size,0,none⟩) 1 1)).run PG (W.alloc (.cells #[.int .u8 z] 5))= .ok (.string (strOfNums [z])) (W.alloc (.cells #[.int .u8 z] 5)):=
 run_convert_bytes_arg _ 119 5 underlying119 underlying5 _ 0 1 1 [z] rfl (fun i hi=>by
  have:i=0:=by omega
  subst this
  simp [go_sem]) _ underlying9
theorem one_byte{r:Nat}(t:List UInt8):strOfNums [48+(r:Int)]++bs t=bs (nW r::t):=by
 have e:strOfNums [48+(r:Int)]=bs [nW r]:=by
  show(⟨[UInt8.ofNat (48+(r:Int)).toNat].toArray⟩:ByteArray)=⟨[UInt8.ofNat (48+r)].toArray⟩
  rw[show(48+(r:Int)).toNat=48+r by omega]
 rw[e,aKx];rfl
set_option maxRecDepth 100000 in
set_option maxHeartbeats 4000000 in
theorem aWT{z:Int}(hz:aX 9 z.natAbs){w:World}(htw:fZ w){v:bR4}(hv:WT w v (tI z)):
  Calls PG 106 #[v] w fun e w'=>e= .returned (.string (bs (cD z)))/\bY w w':=by
 obtain⟨A,c,rfl,hw⟩:=aUw hv
 have HV:=br hv
 have HT:=br htw
 have HZ:=br hz
 clear hv htw hz hw
 have hb1:bY w (w.alloc (.cells #[.bool (decide (z<0)),.slice A (aO z.natAbs).length c] 47)):=bY.alloc _ _
 have HN:=br (aAm (aSi (m:=0) (HZ.out.mono (by decide))) (HT.out.below hb1) (.cons (HV.out.ext hb1.block) .nil))
 obtain⟨x0,x1, -, -⟩:=aEz (Below.heap_new w (.cells #[.bool (decide (z<0)),.slice A (aO z.natAbs).length c] 47))
 have hbk:=Below.heap_new w (.cells #[.bool (decide (z<0)),.slice A (aO z.natAbs).length c] 47)
 go_enter func106,ntmps106
 go_wp2_with fail
 refine HN.out.mono ?_
 rintro e w1 ⟨v1,rfl,hx1,hv1⟩
 obtain⟨A1,c1,rfl,hw1⟩:=aUw hv1
 replace hbk:=(bY.block' hx1 (b:=w.heap.size) (by simp)).trans hbk
 have hs1:w.heap.size<w1.heap.size:=by have:=hx1.size;simp at this;omega
 obtain⟨B,hB⟩:∃B,B=w.heap.size:=⟨_,rfl⟩
 have HE1:Hid (bY w w1):=bY.trans hb1 hx1
 have HW1:=br hw1
 have HBK:=br hbk
 obtain⟨x0,x1,x2,x3⟩:=aEz hbk
 clear hb1 HN hx1 hv1 hw1 hbk
 obtain⟨n,hn⟩:∃n,n=(aO z.natAbs).length:=⟨_,rfl⟩
 go_upto_region 2 with fail
 obtain⟨w2,hw2⟩:∃w2,(w1.setCell ⟨w.heap.size,0,none⟩ (.bool (decide (z<0)))).setCell ⟨w.heap.size,1,none⟩ (.slice A1 (aO z.natAbs).length c1)=w2:=⟨_,rfl⟩
 rw[hw2]
 have HB2:Hid (w2.heap[w.heap.size]? =some (.cells #[.bool (decide (z<0)),.slice A1 (aO z.natAbs).length c1] 47 (0,0))):=by
  show _=_
  rw[←hw2];exact bBE HBK.out
 have HE2:Hid (bY w w2):=by
  show bY w w2
  rw[←hw2]
  exact bY.pset (bY.pset HE1.out (bJE _) _) (bJE _) _
 have HW2:Hid (WT w2 (.slice A1 (aO z.natAbs).length c1) (tW (aO z.natAbs))):=by
  refine bHV (fun k z h=>by cases h) HBK.out (fun p hp=> ?_) HW1.out
  rw[←hw2]
  exact(Below.heap_setCell _ _ _ _ (fun e=>hp e)).trans (Below.heap_setCell _ _ _ _ (fun e=>hp e))
 clear HBK HW1 hw2 HE1 x0 x1 x2 x3
 obtain⟨x0,x1,x2,x3⟩:=aEz HB2.out
 go_upto_region 4 with fail
 go_loopg [3,4] z.natAbs (fun gk x y wr=>∃(t:List UInt8) (A2:Option Addr) (c2:Nat),x= .string (bs t)/\y= .slice A2 (aO gk).length c2/\Hid (dd gk++t=dd z.natAbs)/\Hid (WT wr (.slice A2 (aO gk).length c2) (tW (aO gk)))/\Hid (bY w2 wr)/\Hid (gk<=z.natAbs))
 case atStart=>exact⟨[],A1,c1,rfl,rfl,bKQ _,HW2,bY.refl _,bJE _⟩
 case round=>
  obtain⟨t,A2,c2,rfl,rfl,HD,HW,HE,HK⟩:=hrel
  by_cases hk:0<gk
  ·have hfit:aX 9 gk:=HZ.out.le HK.out
   have HBY:=br (aAm (aUZ (m:=0) (xs:=aO gk) (n:=10) (by have:=hfit.len;omega) (cU _) (by decide) (by decide)) (HT.out.below (bY.trans HE2.out HE.out)) (.cons HW.out (.cons (.int _ _) .nil)))
   rw[cO]at HBY
   have hlen:0<(aO gk).length:=xM.2 (by omega)
   obtain⟨n,hn⟩:∃n,n=(aO gk).length:=⟨_,rfl⟩
   rw[←hn]at HBY hlen ⊢
   have hnb:n<=9:=by rw[hn];exact hfit.len
   clear hn hfit
   go_wp2_with fail
   refine HBY.out.mono ?_
   rintro e w3 ⟨v3,rfl,hx3,hv3⟩
   cases hv3 with |tp hv3=>
   cases hv3 with |cons hq hv3=>
   cases hv3 with |cons hr hv3=>
   cases hv3
   cases hr
   obtain⟨A3,c3,rfl⟩:=aS7 hq
   obtain⟨r,hr⟩:∃r,r=gk%10:=⟨_,rfl⟩
   have hr9:r<10:=by omega
   rw[←hr]
   have HQ:=br hq
   have HR:=br hr
   have HX3:=br hx3
   clear hq hr hx3 HBY
   have hcv:=aWd w3 (48+(r:Int))
   have hsc:strOfNums [48+(r:Int)]++bs t=bs (nW r::t):=one_byte t
   have hb1:(strOfNums [48+(r:Int)]).size<=1:=Nat.le_of_eq (strOfNums_size _)
   have hb2:(bs t).size<=100:=by
    have h1:=congrArg List.length HD.out
    have h2:=aRZ HZ.out
    rw[bJW]at h1
    rw[qT];omega
   have hd2:dd (gk/10)++nW r::t=dd z.natAbs:=by
    rw[←HD.out,bEO hk,HR.out,bKH];rfl
   have HD2:=br hd2
   have HE4:Hid (bY w2 (w3.alloc (.cells #[.int .u8 (48+(r:Int))] 5))):=(bY.trans HE.out HX3.out).palloc _
   have HW4:Hid (WT (w3.alloc (.cells #[.int .u8 (48+(r:Int))] 5)) (.slice A3 (aO (gk/10)).length c3) (tW (aO (gk/10)))):=WT.ext (bY.alloc _ _).block HQ.out
   have HK4:Hid (gk/10<=z.natAbs):=by have:=HK.out;show _<=_;omega
   clear HX3 HQ hd2
   go_wp2_with (simp only[])
   go_roundg (gk/10)
   case measure=>omega
   case rel=>exact⟨_,_,_,rfl,rfl,HD2,HW4,HE4,HK4⟩
  ·obtain rfl:gk=0:=by omega
   have hl0:(aO 0).length=0:=by rw[gH];rfl
   rw[hl0]
   have ht:t=dd z.natAbs:=by rw[←HD.out];rfl
   have hb2:(bs t).size<=100:=by rw[qT,ht];exact aRZ HZ.out
   have hs2:w.heap.size<w2.heap.size:=(Array.getElem?_eq_some_iff.1 HB2.out).1
   replace x0:=(HE.out.cell (p:=⟨w.heap.size,0,none⟩) hs2).trans x0
   have HE9:Hid (bY w wr):=bY.trans HE2.out HE.out
   have HTT:=br ht
   clear HD HW HE HK ht
   clear x1 x2 x3 hl0 hk
   have hem:(bs t).toList.isEmpty=decide (t=[]):=aYT t
   have hdz:dd z.natAbs=[]↔z=0:=by
    unfold dd
    constructor
    ·intro h
     split at h
     ·omega
     ·exact absurd h (aE0 _)
    ·intro h;rw[h];rfl
   have ha:∀t:List UInt8,(⟨#[45]⟩:ByteArray)++bs t=bs (45::t):=fun t=>aKx [45] t
   have HEM:=br hem
   have HDZ:=br hdz
   have HA:=br ha
   clear hem hdz ha
   go_wp2_with fail
   ·next h=>
    rw[HEM.out]at h
    have h0:z=0:=HDZ.out.1 (by rw[←HTT.out];exact ae h)
    go_ret
    have h1:cD 0=[48]:=oA (by decide)
    rw[h0,h1]
    exact⟨rfl,HE9.out⟩
   ·next h _ _ hz=>
    rw[HEM.out]at h
    have h0:dd z.natAbs=cm z.natAbs:=if_neg (by omega)
    go_ret
    refine⟨?_,HE9.out⟩
    rw[HA.out]
    unfold cD
    rw[if_pos hz,HTT.out,h0]
    rfl
   ·next h hz=>
    rw[HEM.out]at h
    have h1:z≠0:=fun e=>af h (by rw[HTT.out];exact HDZ.out.2 e)
    have h0:dd z.natAbs=cm z.natAbs:=if_neg (by omega)
    go_ret
    refine⟨?_,HE9.out⟩
    unfold cD
    rw[if_neg (by omega),HTT.out,h0]
    rfl
theorem bFt{a b:Int}(h:tI a=tI b):a=b:=by
 unfold tI ci at h
 injection h with h
 injection h with h1 h2
 injection h1 with h1
 injection h2 with h2 _
 have e:=aTq (cU _) (cU _) h2
 have e2:a.natAbs=b.natAbs:=by rw[←cO a.natAbs,e,cO]
 have e3:a<0↔b<0:=by simpa using h1
 omega
open Classical in
def yZ(ts:List TV):Option TV:=if h:∃z:Int,ts=[tI z]/\aX 9 z.natAbs then some (.str (bs (cD h.choose)))else none
theorem aZ1:aB4 PG 106 yZ:=fun w vs ts R htw hw hg=>by
 unfold yZ at hg
 split at hg
 ·next h=>
  cases hg
  obtain⟨h1,h2⟩:=h.choose_spec
  rw[h1]at hw
  cases hw with |cons ha hl=>
  cases hl
  refine(aWT h2 htw ha).mono ?_
  rintro e w' ⟨rfl,hx⟩
  exact⟨_,rfl,hx,.str _⟩
 ·cases hg
theorem bBW{z:Int}(h:aX 9 z.natAbs):yZ [tI z]=some (.str (bs (cD z))):=by
 have h':∃y:Int,[tI z]=[tI y]/\aX 9 y.natAbs:=⟨z,rfl,h⟩
 unfold yZ
 rw[dif_pos h']
 have e:=h'.choose_spec.1
 injection e with e _
 rw[←bFt e]
end
end Ev
end Go.Proofs.YtmjoaipkaddkbaaGreatDoor
