/- Part of a proof. -/
import Derived.Test.YtmjoaipkaddkbaaGreatDoorP00
noncomputable section
open Array renaming getD→bLQ,getD_eq_getD_getElem?→bM4,getElem?_toList→bLD,replicate→bMz
open Bool renaming and_eq_true→bJI,and_self→bKr,eq_iff_iff→bKh,false_eq_true→bJQ,not_eq_true'→bKd,or_eq_true→bLg
open Int renaming natCast_add→bMh,natCast_mul→bLa,negSucc_eq→bKa
open List renaming all_cons→bKK,all_eq_true→bKq,drop_drop→bMi,drop_take→bMe,drop_zero→bJV,elem_iff→bKL,flatten_cons→bLL,getElem?_eq_some_iff→bKv,length_append→bJW,length_cons→bJN,length_drop→bK3,length_nil→bKf,length_take→bJO,mem_append_left→bLu,mem_cons→bJZ,mem_filterMap→bMf,mem_map→bKP,mem_range→bLo,mem_singleton→bKF,not_mem_nil→bLj,replicate→bJL,replicate_succ→bL7,take_of_length_le→bJU,take_take→bKC
open Nat renaming add_assoc→bLO,add_mul→bKw,beq_refl→bMD,ble_eq_true_of_le→bKX,eq_of_beq_eq_true→bJY,eq_zero_or_pos→bLF,le_of_ble_eq_true→bJP,le_of_eq→bLv,le_of_lt→bKb,le_refl→bJE,le_trans→bJH,lt_irrefl→bKl,lt_of_lt_of_le→bJK,lt_or_ge→bJS,lt_succ_of_lt→bM5,lt_succ_self→bJT,min_eq_left→bK7,mul_div_cancel→bL0,mul_le_mul_right→bK8,mul_pos→bKG,ne_of_lt→bMV,zero_le→bJJ,zero_mul→bL8
open Option renaming bind_eq_some_iff→bJF,getD_some→bLt,map_eq_some_iff→bJG,map_some→bKe
open Go renaming FuncId→bR9,IntKind→bR6,Oper→bRa,Operand→bR7,Program→bR8,TypeId→bR5,Value→bR4,World→bR3
open Go
open Option.some renaming injEq→bo
open Prod.mk renaming injEq→bp
namespace Go.Proofs.YtmjoaipkaddkbaaGreatDoor
namespace Ev
section
variable {r:AV×St}{P:bR8}{ext:Bool}
theorem aLU{c:List bRa}{i:Nat}{o:bRa}(h:c[i]? =some o):(gP ext c)[i]? =some (o,iD ext c (dL c []) i):=by
 have g:i<c.length:=(bKv.1 h).1
 unfold gP
 rw[List.getElem?_zip_eq_some]
 exact⟨h,by simp [g]⟩
theorem aLZ(c:List bRa):(gP ext c).length=c.length:=by simp [gP]
structure lT(ext:Bool)(P:bR8)(pr:cN)(all:Array bRa)(ih:IH)(V:aT)(c:List bRa)(S:Nat->gU)(av:Nat->AV):Prop where
 eq:all.toList=c
 low:∀i o,c[i]? =some o->∀m∈kD o,m<i
 dsts:∀i j oi oj d,c[i]? =some oi->c[j]? =some oj->j<i->gC (dL c []) j i=false->oi.dst=some d->oj.dst≠some d
 step:∀i o,c[i]? =some o->Trans P pr all ih V o (iD ext c (dL c []) i) (S i) (av i) (S (i+1))
 ro:∀i,i<=c.length->(S i).st.ro=(S 0).st.ro
 roN:(S 0).st.ro<=(S 0).n
 hid:∀i,i<=c.length->(S i).st.hid=(S 0).st.hid
 rec0:(S 0).recs=[]
theorem aEU{c:List bRa}(h:eS c=true):(∀i o,c[i]? =some o->∀m∈kD o,m<i)/\(∀i j oi oj d,c[i]? =some oi->c[j]? =some oj->j<i->gC (dL c []) j i=false->oi.dst=some d->oj.dst≠some d):=by
 unfold eS at h
 rw[bKq]at h
 refine⟨fun i o z m y=> ?_,fun i j oi oj d A F G H E I=> ?_⟩
 ·have g:i<c.length:=(bKv.1 z).1
  have:=h i (bLo.2 g)
  rw[z]at this
  simp only[bJI,bKq,ap]at this
  exact this.1.1 m y
 ·have g:i<c.length:=(bKv.1 A).1
  have:=h i (bLo.2 g)
  rw[A]at this
  simp only[bJI,bKq,ap,bLg]at this
  rcases this.2 j (bLo.2 G)with (h1|h1)|h1
  ·rw[H]at h1;cases h1
  ·rw[E]at h1;cases h1
  ·rw[E,F]at h1
   simp [I]at h1
section
variable {pr:cN}{all:Array bRa}{ih:IH}{V:aT}{c:List bRa}{S:Nat->gU}{av:Nat->AV}(W:lT ext P pr all ih V c S av)
include W
theorem lT.trans_of{i:Nat}(g:i<c.length):∃o,c[i]? =some o/\Trans P pr all ih V o (iD ext c (dL c []) i) (S i) (av i) (S (i+1)):=⟨c[i],by simp [g],W.step i _ (by simp [g])⟩
theorem lT.recs{i:Nat}(g:i<=c.length):∀j,j<i->∃R,(S i).recs[i-1-j]? =some R/\(S (j+1)).recs=R::(S j).recs/\(S i).recs.length=i:=by
 induction i with
 |zero=>intro j h;omega
 | succ i B=>
  intro j O
  obtain⟨o,z,J⟩:=W.trans_of (show i<c.length by omega)
  have u:∃R,(S (i+1)).recs=R::(S i).recs:=by
   obtain⟨_,want,_,K⟩:=J
   cases K with
   |pass _ _ k=>exact⟨_,k⟩
   |tot _ _ _ _ _ k=>exact⟨_,k⟩
   |ext _ _ _ _ _ _ k=>exact⟨_,k⟩
   |shy _ _ _ _ _ _ k=>exact⟨_,k⟩
   |sto _ _ _ _ _ _ _ _ _ _ _ _ _ _ _ _ _ _ _ _ _ _ k=>exact⟨_,k⟩
  obtain⟨R,C⟩:=u
  have l:(S i).recs.length=i:=by
   cases i with
   |zero=>rw[W.rec0];rfl
   |succ i=>exact(B (by omega) i (by omega)).choose_spec.2.2
  by_cases e:j=i
  ·subst e
   exact⟨R,by rw[C];simp,C,by rw[C];simp [l]⟩
  ·obtain⟨R',h1,h2,_⟩:=B (by omega) j (by omega)
   refine⟨R', ?_,h2,by rw[C];simp [l]⟩
   rw[C,show i+1-1-j=(i-1-j)+1 by omega]
   simpa using h1
end
theorem aDS{c:List bRa}{ms:List Nat}{i j:Nat}(h:j<i):(iD ext c ms i).un[i-1-j]? =some (!gC ms j i):=by
 unfold iD
 simp only[List.getElem?_map]
 rw[List.getElem?_reverse (by simp;omega)]
 simp only[List.length_range]
 rw[show i-1-(i-1-j)=j by omega,List.getElem?_range h]
 rfl
theorem aDg(ms:List Nat)(i j:Nat)(h:i≠j):gC ms i j=gC ms j i:=by
 unfold gC
 by_cases h1:i<j
 ·rw[if_pos h1,if_neg (by omega)]
 ·rw[if_neg h1,if_pos (by omega)]
theorem aRz{c:List bRa}{ms:List Nat}{i m:Nat}(h:(iD ext c ms i).tot=true)(y:m<c.length)(v:m≠i):gC ms m i=true\/wT c m=true:=by
 unfold iD at h
 simp only[bKq,bLo,bLg,beq_iff_eq,bJI]at h
 rcases h.2.2 m y with (h1|h1)|h1
 ·exact absurd h1 v
 ·exact .inl h1
 ·exact .inr h1
theorem aRq{c:List bRa}{ms:List Nat}{i:Nat}(h:(iD ext c ms i).tot=true):wT c i=false:=by
 unfold iD at h
 simp only[bJI,bKd]at h
 exact h.2.1
theorem aCj{c:List bRa}{i:Nat}{o:bRa}(z:c[i]? =some o):wT c i=(eT o.op).isSome:=by
 unfold wT;rw[z]
theorem aJw{c:List bRa}{ms:List Nat}{i m:Nat}{o:bRa}{t:Nat}(y:c[m]? =some o)(v:m≠i)(L:gC ms m i=false)(E:o.dst=some t):t∈(iD ext c ms i).del:=by
 unfold iD
 simp only[bMf,bLo]
 refine⟨m,(bKv.1 y).1, ?_⟩
 rw[if_pos (by simp [v,L]),y]
 exact E
structure lR(S:Nat->gU)(tot:Nat->Bool)(j:Nat):Prop where
 mono:(S j).n<=(S (j+1)).n
 top:∀id:Id,(S (j+1)).n<=id.nat->Tr.find id (S (j+1)).st.heap=none
 wr:tot j=false->∀id:Id,id.nat<(S j).n->eG (fun i=>(S i).st.heap) id j->∀R,(S (j+1)).recs=R::(S j).recs->jN R.wr id.nat
 prot:∀id:Id,id.nat<(S j).n->(id.nat<(S 0).st.ro\/¬(S 0).st.vis id\/∃R,(S (j+1)).recs=R::(S j).recs/\jN R.hid id.nat)->¬eG (fun i=>(S i).st.heap) id j
structure oG(ext:Bool)(c:List bRa)(S:Nat->gU)(av:Nat->AV)(Γ:aP)(a:Act)(w:bR3)(D:Nat->Prop)(a':Act)(w':bR3)(ψ:aP)(n:Nat->bR4):Prop where
 clo:aS9 c D
 in_:∀i,D i->i<c.length
 size:a'.tmps.size=a.tmps.size
 dfr:a'.defers=a.defers
 slot:∀t,a'.tmps.getD t undef=rQ (a.tmps.getD t undef) (fun m=>(c[m]?).bind (·.dst)) n D t c.length
 res:∀j,D j->CR (ψ.below (S (j+1)).n) (av j) (n j)
 blk:∀id b,(S 0).st.vis id->dE (fun i=>(S i).st.heap) D id c.length=some b->∃p s,ψ id=some (p,s)/\p<w'.heap.size/\BR (ψ.below (kU (fun i=>(S i).st.heap) (fun i=>(S i).n) D id c.length)) b s (thw ψ.flo id w'.heap[p]?)
 inj:∀id f b b' p s s',(S 0).st.vis id->(S 0).st.vis f->dE (fun i=>(S i).st.heap) D id c.length=some b->dE (fun i=>(S i).st.heap) D f c.length=some b'->(ψ.flo<=id.nat\/ψ.flo<=f.nat)->ψ id=some (p,s)->ψ f=some (p,s')->id=f
 dom:∀id q,ψ id=some q->id.nat<(S 0).n\/∃j,D j/\(S j).n<=id.nat/\id.nat<(S (j+1)).n
 base:∀id,id.nat<(S 0).n->ψ id=Γ id
 os:w'.os=w.os
 tape:w'.tape=w.tape
 output:w'.output=w.output
 hsize:w.heap.size<=w'.heap.size
 frame:∀q:Nat,q<w.heap.size->(∀id b s,(S 0).st.look id b->(S 0).st.ro<=id.nat->Γ id≠some (q,s))->w'.heap[q]? =w.heap[q]?
 wri:∀id b q s,(S 0).st.vis id->dE (fun i=>(S i).st.heap) D id c.length=some b->(S 0).st.ro<=id.nat->ψ id=some (q,s)->q<w.heap.size->∃x M N,(S 0).st.look x M/\(S 0).st.ro<=x.nat/\Γ x=some (q,N)
 fact:∀j,D j->lR S (fun i=>(iD ext c (dL c []) i).tot) j
 fl:ψ.flo=Γ.flo
end
section
variable {r:AV×St}{P:bR8}{ext:Bool}
abbrev gD(ext:Bool)(c:List bRa)(i:Nat):Bool:=(iD ext c (dL c []) i).tot
abbrev cS(S:Nat->gU):Nat->Tr:=fun i=>(S i).st.heap
abbrev wO(S:Nat->gU):Nat->Nat:=fun i=>(S i).n
structure At(ext:Bool)(V:aT)(c:List bRa)(S:Nat->gU)(av:Nat->AV)(Γ:aP)(a:Act)(w:bR3)(D:Nat->Prop)(a':Act)(w':bR3)(ψ:aP)(M:Nat->bR4)(i:Nat)(o:bRa):Prop where
 inv:oG ext c S av Γ a w D a' w' ψ M
 op:c[i]? =some o
 new:¬D i
 need:∀m∈kD o,D m
 facts:∀m,m<i->lR S (gD ext c) m
 alls:(∀m,D m->m<i)\/(∀m,m<c.length->lR S (gD ext c) m)
 sim0:dQ (S 0).st Γ w
 sl0:fJ Γ .nil V a.tmps
 L0:(S 0).L= .nil
 dst:∀(m:Nat) (o:bRa) (d:Nat),c[m]? =some o->o.dst=some d->d<a.tmps.size
section
variable {pr:cN}{all:Array bRa}{ih:IH}{V:aT}{c:List bRa}{S:Nat->gU}{av:Nat->AV}(W:lT ext P pr all ih V c S av)
variable {Γ:aP}{a:Act}{w:bR3}{D:Nat->Prop}{a':Act}{w':bR3}{ψ:aP}{M:Nat->bR4}{i:Nat}{o:bRa}(h:At ext V c S av Γ a w D a' w' ψ M i o)
theorem pJ{n:Nat}(hf:∀m,m<n->lR S (gD ext c) m){m k:Nat}(a4:m<=k)(hk:k<=n):(S m).n<=(S k).n:=by
 induction k with
 |zero=>
  have:m=0:=by omega
  rw[this];exact bJE _
 |succ k N=>
  by_cases e:m=k+1
  ·rw[e];exact bJE _
  ·exact bJH (N (by omega) (by omega)) (hf k (by omega)).mono
theorem xU(hs:dQ (S 0).st Γ w)(hf:∀m,m<i->lR S (gD ext c) m):∀m,m<=i->∀id:Id,(S m).n<=id.nat->Tr.find id (S m).st.heap=none:=by
 intro m hm id hid
 cases m with
 |zero=>exact hs.top id hid
 |succ m=>exact(hf m (by omega)).top id hid
include W in
theorem lT.recN{m:Nat}(hm:m<c.length){R:dM}(f:(S (m+1)).recs=R::(S m).recs):R.n0=(S m).n/\R.n1=(S (m+1)).n/\R.h0=cS S m/\R.h1=cS S (m+1):=by
 obtain⟨o,C,Q⟩:=W.trans_of hm
 obtain⟨_,want,_,H⟩:=Q
 cases H with
 |pass _ hs j=>rw[j]at f;injection f with f _;rw[←f];exact⟨rfl,by show(S m).n=(S (m+1)).st.nxt.nat;rw[hs];rfl,rfl,by show _=(S (m+1)).st.heap;rw[hs]⟩
 |tot E _ _ _ hs j=>rw[j]at f;injection f with f _;rw[←f];exact⟨rfl,by show _=(S (m+1)).st.nxt.nat;rw[hs];rfl,rfl,by show _=(S (m+1)).st.heap;rw[hs];rfl⟩
 |ext ah _ E _ _ hs j=>rw[j]at f;injection f with f _;rw[←f];exact⟨rfl,by show _=(S (m+1)).st.nxt.nat;rw[hs];rfl,rfl,by show _=(S (m+1)).st.heap;rw[hs];rfl⟩
 |shy _ _ _ E _ hs j=>rw[j]at f;injection f with f _;rw[←f];exact⟨rfl,by show _=(S (m+1)).st.nxt.nat;rw[hs];rfl,rfl,by show _=(S (m+1)).st.heap;rw[hs];rfl⟩
 |sto _ _ _ _ _ _ _ _ _ _ _ _ _ _ _ _ _ _ _ _ _ hs j=>rw[j]at f;injection f with f _;rw[←f];exact⟨rfl,by show _=(S (m+1)).st.nxt.nat;rw[hs];rfl,rfl,rfl⟩
include W in
theorem lT.shy{m:Nat}(hm:m<c.length)(F:wT c m=true){R:dM}(f:(S (m+1)).recs=R::(S m).recs):R.wr=[]/\R.hid=eM (S m).n R.rd/\∀id,R.rd=some id->oW id (iD ext c (dL c []) m).un (S m).recs=true:=by
 obtain⟨o,C,Q⟩:=W.trans_of hm
 rw[aCj C]at F
 obtain⟨_,want,_,H⟩:=Q
 cases H with
 |pass _ hs j=>rw[j]at f;injection f with f _;rw[←f];exact⟨rfl,rfl,fun id e=>by cases e⟩
 |tot E h1 _ _ hs j=>have:=aRq h1;rw[aCj C,F]at this;cases this
 |ext ah _ E h1 _ hs j=>rw[h1.2]at F;cases F
 |shy x hx _ E _ hs j=>rw[j]at f;injection f with f _;rw[←f];exact⟨rfl,rfl,fun id e=>(hx id e).1⟩
 |sto _ _ _ _ _ _ h1 _ _ _ _ _ _ _ _ _ _ _ _ _ _ hs j=>rw[h1]at F;cases F
theorem aGq{m:Nat}(F:wT c m=true):gD ext c m=false:=by
 cases Q:gD ext c m with
 |false=>rfl
 |true=>rw[aRq Q]at F;cases F
include W in
theorem lT.tame{m:Nat}(hm:m<c.length){R:dM}(f:(S (m+1)).recs=R::(S m).recs)(H:R.wild=false):(∀id,¬eG (cS S) id m)\/(gD ext c m=false/\R.wr=[]):=by
 obtain⟨o,C,_,want,_,k'⟩:=W.trans_of hm
 cases k' with
 |pass _ hs j=>exact .inl fun id h=>h (by show Tr.find id (S (m+1)).st.heap=_;rw[hs])
 |tot E h1 _ _ hs j=>rw[j]at f;injection f with f _;rw[←f]at H;cases H
 |ext ah _ E h1 _ hs j=>rw[j]at f;injection f with f _;rw[←f];exact .inr ⟨h1.1,rfl⟩
 |shy x hx h1 E _ hs j=>rw[j]at f;injection f with f _;rw[←f];exact .inr ⟨aGq (by rw[aCj C];exact h1),rfl⟩
 |sto _ _ _ _ _ _ h1 _ _ _ _ _ _ _ _ _ _ _ _ _ _ hs j=>rw[j]at f;injection f with f _;rw[←f]at H;cases H
include W h
omit W in
theorem At.lt:i<c.length:=(bKv.1 h.op).1
theorem At.ord_lt{m:Nat}(hm:m<i)(C:gC (dL c []) m i=true):D m:=by
 unfold gC at C
 rw[if_pos hm]at C
 exact aQP W.low h.inv.clo i o h.op h.need m C
theorem At.ord_gt{m:Nat}(hm:i<m)(hD:D m):gC (dL c []) m i=false:=by
 cases C:gC (dL c []) m i with
 |false=>rfl
 |true=>
  unfold gC at C
  rw[if_neg (by omega)]at C
  have v:=h.inv.in_ m hD
  exact absurd (aQP W.low h.inv.clo m c[m] (by simp [v]) (fun q hq=>h.inv.clo m c[m] (by simp [v]) hD q hq) i C) h.new
omit W in
theorem At.fact{m:Nat}(hm:m<i\/D m):lR S (gD ext c) m:=by
 rcases hm with hm|hm
 ·exact h.facts m hm
 ·exact h.inv.fact m hm
theorem At.hidden{R:dM}(f:(S (i+1)).recs=R::(S i).recs){m:Nat}(Z:m≠i)(hm:m<i\/D m)(hu:gC (dL c []) m i=false){id:Id}(hc:eG (cS S) id m)(hid:id.nat<(S i).n):jN R.hid id.nat:=by
 have B:=h.lt
 have v:m<c.length:=by
  rcases hm with hm|hm
  ·omega
  ·exact h.inv.in_ m hm
 have hF:=h.fact hm
 have l':i<m->∀m,m<c.length->lR S (gD ext c) m:=fun O=>by
  rcases h.alls with h1|h1
  ·have:=h1 m (hm.resolve_left (by omega));omega
  ·exact h1
 have g':i<=m->(S i).n<=(S m).n:=fun hge=>pJ (l' (by omega)) hge (bKb v)
 obtain⟨n0,_,_,_⟩:=W.recN B f
 have O:i<m->gD ext c m=false->jN R.hid id.nat:=fun O y=>by
  have u:id.nat<(S m).n:=bJK hid (g' (by omega))
  obtain⟨Rm,q1,A,_⟩:=W.recs (i:=m+1) (by omega) m (by omega)
  have I:=hF.wr y id u hc Rm A
  obtain⟨om,G,_,want,_,H⟩:=W.trans_of v
  cases H with
  |pass _ _ j=>rw[j]at A;injection A with A _;rw[←A]at I;obtain⟨p,J,_⟩:=I;cases J
  |tot _ Q _ _ _ _=>rw[show gD ext c m=true from Q]at y;cases y
  |ext ah _ _ _ _ _ j=>rw[j]at A;injection A with A _;rw[←A]at I;obtain⟨p,J,_⟩:=I;cases J
  |shy _ _ _ _ _ _ j=>rw[j]at A;injection A with A _;rw[←A]at I;obtain⟨p,J,_⟩:=I;cases J
  |sto ah _ _ _ _ _ _ _ _ tgt _ _ _ _ _ m' _ _ _ _ _ _ j=>
   rw[j]at A;injection A with A _;rw[←A]at I
   obtain⟨p,J,h1,h2⟩:=I
   simp only[bJZ,bLj,or_false]at J
   subst J
   have he:id.nat=tgt.nat:=by have h1:tgt.nat<=id.nat:=h1;have h2:id.nat<tgt.nat+1:=h2;omega
   obtain⟨Ri,g1,g2,_⟩:=W.recs (bKb v) i O
   have c':Ri=R:=by rw[f]at g2;injection g2 with g2 _;exact g2.symm
   have h':gC (dL c []) i m=false:=by rw[aDg _ _ _ (fun e=>Z e.symm)];exact hu
   rcases aZK _ _ (m-1-i) Ri m' (by rw[aDS O,h'];rfl) g1 with h3|h3
   ·rw[c',n0]at h3;omega
   ·rw[c']at h3;rw[he];exact h3
 cases d':wT c i with
 | true=>
  obtain⟨_,g4,g5⟩:=W.shy B d' f
  by_cases hx:R.rd=some id
  ·rcases bJS m i with u|hge
   ·obtain⟨Rm,q1,A,_⟩:=W.recs (bKb B) m u
    obtain⟨m0,m1,e0,e1⟩:=W.recN v A
    rcases bCr _ _ (i-1-m) Rm (g5 id hx) (by rw[aDS u,hu];rfl) q1 with ⟨k1,k2⟩|k0
    case inr=>
     rw[m1]at k0
     exact absurd (show Tr.find id (S (m+1)).st.heap=Tr.find id (S m).st.heap by rw[hF.top id k0,xU h.sim0 h.facts m (by omega) id (bJH hF.mono k0)]) hc
    cases H:Rm.wild with
    |true=>
     have:=k2 H
     rw[e0,e1]at this
     exact absurd this.symm hc
    | false=>
     rcases W.tame v A H with h1|⟨h1,h2⟩
     ·exact absurd hc (h1 id)
     ·have:=hF.wr h1 id (by rw[←m0];exact k1) hc Rm A
      rw[h2]at this;obtain⟨p,J,_⟩:=this;cases J
   ·have T:i<m:=by omega
    cases y:gD ext c m with
    |false=>exact O T y
    | true=>
     obtain⟨om,G,_,want,_,H⟩:=W.trans_of v
     obtain⟨Ri,g1,g2,_⟩:=W.recs (bKb v) i T
     have c':Ri=R:=by rw[f]at g2;injection g2 with g2 _;exact g2.symm
     have h':gC (dL c []) i m=false:=by rw[aDg _ _ _ (fun e=>Z e.symm)];exact hu
     cases H with
     |pass _ hs _=>exact absurd (show Tr.find id (S (m+1)).st.heap=_ by rw[hs]) hc
     |tot E _ _ t' hs _=>
      have:=aZ3 _ _ (m-1-i) Ri id t' (by rw[aDS T,h'];rfl) g1 (by rw[c'];exact hx)
      exact absurd (show Tr.find id (S (m+1)).st.heap=Tr.find id (S m).st.heap by rw[hs];exact this.symm) hc
     |ext _ _ _ Q _ _ _=>rw[show gD ext c m=false from Q.1]at y;cases y
     |shy _ _ h1 _ _ _ _=>rw[aGq (by rw[aCj G];exact h1)]at y;cases y
     |sto _ _ u' _ _ _ _ _ _ _ _ _ _ _ _ _ _ _ _ _ _ _ _=>rw[show gD ext c m=false from u']at y;cases y
  ·rw[g4]
   refine aXf hid fun x v' e=>hx ?_
   rw[v',Id.nat_inj e]
 | false=>
  have y:gD ext c m=false:=by
   cases Q:gD ext c m with
   |false=>rfl
   |true=>
    rcases aRz Q B (fun e=>Z e.symm)with h1|h1
    ·rw[aDg _ _ _ Z,h1]at hu;cases hu
    ·rw[d']at h1;cases h1
  rcases bJS m i with u|hge
  ·obtain⟨Rm,q1,A,_⟩:=W.recs (bKb B) m u
   obtain⟨m0,m1,_,_⟩:=W.recN v A
   have i':jN Rm.wr id.nat\/(Rm.n0<=id.nat/\id.nat<Rm.n1):=by
    rcases bJS id.nat (S m).n with h1|h1
    ·exact .inl (hF.wr y id h1 hc Rm A)
    ·refine .inr ⟨by rw[m0];exact h1, ?_⟩
     rw[m1]
     rcases bJS id.nat (S (m+1)).n with h2|h2
     ·exact h2
     ·exact absurd (show Tr.find id (S (m+1)).st.heap=Tr.find id (S m).st.heap by rw[hF.top id h2,xU h.sim0 h.facts m (by omega) id h1]) hc
   have U:∀b,jN (cH (iD ext c (dL c []) i).un (S i).recs b) id.nat:=fun b=>by
    refine aO2 _ _ b (i-1-m) Rm ?_ q1 i'
    rw[aDS u,hu];rfl
   obtain⟨_,want,_,H⟩:=W.step i o h.op
   cases H with
   |pass _ _ j=>rw[j]at f;injection f with f _;rw[←f];exact⟨(0,(S i).n),by simp,bJJ _,hid⟩
   |tot _ _ _ _ _ j=>rw[j]at f;injection f with f _;rw[←f];exact U []
   |ext ah _ _ _ _ _ j=>rw[j]at f;injection f with f _;rw[←f];exact U ah
   |shy _ _ h1 _ _ _ _=>rw[aCj h.op,h1]at d';cases d'
   |sto ah _ _ _ _ _ _ _ _ _ _ _ _ _ _ _ _ _ _ _ _ _ j=>rw[j]at f;injection f with f _;rw[←f];exact U ah
  ·exact O (by omega) y
theorem At.sees{R:dM}(f:(S (i+1)).recs=R::(S i).recs){id:Id}(hid:id.nat<(S i).n)(hv:¬jN R.hid id.nat):
  dE (cS S) D id c.length=Tr.find id (S i).st.heap/\kU (cS S) (wO S) D id c.length<=(S i).n:=by
 have B:=h.lt
 have n':∀m,m<i->eG (cS S) id m->D m:=fun m hm hc=>by
  cases C:gC (dL c []) m i with
  |true=>exact h.ord_lt W hm C
  |false=>exact absurd (h.hidden W f (by omega) (.inl hm) C hc hid) hv
 have X:∀m,i<=m->m<c.length->¬(D m/\eG (cS S) id m):=fun m h1 h2 ⟨h3,h4⟩=>by
  by_cases e:m=i
  ·exact h.new (e ▸ h3)
  ·exact hv (h.hidden W f e (.inr h3) (h.ord_gt W (by omega) h3) h4 hid)
 refine⟨(aIN (bKb B) X).trans (aPN n'), ?_⟩
 rw[aIL (bKb B) X]
 exact bGN fun m hm=>(h.facts m hm).mono
omit W in
theorem At.globN:pT (ψ.below (S i).n):=fun g hg=>by
 obtain⟨s,e⟩:=h.sim0.glob g hg
 have u:(iH g).nat<(S 0).n:=by
  rcases bJS (iH g).nat (S 0).n with h1|h1
  ·exact h1
  ·rw[h.sim0.fresh _ h1]at e;cases e
 exact⟨s,aP.below_in (by rw[h.inv.base _ u];exact e) (bJK u (pJ h.facts (bJJ _) (bJE _)))⟩
theorem At.sim{R:dM}(f:(S (i+1)).recs=R::(S i).recs){st:St}(hh:st.heap=(S i).st.heap)(hn:st.nxt=(S i).st.nxt)(hv:∀id,st.vis id->(S 0).st.vis id/\¬jN R.hid id.nat)(x':(S 0).st.ro<=st.ro):dQ st (ψ.below (S i).n) w':=by
 have f':=xU h.sim0 h.facts i (bJE _)
 have key:∀id b,st.look id b->(S 0).st.vis id/\id.nat<(S i).n/\dE (cS S) D id c.length=some b/\kU (cS S) (wO S) D id c.length<=(S i).n:=fun id b ⟨h1,h2⟩=>by
  rw[hh]at h2
  obtain⟨g1,g2⟩:=hv id h1
  have u:id.nat<(S i).n:=by
   rcases bJS id.nat (S i).n with h3|h3
   ·exact h3
   ·rw[f' id h3]at h2;cases h2
  obtain⟨g3,g4⟩:=h.sees W f u g2
  exact⟨g1,u,g3.trans h2,g4⟩
 refine⟨fun id b z=> ?_,fun id o' b b' p s s' z y' z' J a0=> ?_,fun id hid=> ?_,fun id hid=> ?_,h.globN,bJH (by show ψ.flo<=_;rw[h.inv.fl];exact h.sim0.flo) x'⟩
 ·obtain⟨k1,k2,k3,k4⟩:=key id b z
  obtain⟨p,s,g1,g2,g3⟩:=h.inv.blk id b k1 k3
  exact⟨p,s,aP.below_in g1 k2,g2,g3.mono (aP.below_le ψ k4)⟩
 ·obtain⟨k1,k2,k3,_⟩:=key id b z
  obtain⟨a2,a5,a3,_⟩:=key o' b' y'
  exact h.inv.inj id o' b b' p s s' k1 a2 k3 a3 z' (aP.below_of J).2 (aP.below_of a0).2
 ·rw[aP.below_at,if_neg]
  rw[hn]at hid;show ¬(id.nat<(S i).st.nxt.nat);omega
 ·rw[hh];rw[hn]at hid;exact f' id hid
theorem At.slots:fJ (ψ.below (S i).n) (dS (iD ext c (dL c []) i).del (S i).L) V a'.tmps:=by
 have B:=h.lt
 have p':∀(l:List Nat) (L:aT) (t:Nat) (b:AV),(dS l L).look V t=some b->t ∉ l/\L.look V t=some b:=by
  intro l
  induction l with
  |nil=>intro L t b z;exact⟨by simp,z⟩
  | cons x l N=>
   intro L t b z
   have z:(if x=t then none else(dS l L).look V t)=some b:=z
   split at z
   ·cases z
   ·rename_i hx
    obtain⟨h1,h2⟩:=N L t b z
    exact⟨by simp only[bJZ,not_or];exact⟨fun e=>hx e.symm,h1⟩,h2⟩
 have q':aP.le Γ (ψ.below (S i).n):=fun id p J=>by
  have u:id.nat<(S 0).n:=by
   rcases bJS id.nat (S 0).n with h1|h1
   ·exact h1
   ·rw[h.sim0.fresh id h1]at J;cases J
  exact aP.below_in (by rw[h.inv.base id u];exact J) (bJK u (pJ h.facts (bJJ _) (bJE _)))
 have hL:∀m,m<=i->∀t b,t ∉ (iD ext c (dL c []) i).del->(S m).L.look V t=some b->t<a.tmps.size/\CR (ψ.below (S i).n) b (rQ (a.tmps.getD t undef) (fun m=>(c[m]?).bind (·.dst)) M D t m):=by
  intro m
  induction m with
  |zero=>
   intro _ t b _ z
   rw[h.L0]at z
   obtain⟨g1,g2⟩:=h.sl0 t b z
   exact⟨g1,g2.mono q'⟩
  | succ m N=>
   intro hm t b hd z
   have v:m<c.length:=by omega
   obtain⟨om,G,hT⟩:=W.trans_of v
   rw[hT.slot]at z
   have Y:(c[m]?).bind (·.dst)=om.dst:=by rw[G];rfl
   cases K:om.dst with
   |none=>
    rw[K]at z
    obtain⟨g1,g2⟩:=N (by omega) t b hd z
    refine⟨g1, ?_⟩
    rw[aAA (by rintro⟨_,e⟩;rw[Y,K]at e;cases e)];exact g2
   | some d=>
    rw[K]at z
    have j':(if d=t then some (av m)else(S m).L.look V t)=some b:=z
    clear z
    split at j'
    ·rename_i e
     subst e
     injection j' with z
     have r':D m:=by
      cases C:gC (dL c []) m i with
      |true=>exact h.ord_lt W (by omega) C
      |false=>exact absurd (aJw G (by omega) C K) hd
     refine⟨h.dst m om d G K, ?_⟩
     rw[aDz ⟨r',by rw[Y,K]⟩,←z]
     exact(h.inv.res m r').mono (aP.below_le ψ (pJ h.facts hm (bJE _)))
    ·rename_i e
     obtain⟨g1,g2⟩:=N (by omega) t b hd j'
     refine⟨g1, ?_⟩
     rw[aAA (by rintro⟨_,e'⟩;rw[Y,K]at e';injection e' with e';exact e e')];exact g2
 intro t b z
 obtain⟨hd,z⟩:=p' _ _ t b z
 obtain⟨g1,g2⟩:=hL i (bJE _) t b hd z
 refine⟨by rw[h.inv.size];exact g1, ?_⟩
 rw[h.inv.slot t,aIO (bKb B) ?_]
 ·exact g2
 ·rintro m h1 h2 ⟨h3,h4⟩
  by_cases e:m=i
  ·exact h.new (e ▸ h3)
  ·have v:m<c.length:=h2
   have G:c[m]? =some c[m]:=by simp [v]
   rw[G]at h4
   exact hd (aJw G e (h.ord_gt W (by omega) h3) h4)
end
end
section
variable {r:AV×St}{P:bR8}{ext:Bool}
mutual
theorem CR.down{Γ Γ':aP}(hm:aP.le Γ Γ'){a:AV}{u v:bR4}(h:CR Γ a u)(k:CR Γ' a v):CR Γ a v:=by
 cases h with
 |b=>cases k;exact .b _
 |i=>cases k;exact .i _ _
 |m=>cases k;exact .m _ _
 |v A=>cases k with |v hq=>exact .v hq
 |u=>cases k;exact .u
 |se=>cases k;exact .se _ _
 |ptr h=>cases k with |ptr k=>rw[hm _ _ h]at k;injection k with k;injection k with k1 k2;subst k1 k2;exact .ptr h
 |sl h=>cases k with |sl k h1 h2 x=>rw[hm _ _ h]at k;injection k with k;injection k with k1 k2;subst k1 k2;exact .sl h h1 h2 x
 |fn ha hb=>cases k with |fn ka kb=>exact .fn (bW.down hm ha ka) (bW.down hm hb kb)
 |mp h=>cases k with |mp k=>rw[hm _ _ h]at k;injection k with k;injection k with k1 k2;subst k1 k2;exact .mp h
 |anyI z=>cases k;exact .anyI _
 |anyE t v=>cases k;exact .anyE _ _
 |agg h=>cases k with |agg k=>exact .agg (bW.down hm h k)
 |tup h=>cases k with |tup k=>exact .tup (bW.down hm h k)
theorem bW.down{Γ Γ':aP}(hm:aP.le Γ Γ'){a:List AV}{u v:List bR4}(h:bW Γ a u)(k:bW Γ' a v):bW Γ a v:=by
 cases h with
 |nil=>cases k;exact .nil
 |cons h t=>cases k with |cons k s=>exact .cons (CR.down hm h k) (bW.down hm t s)
end
theorem BR.down{Γ Γ':aP}(hm:aP.le Γ Γ'){b:cK}{s s':Nat}{ob ob':Option Obj}(h:BR Γ b s ob)(k:BR Γ' b s' ob'):BR Γ b s' ob':=by
 have nm:∀ {l:List AV} {vs:List bR4},bW Γ' (mkA::l) vs->False:=fun hc=>by
  cases hc with |cons hc _=>cases hc with |v A=>exact A.1 _ rfl
 have nm':∀ {l:List AV} {vs:List bR4},bW Γ (mkA::l) vs->False:=fun hc=>nm (hc.mono hm)
 rcases h with ⟨⟨cs,el,h1,h2,x,G,h5⟩|⟨es,c,l,h1,h2,x⟩⟩
 ·rcases k with ⟨⟨cs',el',k1,k2,O,k4,k5⟩|⟨es,c,l,k1,k2,O⟩⟩
  ·exact .of k1 k2 O (bW.down hm G k4) k5
  ·rw[k2]at G;exact(nm' G).elim
 ·rcases k with ⟨⟨cs',el',k1,k2,O,k4,k5⟩|⟨es',c',l',k1,k2,O⟩⟩
  ·rw[h2]at k4;exact(nm k4).elim
  ·obtain rfl:l=l':=by rw[h2]at k2;injection k2
   exact⟨.inr ⟨es',c',l,k1,k2,bW.down hm x O⟩⟩
section
variable {pr:cN}{all:Array bRa}{ih:IH}{V:aT}{f:List bRa}{S:Nat->gU}{av:Nat->AV}(W:lT ext P pr all ih V f S av)
variable {Γ:aP}{a:Act}{w:bR3}{D:Nat->Prop}{a':Act}{w':bR3}{ψ:aP}{I:Nat->bR4}{i:Nat}{o:bRa}(h:At ext V f S av Γ a w D a' w' ψ I i o)
include W h
omit W in
theorem At.monoAll{m:Nat}(hm:i<m)(K:D m)(_:lR S (gD ext f) i):(S (i+1)).n<=(S m).n:=by
 have Q:∀m,m<f.length->lR S (gD ext f) m:=by
  rcases h.alls with h1|h1
  ·have:=h1 m K;omega
  ·exact h1
 exact pJ Q (by omega) (bKb (h.inv.in_ m K))
theorem At.later{R:dM}(hR:(S (i+1)).recs=R::(S i).recs)(hf:lR S (gD ext f) i){id:Id}(hid:id.nat<(S (i+1)).n)(hw:jN R.wr id.nat\/(R.n0<=id.nat/\id.nat<R.n1)){m:Nat}(hm:i<m)(K:D m):¬eG (cS S) id m:=fun hc=>by
 have T:=h.lt
 have U:=h.inv.in_ m K
 have hu:=h.ord_gt W hm K
 have g':gC (dL f []) i m=false:=by rw[aDg _ _ _ (by omega)];exact hu
 have C:id.nat<(S m).n:=bJK hid (h.monoAll hm K hf)
 obtain⟨Rm,_,n,_⟩:=W.recs (i:=m+1) (by omega) m (by omega)
 obtain⟨Ri,g1,g2,_⟩:=W.recs (bKb U) i hm
 have h':Ri=R:=by rw[hR]at g2;injection g2 with g2 _;exact g2.symm
 have B:∀b,jN (cH (iD ext f (dL f []) m).un (S m).recs b) id.nat:=fun b=>aO2 _ _ b (m-1-i) Ri (by rw[aDS hm,g'];rfl) g1 (by rw[h'];exact hw)
 have hF:=h.inv.fact m K
 obtain⟨om,g,_,want,_,X⟩:=W.trans_of U
 have Y:gD ext f m=false->Rm.wr=[]->False:=fun h1 h2=>by
  have:=hF.wr h1 id C hc Rm n
  rw[h2]at this;obtain⟨p,A,_⟩:=this;cases A
 cases X with
 |pass _ hs _=>exact hc (by show Tr.find id (S (m+1)).st.heap=_;rw[hs])
 |tot _ _ _ _ _ L=>exact hF.prot id C (.inr (.inr ⟨Rm,n,by rw[L]at n;injection n with n _;rw[←n];exact B []⟩)) hc
 |ext ah _ _ ht _ _ L=>exact Y ht.1 (by rw[L]at n;injection n with n _;rw[←n])
 |shy _ _ h1 _ _ _ L=>exact Y (aGq (by rw[aCj g];exact h1)) (by rw[L]at n;injection n with n _;rw[←n])
 |sto ah _ i' _ _ _ _ _ _ tgt _ _ b _ _ q' j' _ _ _ _ _ L=>
  have Z:=hF.wr i' id C hc Rm n
  rw[L]at n;injection n with n _;rw[←n]at Z
  obtain⟨p,A,h1,h2⟩:=Z
  simp only[bJZ,bLj,or_false]at A
  subst A
  have he:id.nat=tgt.nat:=by have h1:tgt.nat<=id.nat:=h1;have h2:id.nat<tgt.nat+1:=h2;omega
  obtain⟨p,A,x⟩:=B ah
  rw[he]at x
  exact j'.lk.1 p (by show p∈rE _ _;rw[vP];exact bLu _ A) x
omit W in
theorem At.range_none(hf:lR S (gD ext f) i){id:Id}(h1:(S i).n<=id.nat)(h2:id.nat<(S (i+1)).n):ψ id=none:=by
 cases A:ψ id with
 |none=>rfl
 | some q=>
  rcases h.inv.dom id q A with x|⟨j,hj,x,G⟩
  ·have:=pJ h.facts (bJJ i) (bJE _);omega
  ·rcases Nat.lt_trichotomy j i with h5|h5|h5
   ·have:=pJ h.facts (show j+1<=i by omega) (bJE _);omega
   ·exact absurd (h5 ▸ hj) h.new
   ·have:=h.monoAll h5 hj hf;omega
omit W h in
theorem aE6{id:Id}(hc:¬eG (cS S) id i):kU (cS S) (wO S) D id f.length<=kU (cS S) (wO S) (fun m=>D m\/m=i) id f.length:=by
 rw[bBh (fun _=>Iff.rfl) hc];exact bJE _
theorem At.more(hf:lR S (gD ext f) i){v:bR4}{y:bR3}{ψ':aP}(hψ:∀id:Id,id.nat<(S i).n\/(S (i+1)).n<=id.nat->ψ' id=ψ id)(hc:CR (ψ'.below (S (i+1)).n) (av i) v)
  (d':∀id b,(S 0).st.vis id->dE (cS S) (fun m=>D m\/m=i) id f.length=some b->∃p s,ψ' id=some (p,s)/\p<y.heap.size/\BR (ψ'.below (kU (cS S) (wO S) (fun m=>D m\/m=i) id f.length)) b s (thw ψ'.flo id y.heap[p]?))
  (k':ψ'.flo=ψ.flo) (e':∀id E b b' p s s',(S 0).st.vis id->(S 0).st.vis E->dE (cS S) (fun m=>D m\/m=i) id f.length=some b->dE (cS S) (fun m=>D m\/m=i) E f.length=some b'->(ψ'.flo<=id.nat\/ψ'.flo<=E.nat)->ψ' id=some (p,s)->ψ' E=some (p,s')->id=E)
  (f':∀id b q s,(S 0).st.vis id->dE (cS S) (fun m=>D m\/m=i) id f.length=some b->(S 0).st.ro<=id.nat->ψ' id=some (q,s)->q<w.heap.size->∃F b0 s0,(S 0).st.look F b0/\(S 0).st.ro<=F.nat/\Γ F=some (q,s0))
  (m':y.os=w'.os) (M:y.tape=w'.tape) (B:y.output=w'.output) (hsz:w'.heap.size<=y.heap.size)
  (H:∀q:Nat,q<w'.heap.size->(∀id b s,(S 0).st.vis id->dE (cS S) D id f.length=some b->(S 0).st.ro<=id.nat->ψ id≠some (q,s))->y.heap[q]? =w'.heap[q]?):
  oG ext f S av Γ a w (fun m=>D m\/m=i) (a'.put o.dst v) y ψ' (fun m=>if m=i then v else I m):=by
 have T:=h.lt
 have n':aP.le ψ ψ':=fun id p A=>by
  by_cases h1:id.nat<(S i).n
  ·rw[hψ id (.inl h1)];exact A
  ·by_cases h2:id.nat<(S (i+1)).n
   ·rw[h.range_none hf (by omega) h2]at A;cases A
   ·rw[hψ id (.inr (by omega))];exact A
 have r':(S 0).n<=(S i).n:=pJ h.facts (bJJ i) (bJE _)
 refine⟨?_, ?_, ?_, ?_, ?_, ?_,d',e', ?_, ?_,m'.trans h.inv.os,M.trans h.inv.tape,B.trans h.inv.output,bJH h.inv.hsize hsz, ?_,f', ?_,k'.trans h.inv.fl⟩
 ·rintro m om g (hm|hm) q hq
  ·exact .inl (h.inv.clo m om g hm q hq)
  ·subst hm;rw[h.op]at g;injection g with g;subst g;exact .inl (h.need q hq)
 ·rintro m (hm|hm)
  ·exact h.inv.in_ m hm
  ·omega
 ·rw[aIJ];exact h.inv.size
 ·rw[aMp];exact h.inv.dfr
 ·intro t
  have J:(f[i]?).bind (·.dst)=o.dst:=by rw[h.op];rfl
  by_cases N:o.dst=some t
  ·have C:t<a'.tmps.size:=by rw[h.inv.size];exact h.dst i o t h.op N
   rw[N]
   simp only[Act.put]
   rw[vE v C,bF0 (fun _=>Iff.rfl) (by rw[J];exact N) T ?_]
   ·simp
   ·rintro m h1 h2 ⟨x,G⟩
    have g:f[m]? =some f[m]:=by simp [h2]
    rw[g]at G
    have hu:=h.ord_gt W h1 x
    rw[aDg _ _ _ (by omega)]at hu
    exact W.dsts m i f[m] o t g h.op h1 hu G N
  ·have:(a'.put o.dst v).tmps.getD t undef=a'.tmps.getD t undef:=by
    cases o':o.dst with
    |none=>rfl
    |some d=>simp only[Act.put];exact aLx v (fun e=>N (by rw[o',e]))
   rw[this,h.inv.slot t]
   exact(bA1 (fun _=>Iff.rfl) (fun m hm=>if_neg hm) h.new (by rw[J];exact N)).symm
 ·rintro j (hj|hj)
  ·have p':j≠i:=fun e=>h.new (e ▸ hj)
   simp only[if_neg p']
   exact(h.inv.res j hj).mono (aP.below_mono n' _)
  ·subst hj;simp only[if_true];exact hc
 ·intro id q hq
  by_cases h1:id.nat<(S i).n
  ·rw[hψ id (.inl h1)]at hq
   rcases h.inv.dom id q hq with h2|⟨j,hj,h2⟩
   ·exact .inl h2
   ·exact .inr ⟨j,.inl hj,h2⟩
  ·by_cases h2:id.nat<(S (i+1)).n
   ·exact .inr ⟨i,.inr rfl,by omega,h2⟩
   ·rw[hψ id (.inr (by omega))]at hq
    rcases h.inv.dom id q hq with x|⟨j,hj,x⟩
    ·exact .inl x
    ·exact .inr ⟨j,.inl hj,x⟩
 ·intro id hid
  rw[hψ id (.inl (by omega))];exact h.inv.base id hid
 ·intro q hq hn
  rw[H q (bJK hq h.inv.hsize) ?_,h.inv.frame q hq hn]
  intro id b s h1 h2 x G
  obtain⟨F,b0,s0,g1,g2,g3⟩:=h.inv.wri id b q s h1 h2 x G hq
  exact hn F b0 s0 g1 g2 g3
 ·rintro j (hj|hj)
  ·exact h.inv.fact j hj
  ·subst hj;exact hf
end
end
section
variable {r:AV×St}{P:bR8}{ext:Bool}
section
variable {pr:cN}{all:Array bRa}{ih:IH}{V:aT}{d:List bRa}{S:Nat->gU}{av:Nat->AV}(W:lT ext P pr all ih V d S av)
variable {Γ:aP}{a:Act}{w:bR3}{D:Nat->Prop}{a':Act}{w':bR3}{ψ:aP}{I:Nat->bR4}{i:Nat}{o:bRa}(h:At ext V d S av Γ a w D a' w' ψ I i o)
include W h
theorem At.pass{v:bR4}(ha:CR (ψ.below (S i).n) (av i) v)(hs:(S (i+1)).st=(S i).st):
  oG ext d S av Γ a w (fun m=>D m\/m=i) (a'.put o.dst v) w' ψ (fun m=>if m=i then v else I m):=by
 have hc:∀id,¬eG (cS S) id i:=fun id hc=>hc (by show Tr.find id (S (i+1)).st.heap=_;rw[hs])
 have hn:(S (i+1)).n=(S i).n:=by unfold gU.n;rw[hs]
 have hf:lR S (gD ext d) i:=⟨by rw[hn];exact bJE _,fun id hid=>by rw[hs];exact xU h.sim0 h.facts i (bJE _) id (by rw[hn]at hid;exact hid),fun _ id _ h1=>absurd h1 (hc id),fun id _ _=>hc id⟩
 have C:∀id,dE (cS S) (fun m=>D m\/m=i) id d.length=dE (cS S) D id d.length:=fun id=>aDo (fun _=>Iff.rfl) (hc id) _
 refine h.more W hf (fun _ _=>rfl) (by rw[hn];exact ha) (fun id b h1 h2=> ?_) rfl (fun id c b b' p s s' h1 h2 h3 h4 A=> ?_) (fun id b q s h1 h2=> ?_) rfl rfl rfl (bJE _) (fun _ _ _=>rfl)
 ·rw[C]at h2
  obtain⟨p,s,g1,g2,g3⟩:=h.inv.blk id b h1 h2
  exact⟨p,s,g1,g2,g3.mono (aP.below_le ψ (aE6 (hc id)))⟩
 ·rw[C]at h3 h4
  exact h.inv.inj id c b b' p s s' h1 h2 h3 h4 A
 ·rw[C]at h2
  exact h.inv.wri id b q s h1 h2
def uB(ψ Γ'':aP)(m n:Nat):aP:=⟨fun id=>if m<=id.nat/\id.nat<n then Γ'' id else ψ id,ψ.flo⟩
omit W h in
theorem aEZ{ψ Γ'':aP}{m n:Nat}{id:Id}(h:id.nat<m\/n<=id.nat):uB ψ Γ'' m n id=ψ id:=if_neg (by omega)
omit W h in
theorem aXF{ψ Γ'':aP}{m n:Nat}{id:Id}(h1:m<=id.nat)(h2:id.nat<n):uB ψ Γ'' m n id=Γ'' id:=if_pos ⟨h1,h2⟩
structure rT(S:Nat->gU)(av:Nat->AV)(ψ:aP)(w':bR3)(i:Nat)(st f:St)(Γ'':aP)(t:bR3)(v:bR4):Prop where
 g:dH st (ψ.below (S i).n) w' f Γ'' t
 hh:st.heap=(S i).st.heap
 hn:st.nxt=(S i).st.nxt
 hs:(S (i+1)).st=dU (S i).st f
 hc:CR Γ'' (av i) v
variable {st f:St}{Γ'':aP}{t:bR3}{v:bR4}(R:rT S av ψ w' i st f Γ'' t v)
omit W h in
theorem rT.n1(R:rT S av ψ w' i st f Γ'' t v):(S (i+1)).n=f.nxt.nat:=by unfold gU.n;rw[R.hs];rfl
omit W h in
theorem rT.heap1(R:rT S av ψ w' i st f Γ'' t v):cS S (i+1)=f.heap:=by show(S (i+1)).st.heap=_;rw[R.hs];rfl
omit W h in
theorem rT.mono(R:rT S av ψ w' i st f Γ'' t v):(S i).n<=(S (i+1)).n:=by rw[R.n1];show(S i).st.nxt.nat<=_;rw[←R.hn];exact R.g.nxt
omit W h in
theorem rT.map(R:rT S av ψ w' i st f Γ'' t v):(uB ψ Γ'' (S i).n (S (i+1)).n).below (S (i+1)).n=Γ'':=by
 refine aP.same (fun id=> ?_) R.g.fl.symm
 by_cases h1:id.nat<(S (i+1)).n
 ·rw[aP.below_at,if_pos h1]
  by_cases h2:id.nat<(S i).n
  ·rw[aEZ (.inl h2),R.g.same id (by rw[R.hn];exact h2),aP.below_at,if_pos h2]
  ·rw[aXF (by omega) h1]
 ·rw[aP.below_at,if_neg h1]
  exact(R.g.sim.fresh id (by rw[←R.n1];omega)).symm
omit W h in
theorem rT.map_at(R:rT S av ψ w' i st f Γ'' t v){id:Id}(h1:id.nat<(S (i+1)).n):uB ψ Γ'' (S i).n (S (i+1)).n id=Γ'' id:=by
 rw[←R.map,aP.below_at,if_pos h1,R.map]
theorem At.runG{T:dM}(O:(S (i+1)).recs=T::(S i).recs)(c':(S 0).st.ro<=st.ro)(x':st.ro<=(S i).n)(j':gD ext d i=false->st.ro=(S i).n)(k:∀id,st.vis id↔(S 0).st.vis id/\¬jN T.hid id.nat)(t':∀p∈T.hid,p.2<=(S i).n)(R:rT S av ψ w' i st f Γ'' t v):
  oG ext d S av Γ a w (fun m=>D m\/m=i) (a'.put o.dst v) t (uB ψ Γ'' (S i).n (S (i+1)).n) (fun m=>if m=i then v else I m):=by
 have L:=h.lt
 have k':ψ.flo<=st.ro:=bJH (by rw[h.inv.fl];exact h.sim0.flo) c'
 have e':=xU h.sim0 h.facts i (bJE _)
 have Q:∀id:Id,(S i).n<=id.nat->¬jN T.hid id.nat:=fun id h1 ⟨p,hp,_,h2⟩=>by have:=t' p hp;omega
 have z:∀id:Id,id.nat<(S i).n->(id.nat<st.ro\/¬st.vis id)->¬eG (cS S) id i:=fun id h1 h0 h2=>h2 (by
  show Tr.find id (cS S (i+1))=Tr.find id (cS S i)
  rw[R.heap1,R.g.old id (by rw[R.hn];exact h1) h0,R.hh])
 have hf:lR S (gD ext d) i:=by
  refine⟨R.mono,fun id hid=> ?_,fun h0 id h1 h2=>absurd h2 (z id h1 (.inl (by rw[j' h0];exact h1))),fun id h1 h2=>z id h1 ?_⟩
  ·show Tr.find id (cS S (i+1))=none
   rw[R.heap1];exact R.g.sim.top id (by rw[←R.n1];exact hid)
  ·rcases h2 with h2|h2|⟨R',h3,h4⟩
   ·exact .inl (by omega)
   ·exact .inr fun h3=>h2 ((k id).1 h3).1
   ·rw[O]at h3;injection h3 with h3 _
    exact .inr fun j=>((k id).1 j).2 (by rw[h3];exact h4)
 obtain⟨t0,t1,_,_⟩:=W.recN L O
 have U:∀id,f.vis id↔st.vis id:=aGA R.g.hid
 have J:∀id b,st.look id b->(S 0).st.vis id/\id.nat<(S i).n/\¬jN T.hid id.nat/\dE (cS S) D id d.length=some b/\kU (cS S) (wO S) D id d.length<=(S i).n:=fun id b ⟨h1,h2⟩=>by
  rw[R.hh]at h2
  obtain⟨g1,g2⟩:=(k id).1 h1
  have B:id.nat<(S i).n:=by
   rcases bJS id.nat (S i).n with h3|h3
   ·exact h3
   ·rw[e' id h3]at h2;cases h2
  obtain⟨g3,g4⟩:=h.sees W O B g2
  exact⟨g1,B,g2,g3.trans h2,g4⟩
 have f':∀id b,(S 0).st.vis id->eG (cS S) id i->dE (cS S) (fun m=>D m\/m=i) id d.length=some b->f.look id b/\id.nat<(S (i+1)).n/\kU (cS S) (wO S) (fun m=>D m\/m=i) id d.length=(S (i+1)).n:=fun id b h1 h2 h3=>by
  have B:id.nat<(S (i+1)).n:=by
   rcases bJS id.nat (S (i+1)).n with h4|h4
   ·exact h4
   ·have hm:=R.mono
    exact absurd (show Tr.find id (S (i+1)).st.heap=Tr.find id (S i).st.heap by rw[hf.top id h4,e' id (by omega)]) h2
  have M:∀m,i<m->m<d.length->¬(D m/\eG (cS S) id m):=fun m h4 l' ⟨j,h6⟩=>by
   rcases bJS id.nat (S i).n with h7|h7
   ·have h':gD ext d i=true:=by
     cases h':gD ext d i with
     |true=>rfl
     |false=>exact absurd h2 (z id h7 (.inl (by rw[j' h'];exact h7)))
    have h8:=h.ord_gt W h4 j
    rcases aRz h' l' (by omega)with h9|h9
    ·rw[h9]at h8;cases h8
    ·obtain⟨Rm,_,q2,_⟩:=W.recs (i:=m+1) (by omega) m (by omega)
     have m':=(h.inv.fact m j).wr (aGq h9) id (bJK h7 (bJH R.mono (h.monoAll h4 j hf))) h6 Rm q2
     rw[(W.shy l' h9 q2).1]at m';obtain⟨p,hp,_⟩:=m';cases hp
   ·exact h.later W O hf B (.inr ⟨by rw[t0];exact h7,by rw[t1];exact B⟩) h4 j h6
  rw[aQl (fun _=>Iff.rfl) h2 L M]at h3
  refine⟨⟨(U id).2 ?_,by rw[←R.heap1];exact h3⟩,B,aQp (fun _=>Iff.rfl) h2 L M⟩
  rcases bJS id.nat (S i).n with h7|h7
  ·exact Classical.byContradiction fun h8=>z id h7 (.inr h8) h2
  ·exact(k id).2 ⟨h1,Q id h7⟩
 have hold:∀id,¬eG (cS S) id i->dE (cS S) (fun m=>D m\/m=i) id d.length=dE (cS S) D id d.length:=fun id h1=>aDo (fun _=>Iff.rfl) h1 _
 have X:aP.le ψ (uB ψ Γ'' (S i).n (S (i+1)).n):=fun id p hp=>by
  by_cases h1:(S i).n<=id.nat/\id.nat<(S (i+1)).n
  ·rw[h.range_none hf h1.1 h1.2]at hp;cases hp
  ·rw[aEZ (by omega)];exact hp
 have E:∀id b,(S 0).st.vis id->dE (cS S) (fun m=>D m\/m=i) id d.length=some b->
   (f.look id b/\id.nat<(S (i+1)).n/\(¬eG (cS S) id i->id.nat<(S i).n/\dE (cS S) D id d.length=some b/\kU (cS S) (wO S) D id d.length<=(S i).n))\/
   (¬eG (cS S) id i/\dE (cS S) D id d.length=some b/\∀c b',st.look c b'->c≠id):=fun id b h1 h2=>by
  by_cases hc:eG (cS S) id i
  ·obtain⟨k1,k2,_⟩:=f' id b h1 hc h2
   exact .inl ⟨k1,k2,fun h=>absurd hc h⟩
  ·rw[hold id hc]at h2
   by_cases hv:id.nat<(S i).n/\¬jN T.hid id.nat
   ·obtain⟨g1,g2⟩:=h.sees W O hv.1 hv.2
    have hm:=R.mono
    refine .inl ⟨⟨(U id).2 ((k id).2 ⟨h1,hv.2⟩), ?_⟩,by omega,fun _=>⟨hv.1,h2,g2⟩⟩
    rw[←R.heap1,show Tr.find id (cS S (i+1))=Tr.find id (cS S i)from Classical.byContradiction hc,←h2]
    exact g1.symm
   ·exact .inr ⟨hc,h2,fun c b' Y e=>by
     obtain⟨_,k2,k3,_⟩:=J c b' Y
     subst e;exact hv ⟨k2,k3⟩⟩
 have i':∀id b p s,(S 0).st.vis id->dE (cS S) D id d.length=some b->(∀c b',st.look c b'->c≠id)->ψ id=some (p,s)->p<w'.heap.size->t.heap[p]? =w'.heap[p]? :=fun id b p s h1 h2 h3 h4 j=>
  R.g.frame p j fun c b' s' Y Z he=>by
   obtain⟨k1,_,_,k4,_⟩:=J c b' Y
   exact h3 c b' Y (h.inv.inj c id b' b p s' s k1 h1 k4 h2 (.inl (bJH k' Z)) (aP.below_of he).2 h4)
 have K:∀id b q s,(S 0).st.vis id->f.look id b->id.nat<(S (i+1)).n->uB ψ Γ'' (S i).n (S (i+1)).n id=some (q,s)->q<w'.heap.size->∃l x s0,(S 0).st.vis l/\dE (cS S) D l d.length=some x/\ψ l=some (q,s0)/\((∃b',st.look l b')\/l=id)/\((S 0).st.ro<=id.nat->(S 0).st.ro<=l.nat)/\(ψ.flo<=id.nat->ψ.flo<=l.nat):=fun id b q s h1 h2 h3 h4 j=>by
  rcases bJS id.nat st.ro with h6|h6
  ·have h7:id.nat<(S i).n:=by omega
   have hc:=z id h7 (.inl h6)
   obtain⟨g1,g2⟩:=(k id).1 ((U id).1 h2.1)
   obtain⟨g3,_⟩:=h.sees W O h7 g2
   have h8:Tr.find id (cS S i)=some b:=by
    rw[←show Tr.find id (cS S (i+1))=Tr.find id (cS S i)from Classical.byContradiction hc,R.heap1];exact h2.2
   rw[aEZ (.inl h7)]at h4
   exact⟨id,b,s,h1,g3.trans h8,h4,.inr rfl,fun h=>h,fun h=>h⟩
  ·rw[R.map_at h3]at h4
   obtain⟨l,x,s0,g1,g2,g3⟩:=R.g.wr q id b s j h2 h6 h4
   obtain⟨k1,_,_,k4,_⟩:=J l x g1
   exact⟨l,x,s0,k1,k4,(aP.below_of g3).2,.inl ⟨x,g1⟩,fun _=>by omega,fun _=>by omega⟩
 have hB:∀id b q s,(S 0).st.vis id->dE (cS S) D id d.length=some b->uB ψ Γ'' (S i).n (S (i+1)).n id=some (q,s)->ψ id=some (q,s)/\q<w'.heap.size:=fun id b q s h1 h2 h3=>by
  obtain⟨p',s',g1,g2,_⟩:=h.inv.blk id b h1 h2
  have g3:=X id _ g1
  rw[h3]at g3;injection g3 with g3;injection g3 with e1 e2;subst e1 e2
  exact⟨g1,g2⟩
 have g':∀u y b1 b2 q s1 s2,(S 0).st.vis u->(S 0).st.vis y->f.look u b1->u.nat<(S (i+1)).n->dE (cS S) D y d.length=some b2->(∀c b',st.look c b'->c≠y)->(ψ.flo<=u.nat\/ψ.flo<=y.nat)->uB ψ Γ'' (S i).n (S (i+1)).n u=some (q,s1)->uB ψ Γ'' (S i).n (S (i+1)).n y=some (q,s2)->u=y:=fun u y b1 b2 q s1 s2 h1 h2 k1 k2 m2 m3 A j h6=>by
  obtain⟨e1,e2⟩:=hB y b2 q s2 h2 m2 h6
  obtain⟨l,x,s0,g1,g2,g3,g4,_,g5⟩:=K u b1 q s1 h1 k1 k2 j e2
  have e:=h.inv.inj l y x b2 q s0 s2 g1 h2 g2 m2 (A.imp g5 id) g3 e1
  rcases g4 with ⟨b',g4⟩|g4
  ·exact absurd e (m3 l b' g4)
  ·rw[←g4];exact e
 refine h.more W hf (fun id h1=>aEZ h1) (by rw[R.map];exact R.hc) (fun id b h1 h2=> ?_) rfl (fun id c b b' p s s' h1 h2 h3 h4 A j h6=> ?_) (fun id b q s h1 h2 h3 h4 j=> ?_) R.g.os R.g.tape R.g.output R.g.size (fun q hq hn=> ?_)
 ·rcases E id b h1 h2 with ⟨k1,k2,k3⟩|⟨k1,k2,k3⟩
  ·obtain⟨p,s,g1,g2,g3⟩:=R.g.sim.blk id b k1
   rw[R.g.fl]at g3
   refine⟨p,s,by rw[R.map_at k2];exact g1,g2, ?_⟩
   by_cases hc:eG (cS S) id i
   ·obtain⟨_,_,k4⟩:=f' id b h1 hc h2
    rw[k4,R.map];exact g3
   ·obtain⟨m1,m2,m3⟩:=k3 hc
    obtain⟨p',s',n1,n2,n3⟩:=h.inv.blk id b h1 m2
    have hm:=R.mono
    have hd:aP.le (ψ.below (kU (cS S) (wO S) D id d.length)) Γ'':=by
     rw[←R.map]
     exact aP.le_trans (aP.below_mono X _) (aP.below_le _ (by omega))
    exact(BR.down hd n3 g3).mono (aP.le_trans (aP.below_mono X _) (aP.below_le _ (aE6 hc)))
  ·obtain⟨p,s,g1,g2,g3⟩:=h.inv.blk id b h1 k2
   refine⟨p,s,X id _ g1,bJK g2 R.g.size, ?_⟩
   rw[i' id b p s h1 k2 k3 g1 g2]
   exact g3.mono (aP.le_trans (aP.below_mono X _) (aP.below_le _ (aE6 k1)))
 ·rcases E id b h1 h3 with ⟨k1,k2,_⟩|⟨_,k2,k3⟩<;>rcases E c b' h2 h4 with ⟨m1,m2,_⟩|⟨_,m2,m3⟩
  ·rw[R.map_at k2]at j
   rw[R.map_at m2]at h6
   exact R.g.sim.inj id c b b' p s s' k1 m1 (by rw[R.g.fl];exact A) j h6
  ·exact g' id c b b' p s s' h1 h2 k1 k2 m2 m3 A j h6
  ·exact(g' c id b' b p s' s h2 h1 m1 m2 k2 k3 A.symm h6 j).symm
  ·exact h.inv.inj id c b b' p s s' h1 h2 k2 m2 A (hB id b p s h1 k2 j).1 (hB c b' p s' h2 m2 h6).1
 ·rcases E id b h1 h2 with ⟨k1,k2,_⟩|⟨_,k2,k3⟩
  ·obtain⟨l,x,s0,g1,g2,g3,_,g5,_⟩:=K id b q s h1 k1 k2 h4 (bJK j h.inv.hsize)
   exact h.inv.wri l x q s0 g1 g2 (g5 h3) g3 j
  ·exact h.inv.wri id b q s h1 k2 h3 (hB id b q s h1 k2 h4).1 j
 ·refine R.g.frame q hq fun id b s h1 h2 h3=> ?_
  obtain⟨k1,_,_,k4,_⟩:=J id b h1
  exact hn id b s k1 k4 (by omega) (aP.below_of h3).2
theorem At.stored(ha:av i= .u){T:dM}(O:(S (i+1)).recs=T::(S i).recs){id:Id}{b b':cK}{st:St}(Z:T.wr=[(id.nat,id.nat+1)])(n':¬jN T.hid id.nat)(Y:st.look id b)(hh:st.heap=(S i).st.heap)(u':∀id,st.vis id->(S 0).st.vis id)(c':(S 0).st.ro<=id.nat)
  (hs:(S (i+1)).st=⟨Tr.put (some b') id (S i).st.heap,(S i).st.nxt,(S i).st.ro,(S i).st.hid⟩) {p s:Nat} (hp:(ψ.below (S i).n) id=some (p,s)) {cs:Array bR4} {el:bR5} (ht:aDR w' t p cs el) (hg:dH st (ψ.below (S i).n) w' ⟨Tr.put (some b') id st.heap,st.nxt,st.ro,st.hid⟩ (ψ.below (S i).n) t):
  oG ext d S av Γ a w (fun m=>D m\/m=i) (a'.put o.dst undef) t ψ (fun m=>if m=i then undef else I m):=by
 have L:=h.lt
 have hn:(S (i+1)).n=(S i).n:=by unfold gU.n;rw[hs]
 have d':cS S (i+1)=Tr.put (some b') id (cS S i):=by show(S (i+1)).st.heap=_;rw[hs]
 have o':=(aP.below_of hp).2
 have B:=(aP.below_of hp).1
 have hc:∀c,c≠id->¬eG (cS S) c i:=fun c G F=>F (by rw[d',Tr.put_other _ _ _ _ (fun e=>G e.symm)])
 have k:=u' id Y.1
 have hf:lR S (gD ext d) i:=by
  refine⟨by rw[hn];exact bJE _,fun c hid=> ?_,fun _ c h1 h2 R hR=> ?_,fun c _ h2 h3=> ?_⟩
  ·show Tr.find c (cS S (i+1))=none
   rw[hn]at hid
   rw[d',Tr.put_other _ _ _ _ (fun e=>by rw[←e]at hid;omega)]
   exact xU h.sim0 h.facts i (bJE _) c hid
  ·have e:c=id:=Classical.byContradiction fun G=>hc c G h2
   rw[O]at hR;injection hR with hR _
   rw[←hR,Z,e]
   exact⟨_,bKF.2 rfl,bJE _,bJT _⟩
  ·have e:c=id:=Classical.byContradiction fun G=>hc c G h3
   subst e
   rcases h2 with h2|h2|⟨R',h4,j⟩
   ·omega
   ·exact h2 k
   ·rw[O]at h4;injection h4 with h4 _
    exact n' (by rw[h4];exact j)
 obtain⟨q',r'⟩:=h.sees W O B n'
 have N:dE (cS S) D id d.length=some b:=by rw[q',←hh];exact Y.2
 have Q:st.look id b->St.look ⟨Tr.put (some b') id st.heap,st.nxt,st.ro,st.hid⟩ id b':=fun Y=>⟨Y.1,Tr.put_same _ _ _⟩
 have C:∀c x,dE (cS S) (fun m=>D m\/m=i) c d.length=some x->(c=id/\x=b')\/(c≠id/\dE (cS S) D c d.length=some x):=fun c x h1=>by
  by_cases e:c=id
  ·subst e
   refine .inl ⟨rfl, ?_⟩
   by_cases F:eG (cS S) c i
   ·have M:∀m,i<m->m<d.length->¬(D m/\eG (cS S) c m):=fun m h4 _ j=>
     h.later W O hf (by rw[hn];exact B) (.inl (by rw[Z];exact⟨_,bKF.2 rfl,bJE _,bJT _⟩)) h4 j.1 j.2
    rw[aQl (fun _=>Iff.rfl) F L M,d',Tr.put_same]at h1
    injection h1 with h1;exact h1.symm
   ·rw[aDo (fun _=>Iff.rfl) F,N]at h1
    have:Tr.find c (cS S (i+1))=Tr.find c (cS S i):=Classical.byContradiction F
    rw[d',Tr.put_same,show Tr.find c (cS S i)=some b by rw[show cS S i=st.heap from hh.symm];exact Y.2]at this
    injection this with this;injection h1 with h1;rw[this,h1]
  ·rw[aDo (fun _=>Iff.rfl) (hc c e)]at h1
   exact .inr ⟨e,h1⟩
 have H:∀c x,dE (cS S) (fun m=>D m\/m=i) c d.length=some x->∃b1,dE (cS S) D c d.length=some b1:=fun c x h1=>by
  rcases C c x h1 with ⟨rfl,_⟩|⟨_,h2⟩
  ·exact⟨b,N⟩
  ·exact⟨_,h2⟩
 refine h.more W hf (fun _ _=>rfl) (by rw[ha];exact .u) (fun c x h1 h2=> ?_) rfl (fun u y b1 b2 q s1 s2 h1 h2 h3 h4 A j h6=> ?_) (fun u b1 q s1 h1 h2 h3 h4 j=> ?_) ht.os ht.tape ht.output (by rw[ht.size];exact bJE _) (fun q hq hn=> ?_)
 ·rcases C c x h2 with ⟨rfl,rfl⟩|⟨G,h3⟩
  ·obtain⟨p',s',g1,g2,g3⟩:=hg.sim.blk c x (Q Y)
   refine⟨p',s',(aP.below_of g1).2,g2, ?_⟩
   by_cases F:eG (cS S) c i
   ·have M:∀m,i<m->m<d.length->¬(D m/\eG (cS S) c m):=fun m h4 _ j=>
     h.later W O hf (by rw[hn];exact B) (.inl (by rw[Z];exact⟨_,bKF.2 rfl,bJE _,bJT _⟩)) h4 j.1 j.2
    rw[aQp (fun _=>Iff.rfl) F L M]
    show BR (ψ.below (S (i+1)).n) _ _ _
    rw[hn];exact g3
   ·have v':x=b:=by
     rw[aDo (fun _=>Iff.rfl) F,N]at h2;injection h2 with h2;exact h2.symm
    subst v'
    obtain⟨p2,s2,k1,k2,k3⟩:=h.inv.blk c x h1 N
    exact(BR.down (aP.below_le ψ r') k3 g3).mono (aP.below_le ψ (aE6 F))
  ·obtain⟨p',s',g1,g2,g3⟩:=h.inv.blk c x h1 h3
   refine⟨p',s',g1,by rw[ht.size];exact g2, ?_⟩
   rw[ht.far p' (fun e=>G (h.inv.inj c id x b p' s' s h1 k h3 N (.inr (bJH (by rw[h.inv.fl];exact h.sim0.flo) c')) g1 (by rw[e];exact o')))]
   exact g3.mono (aP.below_le ψ (aE6 (hc c G)))
 ·obtain⟨c1,h3⟩:=H u b1 h3
  obtain⟨c2,h4⟩:=H y b2 h4
  exact h.inv.inj u y c1 c2 q s1 s2 h1 h2 h3 h4 A j h6
 ·obtain⟨c1,h2⟩:=H u b1 h2
  exact h.inv.wri u c1 q s1 h1 h2 h3 h4 j
 ·exact ht.far q fun e=>hn id b s k N c' (by rw[e];exact o')
end
end
section
variable {r:AV×St}{P:bR8}{ext:Bool}
section
variable {pr:cN}{all:Array bRa}{ih:IH}{V:aT}{c:List bRa}{S:Nat->gU}{av:Nat->AV}(W:lT ext P pr all ih V c S av)
variable {Γ:aP}{a:Act}{w:bR3}{D:Nat->Prop}{a':Act}{w':bR3}{ψ:aP}{M:Nat->bR4}{i:Nat}{o:bRa}(h:At ext V c S av Γ a w D a' w' ψ M i o)
include W h
theorem At.bound{ah:List (Nat×Nat)}(G:∀p∈ah,∃(id:Id) (t off:Nat),V.find t=some (.ptr id off)/\p=(id.nat,id.nat+1))(us:List Bool):∀p∈cH us (S i).recs ah,p.2<=(S i).n:=by
 have A:=h.lt
 refine aLY us _ ah (fun R hR=> ?_) (fun p hp=> ?_)
 ·obtain⟨n,hn,f'⟩:=List.mem_iff_getElem.1 hR
  have h':(S i).recs.length=i:=by
   cases i with
   |zero=>rw[W.rec0];rfl
   |succ i=>obtain⟨_,_,_,q⟩:=W.recs (i:=i+1) (bKb A) i (by omega);exact q
  have i':n<i:=by omega
  obtain⟨R',g1,g2,_⟩:=W.recs (bKb A) (i-1-n) (by omega)
  rw[show i-1-(i-1-n)=n by omega]at g1
  have e:R'=R:=by rw[List.getElem?_eq_getElem hn]at g1;injection g1 with g1;rw[←g1,f']
  subst e
  obtain⟨_,n1,_,_⟩:=W.recN (by omega) g2
  refine⟨by rw[n1];exact pJ h.facts (by omega) (bJE _),fun p hp=> ?_⟩
  obtain⟨_,_,_,want,_,hw⟩:=W.trans_of (show i-1-n<c.length by omega)
  cases hw with
  |pass _ _ g=>rw[g]at g2;injection g2 with g2 _;rw[←g2]at hp;cases hp
  |tot _ _ _ _ _ g=>rw[g]at g2;injection g2 with g2 _;rw[←g2]at hp;cases hp
  |ext _ _ _ _ _ _ g=>rw[g]at g2;injection g2 with g2 _;rw[←g2]at hp;cases hp
  |shy _ _ _ _ _ _ g=>rw[g]at g2;injection g2 with g2 _;rw[←g2]at hp;cases hp
  | sto _ _ _ _ _ _ _ _ _ id _ _ b _ _ _ N _ _ _ _ _ g=>
   rw[g]at g2;injection g2 with g2 _;rw[←g2]at hp
   have hp:p=(id.nat,id.nat+1):=bKF.1 hp
   rw[hp]
   have g':id.nat<(S (i-1-n)).n:=by
    rcases bJS id.nat (S (i-1-n)).n with h1|h1
    ·exact h1
    ·have:=xU h.sim0 h.facts (i-1-n) (by omega) id h1
     rw[show Tr.find id (S (i-1-n)).st.heap=some b from N.lk.2]at this;cases this
   exact bJK g' (pJ h.facts (by omega) (bJE _))
 ·obtain⟨id,t,off,g1,rfl⟩:=G p hp
  obtain⟨_,g2⟩:=aIQ h.sl0 g1
  obtain⟨p,s,g3,_⟩:=g2.inv_ptr
  have:id.nat<(S 0).n:=by
   rcases bJS id.nat (S 0).n with h1|h1
   ·exact h1
   ·rw[h.sim0.fresh id h1]at g3;cases g3
  exact bJK this (pJ h.facts (bJJ _) (bJE _))
theorem At.step(H:lH P pr)(I:pX P ih)(J:mF P){Q:Exit->Act->bR3->Prop}{K:Act->bR3->Prop}
  (O:∀a'' z ψ' vals',oG ext c S av Γ a w (fun m=>D m\/m=i) a'' z ψ' vals'->K a'' z):wpOp P all Q i K a' w':=by
 have A:=h.lt
 have T:all[i]? =some o:=by rw[←bLD,W.eq];exact h.op
 have B:=h.slots W
 have C:∀id,(S i).st.vis id↔(S 0).st.vis id:=aGA (W.hid i (bKb A))
 obtain⟨_,want,L,U⟩:=W.step i o h.op
 have E:=L _ a' B
 have d:∀(l:List (Nat×Nat)) (st:St) (id:Id),st.hid=rE l (S i).st.hid->(st.vis id↔(S 0).st.vis id/\¬jN l id.nat):=fun l st id e=>by
  have u:st.vis id↔∀p∈st.hid,¬(p.1<=id.nat/\id.nat<p.2):=Iff.rfl
  rw[u,e,vP]
  refine⟨fun u=>⟨(C id).1 fun p hp=>u p (List.mem_append_right _ hp),fun⟨p,hp,h1⟩=>u p (bLu _ hp) h1⟩,fun⟨h1,h2⟩ p hp F=> ?_⟩
  rcases List.mem_append.1 hp with hp|hp
  ·exact h2 ⟨p,hp,F⟩
  ·exact(C id).2 h1 p hp F
 have f:=W.ro i (bKb A)
 have j:(S i).st.ro<=(S i).n:=by rw[f];exact bJH W.roN (pJ h.facts (bJJ _) (bJE _))
 unfold wpOp
 rw[T]
 simp only
 cases U with
 |pass ha hs g=>
  rw[if_neg (by rw[E];simp)]
  exact O _ _ _ _ (h.pass W (by rw[ha];exact .u) hs)
 |tot k ht X _ hs g=>
  rw[if_pos E]
  refine .inl (aGh H I J o.op rfl X (h.sim W g (st:=eB (cH (iD ext c (dL c []) i).un (S i).recs []) (S i).st) rfl rfl (fun id u=>(d _ _ id rfl).1 u) (bLv f.symm)) B Q K fun x st' v z Γ'' h1 h2 F=> ?_)
  obtain⟨rfl,rfl⟩:x=av i/\st'=k:=by have h1:some (x,st')=some (av i,k):=h1;injection h1 with h1;injection h1 with Y Z;exact⟨Y,Z⟩
  refine O _ _ _ _ (h.runG W (st:=eB (cH (iD ext c (dL c []) i).un (S i).recs []) (S i).st) g (bLv f.symm) j (fun e=>by rw[show gD ext c i=true from ht]at e;cases e) (d _ _ · rfl) (h.bound W (fun p hp=>by cases hp) _) ⟨h2,rfl,rfl,hs,F⟩)
 |ext ah G k ht X hs g=>
  rw[if_pos E]
  refine .inl (aGh H I J o.op rfl X (h.sim W g (st:=dR (cH (iD ext c (dL c []) i).un (S i).recs ah) (S i).st) rfl rfl (fun id u=>(d _ _ id rfl).1 u) (by rw[←f];exact j)) B Q K fun x st' v z Γ'' h1 h2 F=> ?_)
  obtain⟨rfl,rfl⟩:x=av i/\st'=k:=by have h1:some (x,st')=some (av i,k):=h1;injection h1 with h1;injection h1 with Y Z;exact⟨Y,Z⟩
  refine O _ _ _ _ (h.runG W (st:=dR (cH (iD ext c (dL c []) i).un (S i).recs ah) (S i).st) g (by rw[←f];exact j) (bJE _) (fun _=>rfl) (d _ _ · rfl) (h.bound W G _) ⟨h2,rfl,rfl,hs,F⟩)
 |shy x hx j' k X hs g=>
  rw[if_pos E]
  refine .inl (aGh H I J o.op rfl X (h.sim W g (st:=dR (eM (S i).n x) (S i).st) rfl rfl (fun id u=>(d _ _ id rfl).1 u) (by rw[←f];exact j)) B Q K fun x st' v z Γ'' h1 h2 F=> ?_)
  obtain⟨rfl,rfl⟩:x=av i/\st'=k:=by have h1:some (x,st')=some (av i,k):=h1;injection h1 with h1;injection h1 with Y Z;exact⟨Y,Z⟩
  refine O _ _ _ _ (h.runG W (st:=dR (eM (S i).n x) (S i).st) g (by rw[←f];exact j) (bJE _) (fun _=>rfl) (d _ _ · rfl) (aVY fun id e=>(hx id e).2) ⟨h2,rfl,rfl,hs,F⟩)
 | sto ah G k' t x y ho hk ha id off v b hx hy hc N h1 h2 F b' hs g=>
  rw[if_pos E]
  have c':=h.sim W g (st:=eB (cH (iD ext c (dL c []) i).un (S i).recs ah) (S i).st) rfl rfl (fun id u=>(d _ _ id rfl).1 u) (bLv f.symm)
  obtain⟨p,s,hp,e⟩:=(hx _ a' (h.globN) B).inv_ptr
  have d':=hy _ a' (h.globN) B
  obtain⟨z,g1,⟨cs,el,g2⟩,g3⟩:=aDf (P:=P) c' N b' hp d'.cells h2 F
  have hsz:(a'.eval y).cells.size=aY P t:=by
   have:=bJY h1
   rw[aBZ,d'.cells.length]at this;simpa using this
  have e':(execOp a'.eval o).run P w'= .ok .skip z:=by
   simp only[execOp,ho,e,Instr.storeAt,Instr.sureAddr,Sem.run_bind,Sem.run_pure,Result.andThen_ok,storeVar,run_sizeOf hk,Sem.run_ite,hsz,ne_eq,not_true_eq_false,if_false,g1]
  left
  unfold Oper.wp
  rw[e']
  have u:=(d _ (eB (cH (iD ext c (dL c []) i).un (S i).recs ah) (S i).st) id rfl).1 N.lk.1
  exact O _ _ _ _ (h.stored W ha g rfl u.2 N.lk rfl (fun id u=>((d _ _ id rfl).1 u).1) (by rw[←W.ro i (bKb A)];exact b') hs hp g2 g3)
end
end
section
variable {r:AV×St}{P:bR8}{ext:Bool}
theorem bCm{o:bRa}{a:Act}{w:bR3}{C:Prop}(h:o.wp P a w (fun _ _=>C) (fun _ _ _=>False)):C:=by
 unfold Oper.wp at h
 generalize (execOp a.eval o).run P w=x at h
 cases x with
 | ok n w'=>
  cases n with
  |value v=>exact h
  |skip=>exact h
  |defer d=>exact h
  |enter f args=>
   obtain⟨e,w2,fr,h1,_⟩:=h []
   cases e with
   |returned v=>exact h1
   |panicked c=>exact h1.elim
   |outgrown=>obtain⟨_,_,h2⟩:=h1;exact h2.elim
  |row q args=>
   obtain⟨v,w2,h1,_⟩:=h (Frame.enter P 0 #[] .normal) []
   exact h1
  |_=>exact h.elim
 |halt x w'=>cases x<;>exact h.elim
theorem aX6{all:Array bRa}{i:Nat}{a:Act}{w:bR3}{C:Prop}(h:wpOp P all (fun _ _ _=>False) i (fun _ _=>C) a w):C:=by
 unfold wpOp at h
 split at h
 ·exact h
 ·split at h
  ·rcases h with h|⟨_,_,_,h⟩
   ·exact bCm h
   ·exact h.elim
  ·exact h
section
variable {pr:cN}{all:Array bRa}{ih:IH}{V:aT}{g:List bRa}{S:Nat->gU}{av:Nat->AV}(W:lT ext P pr all ih V g S av)
variable {Γ:aP}{a:Act}{w:bR3}
theorem oG.start(hs:dQ (S 0).st Γ w)(j:Nat->bR4):oG ext g S av Γ a w (fun _=>False) a w Γ j:=by
 have I:∀ {id q},Γ id=some q->id.nat<(S 0).n:=fun {id q} hq=>by
  rcases bJS id.nat (S 0).n with h1|h1
  ·exact h1
  ·rw[hs.fresh id h1]at hq;cases hq
 have y:∀id,dE (cS S) (fun _=>False) id g.length=Tr.find id (S 0).st.heap:=fun id=>aIN (bJJ _) fun _ _ _ h=>h.1
 refine⟨fun _ _ _ h=>h.elim,fun _ h=>h.elim,rfl,rfl,fun t=>(aIO (bJJ _) fun _ _ _ h=>h.1).symm,fun _ h=>h.elim,fun id b h1 h2=> ?_,fun id R b b' p s s' h1 h2 N O c'=> ?_,fun id q hq=> .inl (I hq),fun _ _=>rfl,rfl,rfl,rfl,bJE _,fun _ _ _=>rfl,fun id b q s h1 h2 N O _=> ?_,fun _ h=>h.elim,rfl⟩
 ·rw[show dE _ _ _ _=_ from y id]at h2
  obtain⟨p,s,g1,g2,g3⟩:=hs.blk id b ⟨h1,h2⟩
  refine⟨p,s,g1,g2,g3.mono fun id q hq=>aP.below_in hq ?_⟩
  rw[aIL (bJJ _) fun _ _ _ h=>h.1]
  exact I hq
 ·rw[show dE _ _ _ _=_ from y id]at N
  rw[show dE _ _ _ _=_ from y R]at O
  exact hs.inj id R b b' p s s' ⟨h1,N⟩ ⟨h2,O⟩ c'
 ·rw[show dE _ _ _ _=_ from y id]at h2
  exact⟨id,b,s,⟨h1,h2⟩,N,O⟩
include W
theorem lT.facts(E:lH P pr)(F:pX P ih)(G:mF P)(hs:dQ (S 0).st Γ w)(H:fJ Γ .nil V a.tmps)(Z:(S 0).L= .nil)(hd:∀(m:Nat) (o:bRa) (d:Nat),g[m]? =some o->o.dst=some d->d<a.tmps.size):∀m,m<g.length->lR S (gD ext g) m:=by
 have main:∀n i a' w' ψ j,i+n=g.length->oG ext g S av Γ a w (fun m=>m<i) a' w' ψ j->∀m,m<g.length->lR S (gD ext g) m:=by
  intro n
  induction n with
  |zero=>intro i a' w' ψ j K k m J;exact k.fact m (by omega)
  |succ n d'=>
   intro i a' w' ψ j K k
   have e':i<g.length:=by omega
   have B:g[i]? =some g[i]:=by simp [e']
   have L:At ext V g S av Γ a w (fun m=>m<i) a' w' ψ j i g[i]:=⟨k,B,bKl _,W.low i _ B,fun m J=>k.fact m J,.inl fun _ h=>h,hs,H,Z,hd⟩
   refine aX6 (P:=P) (all:=all) (i:=i) (a:=a') (w:=w') (L.step W E F G fun a'' D ψ' vals' h=> ?_)
   have e:(fun m=>m<i\/m=i)=fun m=>m<i+1:=by funext m;exact propext ⟨fun h=>by omega,fun h=>by omega⟩
   rw[e]at h
   exact d' (i+1) a'' D ψ' vals' (by omega) h
 refine main g.length 0 a w Γ (fun _=>undef) (by omega) ?_
 have e:(fun m:Nat=>m<0)=fun _=>False:=by funext m;simp
 rw[e];exact oG.start hs _
theorem lT.any(E:lH P pr)(F:pX P ih)(G:mF P)(hs:dQ (S 0).st Γ w)(H:fJ Γ .nil V a.tmps)(Z:(S 0).L= .nil)(hd:∀(m:Nat) (o:bRa) (d:Nat),g[m]? =some o->o.dst=some d->d<a.tmps.size)
  {Q:Exit->Act->bR3->Prop} (hQ:∀a'' D ψ j,oG ext g S av Γ a w (fun m=>m<g.length) a'' D ψ j->Q .normal a'' D):wpAny P .any all Q all.size (bMz all.size false) a w:=by
 have hf:=W.facts E F G hs H Z hd
 have hsz:all.size=g.length:=by rw[←W.eq];simp
 have main:∀(fuel:Nat) (listed:Array Bool) (a':Act) (w':bR3) (ψ:aP) (j:Nat->bR4),listed.size=g.length->listed.toList.count false<=fuel->oG ext g S av Γ a w (fun m=>listed.getD m false=true) a' w' ψ j->wpAny P .any all Q fuel listed a' w':=by
  intro fuel
  induction fuel with
  | zero=>
   intro listed a' w' ψ j h1 h2 k
   have z:∀m,m<g.length->listed.getD m false=true:=fun m J=>by
    have N:false ∉ listed.toList:=List.count_eq_zero.1 (by omega)
    have u:m<listed.size:=by omega
    have O:listed.getD m false=listed[m]:=by simp [bLQ,u]
    rw[O]
    cases I:listed[m]with
    |true=>rfl
    |false=>exact absurd (by rw[←I];simp) N
   refine⟨?_,hQ a' w' ψ j ?_⟩
   ·unfold Region.ready
    rw[List.filter_eq_nil_iff]
    intro i K
    have K:i<g.length:=by rw[←hsz];exact bLo.1 K
    have:=z i K
    have u:i<listed.size:=by omega
    simp [bLQ,u]at this ⊢
    simp [this]
   ·have e:(fun m=>listed.getD m false=true)=fun m=>m<g.length:=by funext m;exact propext ⟨fun h=>k.in_ m h,z m⟩
    rw[e]at k;exact k
  | succ fuel f'=>
   intro listed a' w' ψ j h1 h2 k
   have A:∀i,i∈Region.ready .any all listed↔(i<g.length/\listed.getD i false=false/\∀o,g[i]? =some o->∀m∈kD o,listed.getD m false=true):=fun i=>by
    unfold Region.ready
    rw[List.mem_filter,bLo,hsz]
    constructor
    ·rintro⟨g1,g2⟩
     have u:i<listed.size:=by omega
     have B:all[i]? =g[i]? :=by rw[←bLD,W.eq]
     have l:g[i]? =some g[i]:=by simp [g1]
     rw[B,l]at g2
     simp only[bJI,bKe,bLt,Array.all_eq_true']at g2
     refine⟨g1, ?_,fun o M m J=> ?_⟩
     ·have:=g2.1
      simp [bLQ,u]at this ⊢;exact this
     ·rw[l]at M;injection M with M;subst M
      obtain⟨e,he,rfl⟩:=bKP.1 J
      obtain⟨g',h'⟩:=List.mem_filter.1 he
      have:=g2.2 e (by simpa using g')
      rw[h']at this
      simpa using this
    ·rintro⟨g1,g2,g3⟩
     have u:i<listed.size:=by omega
     have B:all[i]? =g[i]? :=by rw[←bLD,W.eq]
     have l:g[i]? =some g[i]:=by simp [g1]
     refine⟨g1, ?_⟩
     rw[B,l]
     simp only[bJI,bKe,bLt,Array.all_eq_true']
     refine⟨by simp [bLQ,u]at g2 ⊢;exact g2,fun e he=> ?_⟩
     cases I:Region.binds .any e with
     |false=>simp
     |true=>
      have:=g3 _ l e.on (bKP.2 ⟨e,List.mem_filter.2 ⟨by simpa using he,I⟩,rfl⟩)
      simp [this]
   refine⟨fun T=>hQ a' w' ψ j ?_,fun i K=> ?_⟩
   ·have z:∀m,m<g.length->listed.getD m false=true:=by
     intro m
     induction m using Nat.strongRecOn with
     | _ m i'=>
      intro J
      cases I:listed.getD m false with
      |true=>rfl
      |false=>
       have:m∈Region.ready .any all listed:=(A m).2 ⟨J,I,fun o M q hq=>i' q (W.low m o M q hq) (by have:=W.low m o M q hq;omega)⟩
       rw[T]at this;cases this
    have e:(fun m=>listed.getD m false=true)=fun m=>m<g.length:=by funext m;exact propext ⟨fun h=>k.in_ m h,z m⟩
    rw[e]at k;exact k
   ·obtain⟨g1,g2,g3⟩:=(A i).1 K
    have l:g[i]? =some g[i]:=by simp [g1]
    have u:i<listed.size:=by omega
    have L:At ext V g S av Γ a w (fun m=>listed.getD m false=true) a' w' ψ j i g[i]:=⟨k,l,by rw[g2];simp,g3 _ l,fun m J=>hf m (by omega),.inr hf,hs,H,Z,hd⟩
    refine L.step W E F G fun a'' D ψ' vals' h=> ?_
    refine f' _ a'' D ψ' vals' (by simp [h1]) ?_ ?_
    ·have U:listed.toList[i]'(by simpa using u)=false:=by simp [bLQ,u]at g2 ⊢;exact g2
     have X:false∈listed.toList:=by rw[←U];exact List.getElem_mem _
     have Y:0<listed.toList.count false:=List.count_pos_iff.2 X
     rw[Array.toList_setIfInBounds,List.count_set (by simpa using u),U]
     simp
     simp at h2 Y
     omega
    ·have e:(fun m=>(listed.setIfInBounds i true).getD m false=true)=fun m=>listed.getD m false=true\/m=i:=by
      funext m
      apply propext
      by_cases e:m=i
      ·subst e;simp [bLQ,u]
      ·simp only[e,or_false]
       rw[bM4,Array.getElem?_setIfInBounds_ne (fun h=>e h.symm),←bM4]
     rw[e];exact h
 refine main all.size _ a w Γ (fun _=>undef) (by simp [hsz]) (by simp) ?_
 have e:(fun m=>(bMz all.size false).getD m false=true)=fun _=>False:=by
  funext m
  simp only[bLQ,Array.size_replicate]
  split<;>simp
 rw[e];exact oG.start hs _
end
end
section
variable {r:AV×St}{P:bR8}{ext:Bool}
theorem aX8{N:Nat}:∀ {l:List bRa},lN N l=true->∀(m:Nat) (o:bRa) (d:Nat),l[m]? =some o->o.dst=some d->d<N:=by
 intro l
 induction l with
 |nil=>intro _ m o d h;simp at h
 |cons x l ih=>
  intro h m o d y B
  obtain⟨h1,h2⟩:=aM8 h
  cases m with
  |zero=>simp at y;subst y;exact h1 d B
  |succ m=>exact ih h2 m o d (by simpa using y) B
section
variable {pr:cN}{all:Array bRa}{ih:IH}{V:aT}{c:List bRa}{S:Nat->gU}{av:Nat->AV}
theorem Trans.ro_hid{o:bRa}{p:gQ}{s s':gU}{x:AV}(h:Trans P pr all ih V o p s x s'):s'.st.ro=s.st.ro/\s'.st.hid=s.st.hid:=by
 obtain⟨_,want,_,hw⟩:=h
 cases hw with
 |pass _ hs _=>rw[hs];exact⟨rfl,rfl⟩
 |tot _ _ _ _ hs _=>rw[hs];exact⟨rfl,rfl⟩
 |shy _ _ _ _ _ hs _=>rw[hs];exact⟨rfl,rfl⟩
 |ext _ _ _ _ _ hs _=>rw[hs];exact⟨rfl,rfl⟩
 |sto _ _ _ _ _ _ _ _ _ _ _ _ _ _ _ _ _ _ _ _ _ hs _=>rw[hs];exact⟨rfl,rfl⟩
theorem bHm(g':eS c=true)(h':all.toList=c){st:St}(K:st.ro<=st.nxt.nat)(h0:S 0=⟨[],.nil,st⟩)(hS:∀i o p,(gP ext c)[i]? =some (o,p)->Trans P pr all ih V o p (S i) (av i) (S (i+1))):lT ext P pr all ih V c S av:=by
 obtain⟨h1,h2⟩:=aEU g'
 have R:∀i o,c[i]? =some o->Trans P pr all ih V o (iD ext c (dL c []) i) (S i) (av i) (S (i+1)):=fun i o ho=>hS i o _ (aLU ho)
 have T:∀i,i<=c.length->(S i).st.ro=(S 0).st.ro/\(S i).st.hid=(S 0).st.hid:=by
  intro i
  induction i with
  |zero=>intro _;exact⟨rfl,rfl⟩
  |succ i i'=>
   intro X
   obtain⟨q1,q2⟩:=i' (by omega)
   obtain⟨q3,q4⟩:=(R i c[i] (by simp [show i<c.length from X])).ro_hid
   exact⟨q3.trans q1,q4.trans q2⟩
 exact⟨h',h1,h2,R,fun i X=>(T i X).1,by(rw[h0];exact K),fun i X=>(T i X).2,by rw[h0]⟩
variable (W:lT ext P pr all ih V c S av)
variable {Γ:aP}{a:Act}{w:bR3}{a':Act}{w':bR3}{ψ:aP}{C:Nat->bR4}
include W
theorem lT.done(hs:dQ (S 0).st Γ w)(j':fJ Γ .nil V a.tmps)(L:(S 0).L= .nil)(B:∀(m:Nat) (o:bRa) (d:Nat),c[m]? =some o->o.dst=some d->d<a.tmps.size)(h:oG ext c S av Γ a w (fun m=>m<c.length) a' w' ψ C):
  dH (S 0).st Γ w (S c.length).st ψ w'/\fJ ψ (S c.length).L V a'.tmps:=by
 have hf:=h.fact
 have f:∀ {m k:Nat},m<=k->k<=c.length->(S m).n<=(S k).n:=fun h1 h2=>pJ hf h1 h2
 have Y:=W.ro c.length (bJE _)
 have I:=W.hid c.length (bJE _)
 have u:∀id,(S c.length).st.vis id↔(S 0).st.vis id:=aGA I
 have v:∀id,dE (cS S) (fun m=>m<c.length) id c.length=Tr.find id (S c.length).st.heap:=fun id=>aPN fun m y _=>y
 have g:∀ {id q},Γ id=some q->id.nat<(S 0).n:=fun {id q} hq=>by
  rcases bJS id.nat (S 0).n with h1|h1
  ·exact h1
  ·rw[hs.fresh id h1]at hq;cases hq
 have E:aP.le Γ ψ:=fun id q hq=>by rw[h.base id (g hq)];exact hq
 have Z:∀n,aP.le (ψ.below n) ψ:=fun n id q hq=>(aP.below_of hq).2
 refine⟨⟨⟨fun id b hl=> ?_,fun id M b b' p s s' h1 h2 k' h3 h4=> ?_,fun id hid=> ?_,fun id hid=> ?_,hs.glob.mono E,by rw[h.fl,Y];exact hs.flo⟩,E,h.fl,h.base,h.os,h.tape,h.output,h.hsize,Y,I,f (bJJ _) (bJE _),h.frame,fun q id b s h1 h2 h3 h4=> ?_,fun id h1 h2=> ?_⟩, ?_⟩
 ·obtain⟨p,s,g1,g2,g3⟩:=h.blk id b ((u id).1 hl.1) ((v id).trans hl.2)
  exact⟨p,s,g1,g2,g3.mono (Z _)⟩
 ·exact h.inj id M b b' p s s' ((u id).1 h1.1) ((u M).1 h2.1) ((v id).trans h1.2) ((v M).trans h2.2) k' h3 h4
 ·cases hp:ψ id with
  |none=>rfl
  |some q=>
   have hid:(S c.length).n<=id.nat:=hid
   rcases h.dom id q hp with h1|⟨j,hj,h1,h2⟩
   ·have:=f (bJJ c.length) (bJE _);omega
   ·have:=f (show j+1<=c.length from hj) (bJE _);omega
 ·exact xU hs hf c.length (bJE _) id hid
 ·exact h.wri id b q s ((u id).1 h2.1) ((v id).trans h2.2) h3 h4 h1
 ·have key:∀m,m<=c.length->Tr.find id (S m).st.heap=Tr.find id (S 0).st.heap:=by
   intro m
   induction m with
   |zero=>intro _;rfl
   |succ m z=>
    intro y
    have h3:=(hf m y).prot id (bJK h1 (f (bJJ _) (by omega))) (h2.elim .inl fun h=> .inr (.inl h))
    have h4:Tr.find id (S (m+1)).st.heap=Tr.find id (S m).st.heap:=Classical.byContradiction h3
    exact h4.trans (z (by omega))
  exact key _ (bJE _)
 ·have l':∀m,m<=c.length->∀t b,(S m).L.look V t=some b->t<a.tmps.size/\CR ψ b (rQ (a.tmps.getD t undef) (fun m=>(c[m]?).bind (·.dst)) C (fun m=>m<c.length) t m):=by
   intro m
   induction m with
   |zero=>
    intro _ t b g
    rw[L]at g
    obtain⟨g1,g2⟩:=j' t b g
    exact⟨g1,g2.mono E⟩
   | succ m z=>
    intro y t b g
    obtain⟨om,H,hT⟩:=W.trans_of (show m<c.length from y)
    rw[hT.slot]at g
    have F:(c[m]?).bind (·.dst)=om.dst:=by rw[H];rfl
    cases A:om.dst with
    |none=>
     rw[A]at g
     obtain⟨g1,g2⟩:=z (by omega) t b g
     refine⟨g1, ?_⟩
     rw[aAA (by rintro⟨_,e⟩;rw[F,A]at e;cases e)];exact g2
    | some d=>
     rw[A]at g
     have O:(if d=t then some (av m)else(S m).L.look V t)=some b:=g
     clear g
     split at O
     ·rename_i e
      subst e
      injection O with g
      refine⟨B m om d H A, ?_⟩
      rw[aDz (D:=fun m=>m<c.length) (m:=m) ⟨y,by rw[F,A]⟩,←g]
      exact(h.res m y).mono (Z _)
     ·rename_i e
      obtain⟨g1,g2⟩:=z (by omega) t b O
      refine⟨g1, ?_⟩
      rw[aAA (by rintro⟨_,e'⟩;rw[F,A]at e';injection e' with e';exact e e')];exact g2
  intro t b g
  obtain⟨g1,g2⟩:=l' _ (bJE _) t b g
  exact⟨by rw[h.size];exact g1,by rw[h.slot t];exact g2⟩
theorem lT.look(L:(S 0).L= .nil){n:Nat}(hn:n ∉ dstsOf c)(V':aT):(S c.length).L.look V' n=aT.nil.look V' n:=by
 have key:∀m,m<=c.length->(S m).L.look V' n=aT.nil.look V' n:=by
  intro m
  induction m with
  |zero=>intro _;rw[L]
  | succ m z=>
   intro y
   obtain⟨om,H,hT⟩:=W.trans_of (show m<c.length from y)
   rw[hT.slot,aNU (fun d B e=>hn ?_)]
   ·exact z (by omega)
   ·subst e
    exact bMf.2 ⟨om,List.mem_of_getElem? H,B⟩
 exact key _ (bJE _)
end
theorem bAw{pr:cN}(c':P.follows .mixedOrders=true)(m':lH P pr){ih:IH}(n':pX P ih)(o':mF P)(U:FI)(id:Nat)(c:Array bRa):aGc P U (.region id c true) (aGN P pr ext U c ih):=fun {V st k r Γ a w} h hs hl hw hN Q hQ=>by
 have h:(Bool.rec (motive:=fun _=>IH->rR) (fun _ _ _ _=>none) (fun ih V st k=>bQ (Nat.ble st.ro st.nxt.nat) (rB P pr c ih (gP ext c.toList) [] .nil V st (zO (iN U.1 c.toList) V k)) none) (lN U.2 c.toList&&eS c.toList)) ih V st k=some r:=h
 cases B:(lN U.2 c.toList&&eS c.toList)with
 |false=>rw[B]at h;cases h
 |true=>
  rw[B]at h
  rw[bJI]at B
  obtain⟨K,h⟩:=eE h
  obtain⟨S,av,h0,hk,hS⟩:=aXC (gP ext c.toList) ⟨[],.nil,st⟩ _ h
  rw[aLZ]at hk
  have W:=bHm (P:=P) B.2 rfl (bJP K) h0 hS
  have L:(S 0).L= .nil:=by rw[h0]
  have J:(S 0).st=st:=by rw[h0]
  have d':dQ (S 0).st Γ { w with drawn:=w.drawn+1 }:=by rw[J];exact hs.drew rfl
  have f':∀(m:Nat) (o:bRa) (d:Nat),c.toList[m]? =some o->o.dst=some d->d<a.tmps.size:=fun m o d h1 h2=>bJK (aX8 B.1 m o d h1 h2) hN
  refine wp_region_any c' (W.any m' n' o' d' hl L f' fun a' w' ψ C G=> ?_)
  obtain⟨g1,g2⟩:=W.done d' hl L f' G
  obtain⟨V',q1,q2,q3⟩:=aMY hk hw fun n hn V'=>W.look L hn V'
  rw[J]at g1
  exact hQ .normal V' _ a' w' ψ q1 q2 ((dH.drew (w':={ w with drawn:=w.drawn+1 }) hs rfl rfl rfl rfl).trans g1) (q3 ψ _ g2) G.size G.dfr
end
section
section
variable (P:bR8)(pr:cN)(ext:Bool)
def bJp(U:FI)(a b:Code):IH->rR:=fun ih V st k=>ih U a V st fun o V st=>eD.rec (fun V st=>ih U b V st k) (fun i=>k (.exit i)) (k .ret) o V st
def bIN(U:FI)(x:bR7)(a b:Code):IH->rR:=fun ih V st k=>cF x .nil V fun y=>oU y fun t=>ih U (Bool.rec b a t) V st k
def bHy(U:FI)(id:Nat)(c:Code):IH->rR:=fun ih V st k=>ih U c V st fun o=>eD.rec (k .normal) (fun i=>Bool.rec (k (.exit i)) (k .normal) (Nat.beq i id)) (k .ret) o
def wC(U:FI)(c:Code)(n:Nat):IH->rR:=Nat.rec (fun _ _ _ _=>none) (fun _ rest ih V st k=>ih U c V st fun o V st=>eD.rec (fun V st=>rest ih V st k) (fun i=>k (.exit i)) (k .ret) o V st) n
def sC:Nat:=18446744073709551616
def aEB:IH->rR:=fun _ _ _ _=>none
def aUa(U:FI):Code->IH->rR:=
 Code.rec (fun _ V st k=>k .normal V st) (fun _ F d=>Bool.rec (aGp P pr U F) (aGN P pr ext U F) d) (fun a b _ _=>bJp U a b) (fun x a b _ _=>bIN U x a b) (fun id c _=>bHy U id c) (fun c _=>wC U c sC) (fun _ _ _ _ _ _=>aEB) (fun id _ V st k=>k (.exit id) V st) (fun _ _=>aEB) (fun _=>aEB) (fun _=>aEB) (fun _ V st k=>k .ret V st) (fun _=>aEB)
def cC(n:Nat):IH:=Nat.rec (fun _ _ _ _ _=>none) (fun _ ih U c=>aUa P pr ext U c ih) n
def qK(n:Nat)(f:bR9)(args:List AV)(st:St)(k:KS):OR:=eN P pr f (cC P pr ext n) args st k
end
variable {r:AV×St}{P:bR8}{ext:Bool}
theorem bBD{ih:IH}(l:pX P ih)(U:FI)(c:Code)(Q:Exit->Act->bR3->Prop):∀(n:Nat) {V:aT} {st:St} {k:eD->aT->St->OR} {Γ:aP} {a:Act} {w:bR3},wC U c n ih V st k=some r->dQ st Γ w->fJ Γ .nil V a.tmps->aAM V U.1->U.2<=a.tmps.size->
  (∀o V' st' a' w' Γ',k o V' st'=some r->aAM V' U.1->dH st Γ w st' Γ' w'->fJ Γ' .nil V' a'.tmps->a'.tmps.size=a.tmps.size->a'.defers=a.defers->Q (aUH o) a' w')->Code.rounds P c Q n a w:=by
 intro n
 induction n with
 |zero=>intro V st k Γ a w h;cases h
 |succ n I=>
  intro V st k Γ a w h hs q s z j
  rw[rounds_succ]
  have h:ih U c V st (fun o V st=>eD.rec (motive:=fun _=>aT->St->OR) (fun V st=>wC U c n ih V st k) (fun i=>k (.exit i)) (k .ret) o V st)=some r:=h
  refine l U c h hs q s z _ fun o V' st' a' w' Γ' u C A D B E=> ?_
  cases o with
  |normal=>exact I (u:wC U c n ih V' st' k=some r) A.sim D C (by rw[B];exact z) fun o V2 G a2 J Γ2 g1 g2 g3 g4 K L=>j o V2 G a2 J Γ2 g1 g2 (A.trans g3) g4 (K.trans B) (L.trans E)
  |exit id=>exact j (.exit id) V' st' a' w' Γ' u C A D B E
  |ret=>exact j .ret V' st' a' w' Γ' u C A D B E
theorem bAf{pr:cN}(g:P.follows .mixedOrders=true)(m:lH P pr){ih:IH}(l:pX P ih)(p:mF P)(U:FI)(c:Code):aGc P U c (aUa P pr ext U c ih):=by
 cases c with
 |skip=>intro V st k r Γ a w h hs q s z Q j;exact wp_skip (j .normal V st a w Γ h s (.refl hs) q rfl rfl)
 |region id F d=>
  cases d with
  |false=>exact aYu m l p U id F
  |true=>exact bAw g m l p U id F
 |seq x y=>
  intro V st k r Γ a w h hs q s z Q j
  have h:ih U x V st (fun o V st=>eD.rec (motive:=fun _=>aT->St->OR) (fun V st=>ih U y V st k) (fun i=>k (.exit i)) (k .ret) o V st)=some r:=h
  refine wp_seq (l U x h hs q s z _ fun o V' st' a' w' Γ' u C A D B E=> ?_)
  cases o with
  |normal=>exact l U y (u:ih U y V' st' k=some r) A.sim D C (by rw[B];exact z) Q fun o V2 G a2 J Γ2 g1 g2 g3 g4 K L=>j o V2 G a2 J Γ2 g1 g2 (A.trans g3) g4 (K.trans B) (L.trans E)
  |exit id=>exact j (.exit id) V' st' a' w' Γ' u C A D B E
  |ret=>exact j .ret V' st' a' w' Γ' u C A D B E
 |cond x t e=>
  intro V st k r Γ a w h hs q s z Q j
  obtain⟨y,N,h0⟩:=fR hs.glob q (h:cF x .nil V _=some r)
  obtain⟨b,rfl,h1⟩:=aFF h0
  have h1:ih U (Bool.rec e t b) V st k=some r:=h1
  refine wp_cond (t:=b) N.inv_b ?_
  cases b with
  |false=>exact l U e h1 hs q s z Q j
  |true=>exact l U t h1 hs q s z Q j
 | block id c=>
  intro V st k r Γ a w h hs q s z Q j
  have h:ih U c V st (fun o=>eD.rec (motive:=fun _=>aT->St->OR) (k .normal) (fun i=>Bool.rec (motive:=fun _=>aT->St->OR) (k (.exit i)) (k .normal) (Nat.beq i id)) (k .ret) o)=some r:=h
  refine wp_block (l U c h hs q s z _ fun o V' st' a' w' Γ' u C A D B E=> ?_)
  cases o with
  |normal=>exact j .normal V' st' a' w' Γ' u C A D B E
  | exit i=>
   have u:(Bool.rec (motive:=fun _=>aT->St->OR) (k (.exit i)) (k .normal) (Nat.beq i id)) V' st'=some r:=u
   show if i=id then _ else _
   cases H:Nat.beq i id with
   |true=>
    rw[H]at u
    rw[if_pos (bJY H)]
    exact j .normal V' st' a' w' Γ' u C A D B E
   |false=>
    rw[H]at u
    rw[if_neg (Nat.ne_of_beq_eq_false H)]
    exact j (.exit i) V' st' a' w' Γ' u C A D B E
  |ret=>exact j .ret V' st' a' w' Γ' u C A D B E
 |loop c=>
  intro V st k r Γ a w h hs q s z Q j
  have h:wC U c sC ih V st k=some r:=h
  exact wp_loop_rounds sC (bBD l U c Q sC h hs q s z j)
 |exit id=>intro V st k r Γ a w h hs q s z Q j;exact wp_exit (j (.exit id) V st a w Γ h s (.refl hs) q rfl rfl)
 |ret=>intro V st k r Γ a w h hs q s z Q j;exact wp_ret (j .ret V st a w Γ h s (.refl hs) q rfl rfl)
 |_=>intro V st k r Γ a w h;cases h
theorem aSK{pr:cN}(g:P.follows .mixedOrders=true)(m:lH P pr)(p:mF P):∀n,pX P (cC P pr ext n)
 |0=>fun U c=>by intro V st k r Γ a w h;cases h
 |n+1=>fun U c=>bAf g m (aSK g m p n) p U c
theorem bHi{pr:cN}(g:P.follows .mixedOrders=true)(m:lH P pr)(p:mF P){n:Nat}{f:bR9}{args:List AV}{st:St}{k:KS}(h:qK P pr ext n f args st k=some r){Γ:aP}{w:bR3}(hs:dQ st Γ w){vs:List bR4}(hc:bW Γ args vs):aJi P f vs.toArray st Γ w k r:=
 (aPE m (aSK g m p n) p h hs hc).1
theorem aYr{pr:cN}(g:P.follows .mixedOrders=true)(m:lH P pr)(p:mF P){n:Nat}{f:bR9}{args:List AV}{st:St}(h:qK P pr ext n f args st (fun a st=>some (a,st))=some r){Γ:aP}{w:bR3}(hs:dQ st Γ w){vs:List bR4}(hc:bW Γ args vs):
  Calls P f vs.toArray w fun e w'=>∃v Γ',e= .returned v/\dH st Γ w r.2 Γ' w'/\CR Γ' r.1 v:=
 bHi g m p h hs hc _ fun av st' v w' Γ' M O hc=>by
  injection M with M
  subst M
  exact⟨v,Γ',rfl,O,hc⟩
end
section
open Go Go.RowKit
variable {r:AV×St}{P:bR8}{Γ:aP}
theorem dH.ext{st:St}{w w':bR3}(h:dQ st Γ w)(hx:Below w.heap.size w w'):dH st Γ w st Γ w':=
 ⟨⟨fun id b d=>let ⟨p,s,h1,h2,a⟩:=h.blk id b d;⟨p,s,h1,bJK h2 hx.size,by rw[hx.block p h2];exact a⟩,h.inj,h.fresh,h.top,h.glob,h.flo⟩,
  aP.le_refl _,rfl,fun _ _=>rfl,hx.os,hx.tape,hx.output,hx.size,rfl,rfl,bJE _,fun q hq _=>hx.block q hq,fun q id b s _ h1 h2 a=>⟨id,b,s,h1,h2,a⟩,fun _ _ _=>rfl⟩
end
theorem aYR{P:bR8}(h:P.funcs.toList.all (fun fn=> !(fn.name== "runtime.NumGoroutine"))=true):mF P:=fun f fn hf e args w=>by
 have h1:=bKq.1 h fn (by
  have:=Array.mem_of_getElem? hf
  simpa using this)
 have h2:(fn.name== "runtime.NumGoroutine")=false:=by simpa using h1
 have a:fn.body.isNone=false:=by cases hx:fn.body with
  |none=>exact absurd hx e
  |some c=>rfl
 simp only[callFunc,Sem.run_bind,run_program,Result.andThen_ok,hf,h2,a,bJQ,if_false]
 rfl
section
open Go Go.RowKit
variable {r:AV×St}{P:bR8}{ext:Bool}
def aP.own(sz:Nat->Nat):aP:=⟨fun id=>if id.nat<G0+1 then some (id.nat-1,sz (id.nat-1))else none,0⟩
theorem aP.own_at(sz:Nat->Nat)(id:Id):aP.own sz id=if id.nat<G0+1 then some (id.nat-1,sz (id.nat-1))else none:=rfl
theorem aP.own_gid(sz:Nat->Nat){g:Nat}(h:g<G0):aP.own sz (iH g)=some (g,sz g):=by
 rw[aP.own_at,aC8,if_pos (by omega)]
 rfl
def aBh:List (Nat×cK)->Tr:=List.rec .leaf (fun q _ ih=>Tr.put (some q.2) (iH q.1) ih)
theorem aOa:∀ {gs:List (Nat×cK)} {id:Id} {b:cK},Tr.find id (aBh gs)=some b->∃g,(g,b)∈gs/\id=iH g:=by
 intro gs
 induction gs with
 |nil=>intro id b h;rw[show aBh []= .leaf from rfl,Tr.find_leaf]at h;cases h
 | cons q gs ih=>
  intro id b h
  have h:Tr.find id (Tr.put (some q.2) (iH q.1) (aBh gs))=some b:=h
  by_cases e:iH q.1=id
  ·rw[←e,Tr.put_same]at h
   injection h with h
   exact⟨q.1,by rw[←h];simp,e.symm⟩
  ·rw[Tr.put_other _ _ _ _ e]at h
   obtain⟨g,h1,h2⟩:=ih h
   exact⟨g,by simp [h1],h2⟩
end
section
inductive TV where
 |b (x:Bool)
 |int (k:bR6) (z:Int)
 |str (x:ByteArray)
 |lit (x:bR4)
 |u
 |nil
 |im (sz:Nat) (cs:List TV)
 |e0 (sz:Nat)
 |ow (k off len sz:Nat)
 |po (k off:Nat)
 |pi (cs:List TV) (off:Nat)
 |fn (f:Nat) (first cap:List TV)
 |ag (cs:List TV)
 |tp (vs:List TV)
 /-- A slice without elements, whichever. -/
 |em
 /-- An error, whichever. -/
 |err
def tL(sz:Nat):List TV->TV
 | []=> .em
 |c::l=> .im sz (c::l)
structure Ob where
 how:Nat
 cs:List TV
structure VS where
 nxt:Nat
 ob:Nat->Ob
def VS.dom(s:VS):Nat->Prop:=fun k=>k<s.nxt
def eI:Nat->Prop:=fun _=>False
def VS.set(s:VS)(k:Nat)(o:Ob):VS:=⟨s.nxt,fun j=>if j=k then o else s.ob j⟩
def VS.new(s:VS)(cs:List TV):VS:=⟨s.nxt+1,fun j=>if j=s.nxt then⟨0,cs⟩else s.ob j⟩
abbrev bB:=Nat->Option TV
def bB.upd(e:bB)(t:Nat)(v:TV):bB:=fun j=>if j=t then some v else e j
def aJ:AV->Option TV
 | .b x=>some (.b x)
 | .i k n=>some (.int k n)
 | .m k n=>some (.int k (Int.negSucc n))
 | .v (.string x)=>some (.str x)
 | .v (.slice none 0 0)=>some .nil
 | .v (.agg _)=>none
 | .v (.tuple _)=>none
 | .v x=>some (.lit x)
 | .u=>some .u
 |_=>none
def aG:List AV->Option (List TV)
 | []=>some []
 |a::l=>match aJ a,aG l with |some x,some r=>some (x::r)|_,_=>none
def aM:AV->Option TV
 | .agg cs=>(aG cs).map .ag
 | .tup []=>none
 |a=>aJ a
def TV.cells:TV->List TV
 | .ag cs=>cs
 |x=>[x]
def TV.one:TV->Bool
 | .ag _=>false
 | .tp _=>false
 | .u=>false
 |_=>true
def iO(l:List TV):Bool:=l.all TV.one
def dW(r:bB):bR7->Option TV
 | .tmp t=>r t
 | .const v=>(aC v).bind aM
 | .global _=>none
 | .func f=>some (.fn f [] [])
def lQ(r:bB):List bR7->Option (List TV)
 | []=>some []
 |x::l=>(dW r x).bind fun a=>(lQ r l).bind fun m=>some (a::m)
def TV.nat:TV->Option Nat
 | .int _ (.ofNat m)=>some m
 |_=>none
def TV.bool:TV->Option Bool
 | .b x=>some x
 |_=>none
def hH(new:List TV)(off:Nat)(cs:List TV):Option (List TV):=if off+new.length<=cs.length then some (cs.take off++new++cs.drop (off+new.length))else none
def jK(m off:Nat)(cs:List TV):Option (List TV):=if off+m<=cs.length then some ((cs.drop off).take m)else none
def jJ:bR6->Int
 | .i8=>127| .i16=>32767| .i32=>2147483647| .i64=>9223372036854775807| .u8=>255| .u16=>65535| .u32=>4294967295| .u64=>18446744073709551615
def dX(op:BinOp)(k:bR6)(x y:Int):Option TV:=
 match op with
 | .add=>some (.int k (k.wrap (x+y)))
 | .sub=>some (.int k (k.wrap (x-y)))
 | .mul=>some (.int k (k.wrap (x*y)))
 | .quo=>if 0<=x/\0<y/\x<=jJ k then some (.int k (x/y))else none
 | .rem=>if 0<=x/\0<y/\x<=jJ k then some (.int k (x%y))else none
 | .and=>if 0<=x/\x<=jJ k/\0<=y/\y<=jJ k then some (.int k (Nat.land x.toNat y.toNat:Nat))else none
 | .or=>if 0<=x/\x<=jJ k/\0<=y/\y<=jJ k then some (.int k (Nat.lor x.toNat y.toNat:Nat))else none
 | .xor=>if 0<=x/\x<=jJ k/\0<=y/\y<=jJ k then some (.int k (Nat.xor x.toNat y.toNat:Nat))else none
 | .eql=>some (.b (decide (x=y)))
 | .neq=>some (.b (!decide (x=y)))
 | .lss=>some (.b (decide (x<y)))
 | .leq=>some (.b (decide (x<=y)))
 | .gtr=>some (.b (decide (y<x)))
 | .geq=>some (.b (decide (y<=x)))
 |_=>none
def qZ(op:BinOp)(k:bR6)(x y:Nat):Option TV:=
 match op with
 | .shl=>some (.int k (k.wrap (x*2^(min y (bitsN' k)))))
 | .shr=>some (.int k (x/2^(min y (bitsN' k)):Nat))
 |_=>none
 where bitsN':bR6->Nat
 | .i8=>8| .i16=>16| .i32=>32| .i64=>64| .u8=>8| .u16=>16| .u32=>32| .u64=>64
def bU(et:fP)(op:BinOp):TV->TV->Option TV
 | .int k x,.int w y=>match op with
  | .shl=>if 0<=x/\0<=y then qZ .shl k x.toNat y.toNat else none
  | .shr=>if 0<=x/\0<=y then qZ .shr k x.toNat y.toNat else none
  |op=>if k=w then dX op k x y else none
 | .b x,.b y=>match et,op with
  | .boo,.eql=>some (.b (x==y))
  | .boo,.neq=>some (.b (!(x==y)))
  |_,_=>none
 | .str x,.str y=>match op with
  | .eql=>some (.b (x.toList==y.toList))
  | .neq=>some (.b (!(x.toList==y.toList)))
  | .add=>if x.size+y.size<=100000000 then some (.str (x++y))else none
  |_=>none
 | .nil,.nil=>match et,op with
  | .sli,.eql=>some (.b true)
  | .sli,.neq=>some (.b false)
  |_,_=>none
 | .im _ (_::_),.nil=>match et,op with
  | .sli,.eql=>some (.b false)
  | .sli,.neq=>some (.b true)
  |_,_=>none
 | .ow _ _ _ _,.nil=>match et,op with
  | .sli,.eql=>some (.b false)
  | .sli,.neq=>some (.b true)
  |_,_=>none
 |_,_=>none
def vD(op:UnOp):TV->Option TV
 | .b x=>match op with | .not=>some (.b (!x))|_=>none
 | .int k x=>match op with | .neg=>some (.int k (k.wrap (-x)))|_=>none
 |_=>none
section
variable (P:bR8)
def qM(t:bR5)(off:Nat)(cs:List TV):Option TV:=if jZ P t then(jK (aY P t) off cs).map .ag else cs[off]?
def kP(t:bR5)(s:VS):TV->Option TV
 | .pi cs off=>qM P t off cs
 | .po k off=>if k<s.nxt/\(s.ob k).how≠2 then qM P t off (s.ob k).cs else none
 |_=>none
def aAO(t:bR5)(s:VS)(v:TV):TV->Option VS
 | .po k off=>if k<s.nxt/\(s.ob k).how=0/\v.cells.length=aY P t/\iO v.cells=true then(hH v.cells off (s.ob k).cs).map fun cs=>s.set k ⟨0,cs⟩else none
 |_=>none
def pO(t:bR5):Option (List TV):=(iK P t).bind fun z=>aG z.cells
def aD(place:Nat->Option (Nat×Nat))(r:bB):List (Nat×bR7)->List TV->Option (List TV)
 | [],cs=>some cs
 |p::l,cs=>(place p.1).bind fun q=>(dW r p.2).bind fun a=>if a.cells.length=q.2/\iO a.cells=true then(hH a.cells q.1 cs).bind fun cs=>aD place r l cs else none
def jW(t:bR5):TV->Option TV
 | .str x=>if cW P t=none/\nH P t=true then some (.int .i64 x.size)else none
 | .nil=>if cW P t=none then none else some (.int .i64 0)
 | .im sz cs=>match cW P t with |some e=>if sz=aY P e/\0<sz then some (.int .i64 (cs.length/sz:Nat))else none|none=>none
 | .ow _ _ len _=>if cW P t=none then none else some (.int .i64 len)
 | .e0 _=>if cW P t=none then none else some (.int .i64 0)
 | .em=>if cW P t=none then none else some (.int .i64 0)
 |_=>none
def eL(r:bB)(d:Nat):Option bR7->Option Nat
 |none=>some d
 |some x=>(dW r x).bind TV.nat
def jB(t:bR5)(r:bB)(x:TV)(lo g mx:Option bR7):Option TV:=
 match cW P t with
 |none=>(match x with
  | .str s=>if nH P t=true/\mx.isNone=true then(eL r 0 lo).bind fun l=>(eL r s.size g).bind fun h=>if l<=h/\h<=s.size then some (.str (s.extract l h))else none else none
  |_=>none)
 | some e=>if dG P e=true then match mx with
  |none=>match x with
   | .nil=>(eL r 0 lo).bind fun l=>(eL r 0 g).bind fun h=>if l=0/\h=0 then some .nil else none
   | .em=>(eL r 0 lo).bind fun l=>(eL r 0 g).bind fun h=>if l=0/\h=0 then some .em else none
   | .im sz cs=>if sz=aY P e/\0<sz then(eL r 0 lo).bind fun l=>(eL r (cs.length/sz) g).bind fun h=>if l<=h/\h*sz<=cs.length then some (tL sz ((cs.drop (l*sz)).take ((h-l)*sz)))else none else none
   | .ow k off len sz=>if sz=aY P e then(eL r 0 lo).bind fun l=>(eL r len g).bind fun h=>if l<=h/\h<=len then(if l=h then(if l=0 then some (.ow k off 0 sz)else some .em)else some (.ow k (off+l*sz) (h-l) sz))else none else none
   |_=>none
  |some m=>if g.isSome then(eL r 0 lo).bind fun l=>(eL r 0 g).bind fun h=>(eL r 0 (some m)).bind fun m=>if l=0/\h=0/\m=0 then(match x with
   | .nil=>some .nil
   | .em=>some .em
   | .im sz cs=>if sz=aY P e/\cs≠ []then some (.e0 sz)else none
   |_=>none)else none else none
  else none
def mI(t:bR5)(x:TV)(j:Nat):Option TV:=
 match cW P t with
 | none=>match aEA P t with
  |some (n,e)=>if dG P e=true/\j<n then match x with
   | .po k off=>some (.po k (off+j*aY P e))
   | .pi cs off=>some (.pi cs (off+j*aY P e))
   |_=>none else none
  |none=>none
 |some e=>if dG P e=true then match x with
  | .im sz cs=>if sz=aY P e/\0<sz/\(j+1)*sz<=cs.length then some (.pi cs (j*sz))else none
  | .ow k off len sz=>if sz=aY P e/\j<len then some (.po k (off+j*sz))else none
  |_=>none else none
def aQ(s:bR5)(f:Nat):TV->Option TV
 | .po k off=>(lI P s f).bind fun fo=>if dN P fo.2=true then some (.po k (off+fo.1))else none
 | .pi cs off=>(lI P s f).bind fun fo=>if dN P fo.2=true then some (.pi cs (off+fo.1))else none
 |_=>none
def jC(s:VS)(sz:Nat):TV->Option (List TV×Nat)
 | .nil=>some ([],0)
 | .im i cs=>if i=sz/\0<sz then some (cs,cs.length/sz)else none
 | .e0 _=>some ([],0)
 | .em=>some ([],0)
 | .ow k off len i=>if i=sz/\k<s.nxt/\(s.ob k).how≠2 then(jK (len*sz) off (s.ob k).cs).map (·,len)else none
 |_=>none
def gT(e:bR5)(s:VS)(x y:TV):Option (TV×VS):=
 if dN P e=true then(jC s (aY P e) y).bind fun p=>
  if p.2=0 then(match x with
   | .nil=>some (x,s)
   | .ow _ _ _ _=>some (x,s)
   | .im _ _=>some (x,s)
   | .e0 _=>some (x,s)
   | .em=>some (x,s)
   |_=>none)
  else if p.2<=10000000/\iO p.1=true then(match x with
   | .nil=>some (.ow s.nxt 0 p.2 (aY P e),s.new p.1)
   | .e0 sz=>if sz=aY P e then some (.ow s.nxt 0 p.2 sz,s.new p.1)else none
   | .ow k off len sz=>if off=0/\sz=aY P e/\k<s.nxt/\(s.ob k).how=0/\(s.ob k).cs.length=len*sz/\len<=10000000 then some (.ow s.nxt 0 (len+p.2) sz,(s.set k ⟨2,[]⟩).new ((s.ob k).cs++p.1))else none
   |_=>none)
  else none
 else none
def uZ(e:bR5)(s:VS)(x y:TV):Option (TV×VS):=
 if dN P e=true then match x with
  | .ow k off len sz=>if sz=aY P e/\k<s.nxt/\(s.ob k).how=0 then(jC s (aY P e) y).bind fun p=>
    if min p.2 len=0 then some (.int .i64 ((0:Nat):Int),s)
    else if min p.2 len<=10000000/\iO (p.1.take (min p.2 len*sz))=true then(hH (p.1.take (min p.2 len*sz)) off (s.ob k).cs).map fun cs=>(.int .i64 ((min p.2 len:Nat):Int),s.set k ⟨0,cs⟩)
    else none
   else none
  |_=>none
 else none
end
end
section
mutual
def cI:TV->Bool
 | .ow _ _ _ _=>false
 | .po _ _=>false
 | .pi _ _=>false
 | .im _ cs=>dI cs
 | .fn _ a b=>dI a&&dI b
 | .ag cs=>dI cs
 | .tp vs=>dI vs
 | .b _=>true
 | .int _ _=>true
 | .str _=>true
 | .lit _=>true
 | .u=>true
 | .nil=>true
 | .e0 _=>true
 | .em=>true
 | .err=>true
def dI:List TV->Bool
 | []=>true
 |a::l=>cI a&&dI l
end
mutual
def fE:Nat->VS->TV->Option (TV×VS)
 |0,_,_=>none
 |m+1,s,.ow k off len sz=>if k<s.nxt/\(s.ob k).how≠2 then(jK (len*sz) off (s.ob k).cs).bind fun l=>(cY m (s.set k ⟨1,(s.ob k).cs⟩) l).map fun p=>(.im sz p.1,p.2)else none
 |m+1,s,.ag cs=>(cY m s cs).map fun p=>(.ag p.1,p.2)
 |m+1,s,.tp cs=>(cY m s cs).map fun p=>(.tp p.1,p.2)
 |_+1,s,v=>if cI v then some (v,s)else none
def cY:Nat->VS->List TV->Option (List TV×VS)
 |0,_,_=>none
 |_+1,s,[]=>some ([],s)
 |m+1,s,a::l=>(fE m s a).bind fun p=>(cY m p.2 l).map fun q=>(p.1::q.1,q.2)
end
def cL:Nat:=100000000
mutual
def iB:TV->TV
 | .nil=> .em
 | .e0 _=> .em
 | .im sz cs=>if cs.length=0/\0<sz then .em else .im sz (cG cs)
 | .fn f a b=> .fn f (cG a) (cG b)
 | .ag cs=> .ag (cG cs)
 | .tp vs=> .tp (cG vs)
 | .b x=> .b x
 | .int k z=> .int k z
 | .str x=> .str x
 | .lit x=> .lit x
 | .u=> .u
 | .em=> .em
 | .err=> .err
 | .ow k off len sz=> .ow k off len sz
 | .po k off=> .po k off
 | .pi cs off=> .pi cs off
def cG:List TV->List TV
 | []=>[]
 |a::l=>iB a::cG l
end
abbrev cP:=bR9->List TV->Option (TV×Bool)
abbrev jP:=bR9->List TV->VS->Option (TV×VS)
mutual
def fX:TV->Bool
 | .b _=>true
 | .int _ _=>true
 | .str _=>true
 | .ag l=>lA l
 | .tp l=>lA l
 |_=>false
def lA:List TV->Bool
 | []=>true
 |a::l=>fX a&&lA l
end
def oV:TV->Option TV
 | .tp [t]=>some t
 |_=>none
def pY(R:TV)(own:Bool):TV:=if own then(oV R).getD R else R
def nT(R:TV)(s:VS):Option (TV×VS):=match oV R with
 |some t=>some (t,s)
 |none=>match R with
  | .im sz cs=>if 0<sz/\cs.length%sz=0 then some (.ow s.nxt 0 (cs.length/sz) sz,s.new cs)else none
  | .tp (.im sz cs::l)=>if 0<sz/\cs.length%sz=0 then some (.tp (.ow s.nxt 0 (cs.length/sz) sz::l),s.new cs)else none
  |_=>none
def dC(orc:cP)(f:bR9)(args:List TV)(s:VS):Option (TV×VS):=
 (cY cL s args).bind fun p=>(orc f (cG p.1)).bind fun q=>if q.2 then nT q.1 p.2 else some (q.1,p.2)
def oP:TV->Bool
 | .pi cs _=>dI cs
 |t=>cI t
def pQ:List TV->Bool
 | []=>true
 |a::l=>oP a&&pQ l
def aDy(s:VS):TV->Option (TV×VS)
 | .po k off=>(fE cL s (.ow k 0 (s.ob k).cs.length 1)).bind fun p=>match p.1 with
  | .im _ cs=>some (.pi cs off,p.2)
  |_=>none
 |a=>fE cL s a
def yO:List TV->VS->Option (List TV×VS)
 | [],s=>some ([],s)
 |a::l,s=>(aDy s a).bind fun p=>(yO l p.2).map fun q=>(p.1::q.1,q.2)
def aTv(orc:cP)(f:bR9)(args:List TV)(s:VS):Option (TV×VS):=
 (yO args s).bind fun p=>(orc f (cG p.1)).bind fun q=>if q.2 then nT q.1 p.2 else some (q.1,p.2)
def vX(orc:cP)(f:bR9)(args:List TV)(s:VS):Option (TV×VS):=if (cY cL s args).isSome=true then dC orc f args s else aTv orc f args s
def fF(orc:cP)(f:bR9)(args:List TV)(s:VS):Option (TV×VS):=
 (cY cL s args).bind fun p=>(orc f (cG p.1)).bind fun q=>if q.2 then(match oV q.1 with |some t=>some (t,s)|none=>nT q.1 p.2)else if fX q.1 then some (q.1,s)else some (q.1,p.2)
def vmm(op:BinOp)(args:List TV):Option TV:=match args with
 | [.int k x,.int B y]=>if k=B then(match op with
  | .geq=>some (.int k (max x y))
  | .leq=>some (.int k (min x y))
  |_=>none)else none
 |_=>none
def vni:TV->Option Bool
 | .lit .nilIface=>some true
 | .err=>some false
 |_=>none
def veq:BinOp->Bool->Option TV
 | .eql,b=>some (.b b)
 | .neq,b=>some (.b (!b))
 |_,_=>none
section
variable (P:bR8)(cal:jP)
def aN(h:List bR5)(args:List TV):Option TV:=match h,args with
 |t::_,[x]=>jW P t x
 |_,_=>none
def aK(h:List bR5)(args:List TV)(s:VS):Option (TV×VS):=match h,args with
 | [t,C],[x,y]=>if (cW P C).isSome=true then(cW P t).bind fun e=>gT P e s x y else none
 |_,_=>none
def aCq(h:List bR5)(args:List TV)(s:VS):Option (TV×VS):=match h,args with
 |t::_,[x,y]=>(cW P t).bind fun e=>uZ P e s x y
 |_,_=>none
def jM(b:Builtin)(h:List bR5)(args:List TV)(s:VS):Option (TV×VS):=match b with
 | .len=>(aN P h args).map (·,s)
 | .append=>aK P h args s
 | .copy=>aCq P h args s
 | .max=>(vmm .geq args).map (·,s)
 | .min=>(vmm .leq args).map (·,s)
 |_=>none
def bK(op:Op)(r:bB)(s:VS):Option (TV×VS):=match op with
 | .move x=>(dW r x).map (·,s)
 | .assign x=>(dW r x).map (·,s)
 | .pick c a b=>(dW r c).bind fun y=>y.bool.bind fun t=>(dW r a).bind fun a=>(dW r b).bind fun b=>some (if t then a else b,s)
 | .alloc e=>(pO P e).map fun cs=>(.po s.nxt 0,s.new cs)
 | .box _ v=>(dW r v).bind fun a=>if iO a.cells=true then some (.po s.nxt 0,s.new a.cells)else none
 | .build t ps=>if aAi P t then(pO P t).bind fun z=>(aD (qW P t) r ps.toList z).map fun cs=>(.ag cs,s)else none
 | .buildSlice t len ps=>(cW P t).bind fun e=>if dN P e=true/\len<=1000 then(pO P e).bind fun z=>(aD (fun i=>some (i*aY P e,aY P e)) r ps.toList (bJL len z).flatten).map fun cs=>(.ow s.nxt 0 len (aY P e),s.new cs)else none
 | .load t a=>if dG P t then(dW r a).bind fun a=>(kP P t s a).map (·,s)else none
 | .store t a x=>if dG P t then(dW r a).bind fun a=>(dW r x).bind fun v=>(aAO P t s v a).map (.u, ·)else none
 | .nilCheck x=>(dW r x).bind fun a=>match a with | .po _ _=>some (a,s)| .pi _ _=>some (a,s)| .fn _ _ _=>some (a,s)|_=>none
 | .binOp op t x y _=>if (nF y&&aB7 P t)=true then(dW r x).bind fun a=>(vni a).bind fun b=>(veq op b).map (·,s)else(dW r x).bind fun a=>(dW r y).bind fun b=>(bU (fA P t) op a b).map (·,s)
 | .unOp op _ x=>(dW r x).bind fun a=>(vD op a).map (·,s)
 | .convert src d x=>(nP P src d).bind fun k=>(dW r x).bind fun a=>match a with | .int _ z=>some (.int k (k.wrap z),s)|_=>none
 | .makeFunc (.func f) a b=>(lQ r a.toList).bind fun a=>(lQ r b.toList).bind fun b=>some (.fn f a b,s)
 | .makeSlice t l c=>(cW P t).bind fun e=>if dN P e=true then(pO P e).bind fun z=>(dW r l).bind fun l=>l.nat.bind fun n=>(dW r c).bind fun c=>c.nat.bind fun m=>if n<=m/\m<=10000000 then some (.ow s.nxt 0 n (aY P e),s.new (bJL n z).flatten)else none else none
 | .slice t x lo D mx=>(dW r x).bind fun a=>(jB P t r a lo D mx).map (·,s)
 | .fieldAddr st x f=>(dW r x).bind fun a=>(aQ P st f a).map (·,s)
 | .field t x f=>(dW r x).bind fun a=>match a with | .ag cs=>(lI P t f).bind fun fo=>if dG P fo.2 then(qM P fo.2 fo.1 cs).map (·,s)else none|_=>none
 | .indexAddr t x ix=>(dW r x).bind fun a=>(dW r ix).bind fun j=>j.nat.bind fun j=>(mI P t a j).map (·,s)
 | .index t x ix=>(dW r x).bind fun a=>(dW r ix).bind fun j=>j.nat.bind fun j=>match a with | .str x=>if nH P t then(uM x j).map fun(b:Nat)=>(TV.int .u8 (b:Int),s)else none|_=>none
 | .extract x i=>(dW r x).bind fun a=>match a with | .tp vs=>(vs[i]?).map (·,s)|_=>none
 | .call ⟨.builtin b,args,h⟩=>(lQ r args.toList).bind fun l=>jM P b h.toList l s
 | .call ⟨.value g,args,_⟩=>(dW r g).bind fun g=>(lQ r args.toList).bind fun aa=>match g with | .fn f a b=>cal f (a++aa++b) s|_=>none
 |_=>none
def lM:Op->Bool
 | .move _=>true
 | .assign _=>true
 | .pick _ _ _=>true
 | .alloc _=>true
 | .box _ _=>true
 | .build _ _=>true
 | .buildSlice _ _ _=>true
 | .nilCheck _=>true
 | .binOp _ _ _ _ _=>true
 | .unOp _ _ _=>true
 | .convert _ _ _=>true
 | .makeFunc _ _ _=>true
 | .makeSlice _ _ _=>true
 | .slice _ _ _ _ _=>true
 | .fieldAddr _ _ _=>true
 | .field _ _ _=>true
 | .indexAddr _ _ _=>true
 | .index _ _ _=>true
 | .extract _ _=>true
 | .call ⟨.builtin .len,_,_⟩=>true
 | .call ⟨.builtin .max,_,_⟩=>true
 | .call ⟨.builtin .min,_,_⟩=>true
 |_=>false
def zS(all:Array bRa)(r:bB):Option (Nat×Bool)->Option Bool
 |none=>some true
 |some (g,want)=>((all[g]?).bind (·.dst)).bind fun d=>(r d).bind fun y=>match y with | .b x=>some (x==want)| .u=>some false|_=>none
def iR(d:Option Tmp)(v:TV)(r:bB):bB:=match d with |some d=>r.upd d v|none=>r
def nN(all:Array bRa):List bRa->bB->VS->Option (bB×VS)
 | [],r,s=>some (r,s)
 |o::l,r,s=>(zS all r o.guard).bind fun g=>if g then(bK P cal o.op r s).bind fun p=>nN all l (iR o.dst p.1 r) p.2 else nN all l (iR o.dst .u r) s
end
def TV.blk:TV->Option Nat
 | .po k _=>some k
 |_=>none
def dY(d:List Nat)(r:bB):bB:=fun j=>if d.elem j then none else r j
inductive VR where
 |q
 |ld (k:Option Nat)
 |cl (ad:List Nat)
 |tt
 |st (k:Nat) (ad:List Nat)
structure VO where
 recs:List VR
 clean:Bool
 new:List Nat
def jL:List Bool->List VR->List VR
 |u::us,x::l=>if u then x::jL us l else jL us l
 |_,_=>[]
def uS(r:bB)(s:VS):List Nat->Option (List Nat)
 | []=>some []
 |t::l=>(r t).bind fun v=>match v with | .po k _=>if k<s.nxt/\(s.ob k).how=0 then(uS r s l).map (k:: ·)else none|_=>none
def VR.isQ:VR->Bool
 | .q=>true
 |_=>false
def aGM:VR->List TV->Bool
 | .cl ad,[_,.ow k _ _ _]=> !ad.elem k
 |_,_=>true
def VR.tame:VR->Bool
 | .tt=>false
 | .st _ _=>false
 |_=>true
def VR.okSt(k:Nat):VR->Bool
 | .q=>true
 | .ld (some B)=>B != k
 | .ld none=>true
 | .cl ad=>ad.elem k
 | .tt=>false
 | .st B ad=>B != k&&ad.elem k
def aAN:Op->Bool
 | .alloc _=>true
 | .box _ _=>true
 | .buildSlice _ _ _=>true
 | .makeSlice _ _ _=>true
 |_=>false
def VO.note(b:VO)(x:VR):VO:=⟨x::b.recs,b.clean,b.new⟩
def VO.made(b:VO)(x:VR)(d:Option Tmp):VO:=⟨x::b.recs,b.clean,d.toList++b.new⟩
def VO.turned(b:VO)(x:VR)(d:Option Tmp):VO:=⟨x::b.recs,false,d.toList++b.new⟩
def wP(e:bB)(s:VS)(p:gQ)(b:VO):Option VR:=if p.tot then(if (jL p.un b.recs).all VR.isQ then some .tt else none)else(uS e s p.adr).map .cl
section
variable (P:bR8)(orc:cP)
def uE(o:bRa)(b:VO)(x:VR)(r:bB)(s:VS):Option (TV×VS×VO):=
 match bK P (dC orc) o.op (dY b.new r) s with
 |some q=>some (q.1,q.2,if aAN o.op then b.made x o.dst else b.note x)
 |none=>(bK P (dC orc) o.op r s).map fun q=>(q.1,q.2,b.made x o.dst)
def iJ(e:bB)(o:bRa)(p:gQ)(b:VO)(r:bB)(s:VS):Option (TV×VS×VO):=
 match eT o.op with
 |some none=>if lM o.op then uE P orc o b .q r s else none
 |some (some a)=>if b.clean&&(jL p.un b.recs).all VR.tame then(match (dW (dY b.new r) a).bind fun av=>(bK P (dC orc) o.op (dY b.new r) s).map fun q=>(q.1,q.2,b.note (.ld av.blk))with
  |some y=>some y
  |none=>(dW r a).bind fun av=>(bK P (dC orc) o.op r s).map fun q=>(q.1,q.2,b.made (.ld av.blk) o.dst))else none
 | none=>match o.op with
  | .store _ a _=>if p.tot then(if (jL p.un b.recs).all VR.isQ then(bK P (dC orc) o.op r s).map fun q=>(q.1,q.2,b.turned .tt o.dst)else none)else(dW r a).bind fun a=>match a with
   | .po k _=>(uS e s p.adr).bind fun ad=>if !ad.elem k&&(jL p.un b.recs).all (VR.okSt k)then(bK P (dC orc) o.op r s).map fun q=>(q.1,q.2,b.turned (.st k ad) o.dst)else none
   |_=>none
  | .call ⟨.value _,_,_⟩=>if b.clean&& !p.tot then(uS e s p.adr).bind fun ad=>(bK P (vX orc) o.op r s).bind fun q=>if ad.all (fun k=>(q.2.ob k).how==0)then some (q.1,q.2,b.made (.cl ad) o.dst)else none else none
  | .call ⟨.builtin .append,args,_⟩=>(lQ r args.toList).bind fun l=>match l with
   | .ow _ _ _ _::_=>if p.tot&&(jL p.un b.recs).all VR.isQ then(bK P (dC orc) o.op r s).map fun q=>(q.1,q.2,b.turned .tt o.dst)else none
   |_=>if b.clean then(wP e s p b).bind fun x=>if aGM x l then(bK P (dC orc) o.op r s).map fun q=>(q.1,q.2,b.made x o.dst)else none else none
  | .call ⟨.builtin .copy,_,_⟩=>if p.tot&&(jL p.un b.recs).all VR.isQ then(bK P (dC orc) o.op r s).map fun q=>(q.1,q.2,b.turned .tt o.dst)else none
  |op=>if lM op then(wP e s p b).bind fun x=>uE P orc o b x r s else none
def mQ(all:Array bRa)(e:bB):List (bRa×gQ)->VO->bB->VS->Option (bB×VS)
 | [],_,r,s=>some (r,s)
 |q::l,b,r,s=>(zS all (dY q.2.del r) q.1.guard).bind fun g=>if g then(iJ P orc e q.1 q.2 b (dY q.2.del r) s).bind fun x=>mQ all e l x.2.2 (iR q.1.dst x.1 r) x.2.1 else mQ all e l (b.note .q) (iR q.1.dst .u r) s
end
def pP(keep:List Nat)(e r:bB):bB:=fun j=>if keep.elem j then r j else e j
section
variable (P:bR8)(orc:cP)(cal:jP)
def aC1(U:FI)(A:Array bRa)(d:Bool)(e:bB)(s:VS):Option (bB×VS):=
 if lN U.2 A.toList then if d then(if eS A.toList then(mQ P orc A e (gP true A.toList) ⟨[],true,[]⟩ e s).map fun p=>(pP (iN U.1 A.toList) e p.1,p.2)else none)
  else(nN P cal A A.toList e s).map fun p=>(pP (iN U.1 A.toList) e p.1,p.2)else none
def mN(c:bB->VS->Option (eD×bB×VS)):Nat->bB->VS->Option (eD×bB×VS)
 |0,_,_=>none
 |m+1,e,s=>(c e s).bind fun p=>match p with
  | (.normal,e,s)=>mN c m e s
  | (o,e,s)=>some (o,e,s)
def gR(U:FI):Code->bB->VS->Option (eD×bB×VS)
 | .skip,e,s=>some (.normal,e,s)
 | .region _ A d,e,s=>(aC1 P orc cal U A d e s).map fun p=>(.normal,p.1,p.2)
 | .seq a b,e,s=>(gR U a e s).bind fun p=>match p with
  | (.normal,e,s)=>gR U b e s
  | (o,e,s)=>some (o,e,s)
 | .cond x a b,e,s=>(dW e x).bind fun y=>y.bool.bind fun t=>if t then gR U a e s else gR U b e s
 | .block id c,e,s=>(gR U c e s).map fun p=>match p with
  | (.exit i,e,s)=>(if i=id then .normal else .exit i,e,s)
  | (o,e,s)=>(o,e,s)
 | .loop c,e,s=>mN (gR U c) sC e s
 | .exit id,e,s=>some (.exit id,e,s)
 | .ret,e,s=>some (.ret,e,s)
 |_,_,_=>none
def aAE(e:bB)(s:VS):ResultVar->Option TV
 | .tmp t=>e t
 | .cell a t=>if dG P t then(e a).bind fun a=>match a with | .po _ _=>kP P t s a|_=>none else none
def iU(e:bB)(s:VS):List ResultVar->Option (List TV)
 | []=>some []
 |x::l=>(aAE P e s x).bind fun a=>(iU e s l).map (a:: ·)
def dJ(s:VS):List TV->Option (TV×Bool)
 | []=>some (.tp [],false)
 | [.ow k off len sz]=>if k<s.nxt/\(s.ob k).how=0/\lA (s.ob k).cs=true/\off+len*sz<=(s.ob k).cs.length then some (.tp [iB (.im sz (((s.ob k).cs.drop off).take (len*sz)))],true)
  else if off=0/\k<s.nxt/\(s.ob k).how=0/\(s.ob k).cs.length=len*sz/\0<sz then(cY cL s (s.ob k).cs).bind fun p=>if (p.2.ob k).how=0 then some (.im sz (cG p.1),true)else none
  else(fE cL s (.ow k off len sz)).map fun p=>(iB p.1,false)
 | [a]=>(fE cL s a).map fun p=>(iB p.1,false)
 | .ow k off len sz::l=>if off=0/\k<s.nxt/\(s.ob k).how=0/\(s.ob k).cs.length=len*sz/\0<sz/\lA (s.ob k).cs=false then(cY cL s (s.ob k).cs).bind fun p=>(cY cL p.2 l).bind fun q=>if (q.2.ob k).how=0 then some (.tp (.im sz (cG p.1)::cG q.1),true)else none
  else(cY cL s (.ow k off len sz::l)).map fun p=>(.tp (cG p.1),false)
 |l=>(cY cL s l).map fun p=>(.tp (cG p.1),false)
def lO:List TV->Nat->bB
 | [],_=>fun _=>none
 |a::l,t=>(lO l (t+1)).upd t a
def dZ:VS:=⟨0,fun _=>⟨2,[]⟩⟩
def vfn(fn:Func)(args:List TV):Option (TV×Bool):=(fn.body).bind fun c=>
 if args.length<=16/\args.length<=fn.ntmps then(gR P orc cal (nJ fn c,fn.ntmps) c (lO args 0) dZ).bind fun p=>match p with
  | (.exit _,_,_)=>none
  | (_,e,s)=>(iU P e s fn.results.toList).bind fun l=>dJ s l
 else none
end
section
structure mB where
 inl:bR9->Bool
 row:bR9->Bool
 prim:bR9->Bool
instance:CoeFun mB fun _=>bR9->Bool:=⟨mB.inl⟩
def nX(w:Bool)(q:TV×Bool):TV×Bool:=if w then(pY q.1 q.2,false)else q
variable (P:bR8)(bZ:mB)(pv:cP)
def aH:List TV->TV
 | [a]=>a
 |l=> .tp l
def fI(orc:cP):Nat->jP
 |0=>fF orc
 | m+1=>fun f args s=>if bZ f then(P.funcs[f]?).bind fun fn=>(fn.body).bind fun c=>if args.length<=16/\args.length<=fn.ntmps then(gR P orc (fI orc m) (nJ fn c,fn.ntmps) c (lO args 0) s).bind fun p=>match p with
   | (.exit _,_,_)=>none
   | (_,e,s)=>(iU P e s fn.results.toList).map fun l=>(aH l,s)
  else none else fF orc f args s
def lC:Nat:=8
def fY:Nat->cP
 |0=>fun _ _=>none
 |m+1=>fun f args=>match pv f args with
  |some r=>some r
  |none=>if bZ.prim f then none else(P.funcs[f]?).bind fun fn=>(vfn P (fY m) (fI P bZ (fY m) lC) fn args).map (nX (bZ.row f))
end
end
section
structure FC(h:Tr)(id:Id)(blk:cK):Prop where
 hf:Tr.find id h=some blk
 nm:mS blk.cells=false
theorem FC.mono{h h':Tr}{id:Id}{blk:cK}(q:FC h id blk)(e:Tr.find id h'=Tr.find id h):FC h' id blk:=⟨e.trans q.hf,q.nm⟩
mutual
inductive TR(h:Tr)(bet:Nat->Id×Nat)(nx:Nat->Prop)(F:Id->Prop):AV->TV->Prop
 |b (x:Bool):TR h bet nx F (.b x) (.b x)
 |i (k:bR6) (m:Nat):TR h bet nx F (.i k m) (.int k (m:Int))
 |m (k:bR6) (m:Nat):TR h bet nx F (.m k m) (.int k (Int.negSucc m))
 |str (x:ByteArray):TR h bet nx F (.v (.string x)) (.str x)
 |lit (x:bR4) (hx:aGE x):TR h bet nx F (.v x) (.lit x)
 |u:TR h bet nx F .u .u
 |nil:TR h bet nx F (.v (.slice none 0 0)) .nil
 |imv (sz:Nat):TR h bet nx F (.v (.slice none 0 0)) (.im sz [])
 |imse (sz:Nat):TR h bet nx F .se (.im sz [])
 |im {id:Id} {off len:Nat} {cap:Option Nat} {sz:Nat} {blk:cK} {cs:List TV} (j:F id) (hf:FC h id blk) (d:off+len*sz<=blk.cells.length) (hc:bM h bet nx F ((blk.cells.drop off).take (len*sz)) cs):TR h bet nx F (.sl id off len cap sz) (.im sz cs)
 |e0 {id:Id} {off sz:Nat} {blk:cK} (j:F id) (hf:FC h id blk) (d:off<=blk.cells.length):TR h bet nx F (.sl id off 0 (some 0) sz) (.e0 sz)
 |ow {k off len:Nat} {cap:Option Nat} {sz:Nat} (w:nx k) (hc:∀c,cap=some c->len<=c/\off+c*sz=(bet k).2):TR h bet nx F (.sl (bet k).1 off len cap sz) (.ow k off len sz)
 |po {k off:Nat} (w:nx k):TR h bet nx F (.ptr (bet k).1 off) (.po k off)
 |pi {id:Id} {o m off:Nat} {blk:cK} {cs:List TV} (j:F id) (hf:FC h id blk) (d:o+m<=blk.cells.length) (hc:bM h bet nx F ((blk.cells.drop o).take m) cs):TR h bet nx F (.ptr id (o+off)) (.pi cs off)
 |fn {f:Nat} {a b:List AV} {va vb:List TV} (s:bM h bet nx F a va) (A:bM h bet nx F b vb):TR h bet nx F (.fn (.func f) a b) (.fn f va vb)
 |ag {cs:List AV} {vs:List TV} (hc:bM h bet nx F cs vs):TR h bet nx F (.agg cs) (.ag vs)
 |tp {cs:List AV} {vs:List TV} (hc:bM h bet nx F cs vs):TR h bet nx F (.tup cs) (.tp vs)
 |err:TR h bet nx F (.fn (.yield 2) [] []) .err
 |emv:TR h bet nx F (.v (.slice none 0 0)) .em
 |emse:TR h bet nx F .se .em
 |ems {id:Id} {off sz:Nat} {cap:Option Nat} {blk:cK} (j:F id) (hf:FC h id blk) (d:off<=blk.cells.length):TR h bet nx F (.sl id off 0 cap sz) .em
inductive bM(h:Tr)(bet:Nat->Id×Nat)(nx:Nat->Prop)(F:Id->Prop):List AV->List TV->Prop
 |nil:bM h bet nx F [] []
 |cons {a:AV} {v:TV} {l:List AV} {m:List TV} (s:TR h bet nx F a v) (d:bM h bet nx F l m):bM h bet nx F (a::l) (v::m)
end
structure Sb(h:Tr)(bet:Nat->Id×Nat)(nx:Nat->Prop)(F:Id->Prop)(h':Tr)(bet':Nat->Id×Nat)(nx':Nat->Prop)(F':Id->Prop):Prop where
 fix:∀id,F id->Tr.find id h'=Tr.find id h
 sub:∀id,F id->F' id
 nle:∀k,nx k->nx' k
 beq:∀k,nx k->bet' k=bet k
mutual
theorem TR.mono{h h':Tr}{bet bet':Nat->Id×Nat}{nx nx':Nat->Prop}{F F':Id->Prop}(hs:Sb h bet nx F h' bet' nx' F'){a:AV}{v:TV}(q:TR h bet nx F a v):TR h' bet' nx' F' a v:=by
 cases q with
 |b=>exact .b _
 |i=>exact .i _ _
 |m=>exact .m _ _
 |str=>exact .str _
 |lit _ hx=>exact .lit _ hx
 |err=>exact .err
 |u=>exact .u
 |nil=>exact .nil
 |imv=>exact .imv _
 |imse=>exact .imse _
 |im j hf d hc=>exact .im (hs.sub _ j) (hf.mono (hs.fix _ j)) d (bM.mono hs hc)
 |e0 j hf d=>exact .e0 (hs.sub _ j) (hf.mono (hs.fix _ j)) d
 | @ow k off len cap sz w hc=>rw[←hs.beq k w];exact .ow (hs.nle _ w) (by rw[hs.beq k w];exact hc)
 | @po k off w=>rw[←hs.beq k w];exact .po (hs.nle _ w)
 |pi j hf d hc=>exact .pi (hs.sub _ j) (hf.mono (hs.fix _ j)) d (bM.mono hs hc)
 |fn s A=>exact .fn (bM.mono hs s) (bM.mono hs A)
 |ag hc=>exact .ag (bM.mono hs hc)
 |tp hc=>exact .tp (bM.mono hs hc)
 |emv=>exact .emv
 |emse=>exact .emse
 |ems j hf d=>exact .ems (hs.sub _ j) (hf.mono (hs.fix _ j)) d
theorem bM.mono{h h':Tr}{bet bet':Nat->Id×Nat}{nx nx':Nat->Prop}{F F':Id->Prop}(hs:Sb h bet nx F h' bet' nx' F'){a:List AV}{v:List TV}(q:bM h bet nx F a v):bM h' bet' nx' F' a v:=by
 cases q with
 |nil=>exact .nil
 |cons s d=>exact .cons (TR.mono hs s) (bM.mono hs d)
end
theorem Sb.refl(h:Tr)(bet:Nat->Id×Nat)(nx:Nat->Prop)(F:Id->Prop):Sb h bet nx F h bet nx F:=⟨fun _ _=>rfl,fun _ h=>h,fun _ h=>h,fun _ _=>rfl⟩
theorem Sb.trans{h1 h2 D:Tr}{H I J:Nat->Id×Nat}{n1 K M:Nat->Prop}{F1 F2 F3:Id->Prop}(p:Sb h1 H n1 F1 h2 I K F2)(q:Sb h2 I K F2 D J M F3):Sb h1 H n1 F1 D J M F3:=
 ⟨fun id j=>(q.fix id (p.sub id j)).trans (p.fix id j),fun id j=>q.sub id (p.sub id j),fun k w=>q.nle k (p.nle k w),fun k w=>(q.beq k (p.nle k w)).trans (p.beq k w)⟩
section
variable {h:Tr}{bet:Nat->Id×Nat}{nx:Nat->Prop}{F:Id->Prop}
theorem bM.length{l:List AV}{m:List TV}(q:bM h bet nx F l m):l.length=m.length:=by
 induction l generalizing m with
 |nil=>cases q;rfl
 |cons a l ih=>cases q with |cons s d=>simp [ih d]
theorem bM.get{l:List AV}{m:List TV}(q:bM h bet nx F l m){n:Nat}{v:TV}(C:m[n]? =some v):∃a,l[n]? =some a/\TR h bet nx F a v:=by
 induction l generalizing m n with
 |nil=>cases q;simp at C
 | cons a l ih=>cases q with
  |cons s d=>cases n with
   |zero=>simp at C;subst C;exact⟨_,by simp,s⟩
   |succ n=>simp at C;obtain⟨a,h1,h2⟩:=ih d C;exact⟨a,by simpa using h1,h2⟩
theorem bM.app{l N:List AV}{m G:List TV}(q:bM h bet nx F l m)(O:bM h bet nx F N G):bM h bet nx F (l++N) (m++G):=by
 induction l generalizing m with
 |nil=>cases q;exact O
 |cons a l ih=>cases q with |cons s d=>exact .cons s (ih d)
theorem bM.take{l:List AV}{m:List TV}(q:bM h bet nx F l m)(n:Nat):bM h bet nx F (l.take n) (m.take n):=by
 induction l generalizing m n with
 |nil=>cases q;cases n<;>exact .nil
 |cons a l ih=>cases q with |cons s d=>cases n with
  |zero=>exact .nil
  |succ n=>exact .cons s (ih d n)
theorem bM.drop{l:List AV}{m:List TV}(q:bM h bet nx F l m)(n:Nat):bM h bet nx F (l.drop n) (m.drop n):=by
 induction l generalizing m n with
 |nil=>cases q;cases n<;>exact .nil
 |cons a l ih=>cases q with |cons s d=>cases n with
  |zero=>exact .cons s d
  |succ n=>exact ih d n
theorem bM.rep{l:List AV}{m:List TV}(q:bM h bet nx F l m)(n:Nat):bM h bet nx F (bJL n l).flatten (bJL n m).flatten:=by
 induction n with
 |zero=>exact .nil
 |succ n ih=>simp only[bL7,bLL];exact q.app ih
theorem TR.cells{a:AV}{v:TV}(q:TR h bet nx F a v)(B:∀l,v≠ .tp l):bM h bet nx F a.cells v.cells:=by
 cases q with
 |ag hc=>exact hc
 |tp=>exact absurd rfl (B _)
 |b=>exact .cons (.b _) .nil
 |i=>exact .cons (.i _ _) .nil
 |m=>exact .cons (.m _ _) .nil
 |str=>exact .cons (.str _) .nil
 |lit _ hx=>exact .cons (.lit _ hx) .nil
 |err=>exact .cons .err .nil
 |u=>exact .cons .u .nil
 |nil=>exact .cons .nil .nil
 |imv=>exact .cons (.imv _) .nil
 |imse=>exact .cons (.imse _) .nil
 |im j hf d hc=>exact .cons (.im j hf d hc) .nil
 |e0 j hf d=>exact .cons (.e0 j hf d) .nil
 |ow w hc=>exact .cons (.ow w hc) .nil
 |po w=>exact .cons (.po w) .nil
 |pi j hf d hc=>exact .cons (.pi j hf d hc) .nil
 |fn s A=>exact .cons (.fn s A) .nil
 |emv=>exact .cons .emv .nil
 |emse=>exact .cons .emse .nil
 |ems j hf d=>exact .cons (.ems j hf d) .nil
theorem TR.one{a:AV}{v:TV}(q:TR h bet nx F a v)(B:v.one=true):a.one=true:=by
 cases q<;>first|rfl|cases B
theorem vO{l:List AV}{m:List TV}(q:bM h bet nx F l m)(B:iO m=true):jG l=true:=by
 induction l generalizing m with
 |nil=>rfl
 | cons a l ih=>cases q with
  |cons s d=>
   simp only[iO,bKK,bJI]at B
   show(Bool.rec false (jG l) a.one:Bool)=true
   rw[s.one B.1];exact ih d B.2
theorem bM.nm{l:List AV}{m:List TV}(q:bM h bet nx F l m):mS l=false:=by
 cases q with
 |nil=>rfl
 | cons s d=>cases s with
  |lit x hx=>
   show aE7 x=false
   unfold aE7
   split
   ·exact absurd rfl (hx.1 _)
   ·rfl
  |_=>rfl
theorem aNc{a:AV}{v:TV}(q:aJ a=some v):TR h bet nx F a v:=by
 unfold aJ at q
 split at q<;>cases q
 ·exact .b _
 ·exact .i _ _
 ·exact .m _ _
 ·exact .str _
 ·exact .nil
 ·next x _ _ h1 h2=>exact .lit _ ⟨fun cs e=>h1 cs e,fun cs e=>h2 cs e⟩
 ·exact .u
theorem aI3:∀ {l:List AV} {m:List TV},aG l=some m->bM h bet nx F l m
 | [],m,q=>by cases q;exact .nil
 | a::l,m,q=>by
  unfold aG at q
  split at q
  ·rename_i x r z P
   cases q
   exact .cons (aNc z) (aI3 P)
  ·cases q
theorem bF9{a:AV}{v:TV}(q:aM a=some v):TR h bet nx F a v:=by
 unfold aM at q
 split at q
 ·rw[bJG]at q
  obtain⟨m,e,rfl⟩:=q
  exact .ag (aI3 e)
 ·cases q
 ·exact aNc q
def ER(h:Tr)(bet:Nat->Id×Nat)(nx:Nat->Prop)(F:Id->Prop)(L V:aT)(r:bB):Prop:=∀t v,r t=some v->∃a,L.look V t=some a/\TR h bet nx F a v
theorem aT.vget_eq:∀ {V:aT} {t:Nat} {a:AV},V.find t=some a->∀k,V.vget t k=k a
 | .nil,t,a,q,k=>by cases q
 | .cons y a' e,t,a,q,k=>by
  show(Bool.rec (motive:=fun _=>KA->OR) (e.vget t) (fun k=>k a') (Nat.beq y t)) k=k a
  simp only[aT.find]at q
  split at q
  ·rename_i z;cases q;subst z;rw[bMD]
  ·rename_i z
   rw[show Nat.beq y t=false from by cases A:Nat.beq y t with |true=>exact absurd (bJY A) z|false=>rfl]
   exact aT.vget_eq q k
 | .del y e,t,a,q,k=>by
  show(Bool.rec (motive:=fun _=>KA->OR) (e.vget t) (fun _=>none) (Nat.beq y t)) k=k a
  simp only[aT.find]at q
  split at q
  ·cases q
  ·rename_i z
   rw[show Nat.beq y t=false from by cases A:Nat.beq y t with |true=>exact absurd (bJY A) z|false=>rfl]
   exact aT.vget_eq q k
theorem aT.lget_eq{V:aT}:∀ {L:aT} {t:Nat} {a:AV},L.look V t=some a->∀k,L.lget V t k=k a
 | .nil,t,a,q,k=>aT.vget_eq q k
 | .cons y a' e,t,a,q,k=>by
  show(Bool.rec (motive:=fun _=>KA->OR) (e.lget V t) (fun k=>k a') (Nat.beq y t)) k=k a
  simp only[aT.look]at q
  split at q
  ·rename_i z;cases q;subst z;rw[bMD]
  ·rename_i z
   rw[show Nat.beq y t=false from by cases A:Nat.beq y t with |true=>exact absurd (bJY A) z|false=>rfl]
   exact aT.lget_eq q k
 | .del y e,t,a,q,k=>by
  show(Bool.rec (motive:=fun _=>KA->OR) (e.lget V t) (fun _=>none) (Nat.beq y t)) k=k a
  simp only[aT.look]at q
  split at q
  ·cases q
  ·rename_i z
   rw[show Nat.beq y t=false from by cases A:Nat.beq y t with |true=>exact absurd (bJY A) z|false=>rfl]
   exact aT.lget_eq q k
theorem fD{L V:aT}{r:bB}(E:ER h bet nx F L V r){x:bR7}{v:TV}(q:dW r x=some v):∃a,TR h bet nx F a v/\∀k,cF x L V k=k a:=by
 cases x with
 |tmp t=>
  obtain⟨a,h1,h2⟩:=E t v q
  exact⟨a,h2,fun k=>aT.lget_eq h1 k⟩
 |const x=>
  simp only[dW,bJF]at q
  obtain⟨a,h1,h2⟩:=q
  refine⟨a,bF9 h2,fun k=> ?_⟩
  show zN (aC x) L V k=k a
  rw[h1];rfl
 |global g=>cases q
 |func f=>cases q;exact⟨_,.fn .nil .nil,fun k=>rfl⟩
theorem tJ{L V:aT}{r:bB}(E:ER h bet nx F L V r):∀ {l:List bR7} {m:List TV},lQ r l=some m->∃aS,bM h bet nx F aS m/\∀k,jH l L V k=k aS
 | [],m,q=>by cases q;exact⟨[],.nil,fun k=>rfl⟩
 |x::l,m,q=>by
  simp only[lQ,bJF]at q
  obtain⟨v,Q,G,R,S⟩:=q
  cases S
  obtain⟨a,h1,h2⟩:=fD E Q
  obtain⟨aS,D,T⟩:=tJ E R
  refine⟨a::aS,.cons h1 D,fun k=> ?_⟩
  show cF x L V (fun a=>jH l L V fun r=>k (a::r))=_
  rw[h2,T]
end
end
section
section
variable {h:Tr}{bet:Nat->Id×Nat}{nx:Nat->Prop}{F:Id->Prop}
theorem xX(l:List AV):lV l=l.length:=aBZ l
theorem aOv:∀(n:Nat) (l:List AV) (k:List AV->OR),n<=l.length->aGS n l k=k (l.take n)
 |0,l,k,_=>rfl
 |n+1,[],k,h=>by cases h
 |n+1,a::l,k,h=>by
  show aGS n l (fun r=>k (a::r))=_
  rw[aOv n l _ (by simpa using h)];rfl
theorem jY(n:Nat):∀(off:Nat) (l:List AV) (k:List AV->OR),off+n<=l.length->fT n off l k=k ((l.drop off).take n)
 |0,l,k,h=>aOv n l k (by simpa using h)
 |m+1,[],k,h=>by simp only[bKf]at h;omega
 |m+1,a::l,k,h=>by
  show fT n m l k=_
  rw[jY n m l k (by simp only[bJN]at h;omega)];rfl
theorem aFM:∀(n:Nat) (l:List AV) (a:AV) (k:KA),l[n]? =some a->aEv n l k=k a
 |0,[],a,k,h=>by cases h
 |0,b::l,a,k,h=>by simp at h;subst h;rfl
 |n+1,[],a,k,h=>by cases h
 |n+1,b::l,a,k,h=>aFM n l a k (by simpa using h)
theorem aP6:∀(cs l:List AV) (k:List AV->OR),cs.length<=l.length->aEg cs l k=k (cs++l.drop cs.length)
 | [],l,k,_=>rfl
 |c::cs,[],k,h=>by cases h
 |c::cs,b::l,k,h=>by
  show aEg cs l (fun r=>k (c::r))=_
  rw[aP6 cs l _ (by simpa using h)];rfl
theorem aAx(cs:List AV):∀(off:Nat) (l:List AV) (k:List AV->OR),off+cs.length<=l.length->nM cs off l k=k (l.take off++cs++l.drop (off+cs.length))
 |0,l,k,h=>by
  show aEg cs l k=_
  rw[aP6 cs l k (by simpa using h)];simp
 |m+1,[],k,h=>by simp only[bKf]at h;omega
 |m+1,b::l,k,h=>by
  show nM cs m l (fun r=>k (b::r))=_
  rw[aAx cs m l _ (by simp only[bJN]at h;omega)]
  simp only[List.take_succ_cons,List.cons_append,show m+1+cs.length=m+cs.length+1 by omega,List.drop_succ_cons]
theorem tG(l m:List AV):lU l m=l++m:=aBW l m
theorem dK{b:Bool}{y n:OR}(h:b=true):bQ b y n=y:=by rw[h];rfl
theorem eK{a b:Nat}(h:a<=b):Nat.ble a b=true:=bKX h
theorem aBC{a b:Nat}(h:b<a):Nat.ble a b=false:=by
 cases d:Nat.ble a b with
 |true=>have:=bJP d;omega
 |false=>rfl
theorem beq_true{a b:Nat}(h:a=b):Nat.beq a b=true:=by rw[h];exact bMD b
theorem beq_false{a b:Nat}(h:a≠b):Nat.beq a b=false:=by
 cases d:Nat.beq a b with
 |true=>exact absurd (bJY d) h
 |false=>rfl
theorem xR{m off:Nat}{cs l:List TV}(q:jK m off cs=some l):off+m<=cs.length/\l=(cs.drop off).take m:=by
 unfold jK at q;split at q
 ·cases q;exact⟨by assumption,rfl⟩
 ·cases q
theorem aAj{new:List TV}{off:Nat}{cs l:List TV}(q:hH new off cs=some l):off+new.length<=cs.length/\l=cs.take off++new++cs.drop (off+new.length):=by
 unfold hH at q;split at q
 ·cases q;exact⟨by assumption,rfl⟩
 ·cases q
theorem TR.int_inv{a:AV}{k:bR6}{z:Int}(q:TR h bet nx F a (.int k z)):(∃m:Nat,a= .i k m/\z=m)\/(∃m:Nat,a= .m k m/\z=Int.negSucc m):=by
 generalize e:TV.int k z=v at q
 cases q<;>cases e
 ·exact .inl ⟨_,rfl,rfl⟩
 ·exact .inr ⟨_,rfl,rfl⟩
theorem TR.nat_inv{a:AV}{v:TV}{m:Nat}(q:TR h bet nx F a v)(i:v.nat=some m):∃k,a= .i k m:=by
 unfold TV.nat at i
 split at i
 ·rename_i k j
  cases i
  rcases q.int_inv with ⟨j,o,p⟩|⟨j,o,p⟩
  ·have:m=j:=Int.ofNat.inj p
   exact⟨_,by rw[this];exact o⟩
  ·cases p
 ·cases i
theorem TR.bool_inv{a:AV}{v:TV}{x:Bool}(q:TR h bet nx F a v)(i:v.bool=some x):a= .b x:=by
 unfold TV.bool at i
 split at i
 ·cases i;cases q;rfl
 ·cases i
theorem aBP(k:bR6)(z:Int):TR h bet nx F (rD k z) (.int k z):=by
 cases z with
 |ofNat m=>exact .i k m
 |negSucc m=>exact .m k m
theorem xT(k:bR6)(m:Nat):jV k m=rD k (k.wrap (m:Int)):=by
 unfold jV
 cases d:Nat.ble m (fU k)with
 |false=>rfl
 |true=>rw[yD k (bJP d)];rfl
theorem aFu(k:bR6)(m:Nat):oD k m=rD k (k.wrap (Int.negSucc m)):=by
 unfold oD
 cases hs:sgn k with
 |false=>rfl
 |true=>
  cases d:Nat.ble m (fU k)with
  |false=>rfl
  |true=>rw[aOE k hs (bJP d)];rfl
theorem aAD(k:bR6)(a b:Nat):fS k a b=rD k (k.wrap ((a:Int)-(b:Int))):=by
 unfold fS
 cases d:Nat.ble b a with
 |true=>
  have:=bJP d
  show jV k (Nat.sub a b)=_
  rw[xT];congr 2;show((a-b:Nat):Int)=_;omega
 |false=>
  have h1:¬b<=a:=fun h=>by rw[eK h]at d;cases d
  show oD k (Nat.pred (Nat.sub b a))=_
  rw[aFu];congr 2;show Int.negSucc (Nat.pred (b-a))=_;rw[bKa];simp only[Nat.pred_eq_sub_one];omega
theorem aR8(k:bR6):jJ k=(fU k:Int):=by cases k<;>rfl
theorem aDm(k:bR6):Nat.beq (kT k) (kT k)=true:=bMD _
theorem aGi{k:bR6}{a b:AV}{x y:Int}(qa:TR h bet nx F a (.int k x))(qb:TR h bet nx F b (.int k y))(f1 f2 g1 g2:Nat->Nat->OR):
  rP a (fun m=>oK k b (f1 m) (f2 m)) (fun m=>oK k b (g1 m) (g2 m))=(match x,y with
   | .ofNat m,.ofNat n=>f1 m n| .ofNat m,.negSucc n=>f2 m n| .negSucc m,.ofNat n=>g1 m n| .negSucc m,.negSucc n=>g2 m n):=by
 rcases qa.int_inv with ⟨m,rfl,rfl⟩|⟨m,rfl,rfl⟩<;>rcases qb.int_inv with ⟨n,rfl,rfl⟩|⟨n,rfl,rfl⟩
 ·show bQ (Nat.beq (kT k) (kT k)) (f1 m n) none=_;rw[aDm];rfl
 ·show bQ (Nat.beq (kT k) (kT k)) (f2 m n) none=_;rw[aDm];rfl
 ·show bQ (Nat.beq (kT k) (kT k)) (g1 m n) none=_;rw[aDm];rfl
 ·show bQ (Nat.beq (kT k) (kT k)) (g2 m n) none=_;rw[aDm];rfl
theorem bCw{k:bR6}{a b:AV}{x y:Int}(qa:TR h bet nx F a (.int k x))(qb:TR h bet nx F b (.int k y)):
  (∀c,aH1 k a b c=c (rD k (k.wrap (x+y))))/\(∀c,aGW k a b c=c (rD k (k.wrap (x-y))))/\(∀c,aH7 k a b c=c (rD k (k.wrap (x*y)))):=by
 have o:∀m n:Nat,Int.ofNat m+Int.ofNat n=((m+n:Nat):Int):=fun m n=>rfl
 refine⟨fun c=> ?_,fun c=> ?_,fun c=> ?_⟩
 ·unfold aH1;rw[aGi qa qb]
  rcases qa.int_inv with ⟨m,_,rfl⟩|⟨m,_,rfl⟩<;>rcases qb.int_inv with ⟨n,_,rfl⟩|⟨n,_,rfl⟩
  ·show c (jV k (m+n))=_;rw[xT];rfl
  ·show c (fS k m (n+1))=_;rw[aAD];congr 3
  ·show c (fS k n (m+1))=_;rw[aAD];congr 3<;>(rw[bKa];omega)
  ·show c (oD k (Nat.succ (m+n)))=_;rw[aFu];congr 3
 ·unfold aGW;rw[aGi qa qb]
  rcases qa.int_inv with ⟨m,_,rfl⟩|⟨m,_,rfl⟩<;>rcases qb.int_inv with ⟨n,_,rfl⟩|⟨n,_,rfl⟩
  ·show c (fS k m n)=_;rw[aAD]
  ·show c (jV k (m+(n+1)))=_;rw[xT];congr 3
  ·show c (oD k (m+n))=_;rw[aFu];congr 3<;>(rw[bKa,bKa];omega)
  ·show c (fS k n m)=_;rw[aAD];congr 3<;>(rw[bKa,bKa];omega)
 ·unfold aH7;rw[aGi qa qb]
  rcases qa.int_inv with ⟨m,_,rfl⟩|⟨m,_,rfl⟩<;>rcases qb.int_inv with ⟨n,_,rfl⟩|⟨n,_,rfl⟩
  ·show c (jV k (m*n))=_;rw[xT];rfl
  ·show c (fS k 0 (m*(n+1)))=_;rw[aAD];congr 3<;>(rw[bKa];simp only[bLa,bMh];rw[Int.mul_neg];simp)
  ·show c (fS k 0 ((m+1)*n))=_;rw[aAD];congr 3<;>(rw[bKa];simp only[bLa,bMh];rw[Int.neg_mul];simp)
  ·show c (jV k ((m+1)*(n+1)))=_;rw[xT];congr 3
theorem aCm{k:bR6}{a b:AV}{x y:Int}(qa:TR h bet nx F a (.int k x))(qb:TR h bet nx F b (.int k y)){f g:Nat->Nat->Bool}{pm mp:Bool}{q:Int->Int->Bool}
  (h1:∀m n:Nat,f m n=q m n) (h2:∀m n:Nat,pm=q m (.negSucc n)) (s:∀m n:Nat,mp=q (.negSucc m) n) (t:∀m n:Nat,g m n=q (.negSucc m) (.negSucc n)) (c:KA):uV f g pm mp k a b c=c (.b (q x y)):=by
 unfold uV;rw[aGi qa qb]
 rcases qa.int_inv with ⟨m,_,rfl⟩|⟨m,_,rfl⟩<;>rcases qb.int_inv with ⟨n,_,rfl⟩|⟨n,_,rfl⟩
 ·show c (.b (f m n))=_;rw[h1]
 ·show c (.b pm)=_;rw[h2 m n]
 ·show c (.b mp)=_;rw[s m n]
 ·show c (.b (g m n))=_;rw[t]
end
end
section
section
variable {h:Tr}{bet:Nat->Id×Nat}{nx:Nat->Prop}{F:Id->Prop}
theorem aKt{k:bR6}{m:Nat}(c:Nat->OR):iS (.i k m) c=c m:=rfl
theorem aKe{k:bR6}{m:Nat}(c:Nat->OR):asK k (.i k m) c=c m:=by
 show bQ (Nat.beq (kT k) (kT k)) (c m) none=_;rw[aDm];rfl
theorem kN(m n:Nat):Nat.beq m n=decide (m=n):=by
 by_cases e:m=n
 ·rw[beq_true e,ak e]
 ·rw[beq_false e,ai e]
theorem kM(m n:Nat):Nat.ble m n=decide (m<=n):=by
 by_cases e:m<=n
 ·rw[eK e,ak e]
 ·rw[aBC (by omega),ai e]
theorem bFN{op:BinOp}{k:bR6}{a b:AV}{x y:Int}{v:TV}(qa:TR h bet nx F a (.int k x))(qb:TR h bet nx F b (.int k y))(q:dX op k x y=some v):
  ∃c,TR h bet nx F c v/\∀d,iOp op k a b d=d c:=by
 have ar:=bCw qa qb
 have nat:0<=x/\0<y/\x<=jJ k->∃m n:Nat,a= .i k m/\b= .i k n/\x=m/\y=n/\n≠0/\m<=fU k:=by
  rintro⟨h1,h2,g⟩
  rw[aR8]at g
  rcases qa.int_inv with ⟨m,i,rfl⟩|⟨m,i,rfl⟩
  ·rcases qb.int_inv with ⟨n,j,rfl⟩|⟨n,j,rfl⟩
   ·exact⟨m,n,i,j,rfl,rfl,by omega,by omega⟩
   ·rw[bKa]at h2;omega
  ·rw[bKa]at h1;omega
 have nn:0<=x/\x<=jJ k/\0<=y/\y<=jJ k->∀f:Nat->Nat->Nat,∃c,TR h bet nx F c (.int k (f x.toNat y.toNat:Nat))/\∀d,nnK f k a b d=d c:=by
  rintro⟨h1,h2,g,o⟩ f
  rw[aR8]at h2 o
  rcases qa.int_inv with ⟨m,rfl,rfl⟩|⟨m,i,rfl⟩
  ·rcases qb.int_inv with ⟨n,rfl,rfl⟩|⟨n,j,rfl⟩
   ·refine⟨.i k (f m n),.i k _,fun c=> ?_⟩
    show iS (.i k m) (fun a=>asK k (.i k n) fun b=>bQ (Nat.ble a (fU k)) (bQ (Nat.ble b (fU k)) (c (.i k (f a b))) none) none)=_
    rw[aKt,aKe,dK (eK (by omega)),dK (eK (by omega))]
   ·rw[bKa]at g;omega
  ·rw[bKa]at h1;omega
 unfold dX at q
 split at q
 ·cases q;exact⟨_,aBP k _,fun c=>ar.1 c⟩
 ·cases q;exact⟨_,aBP k _,fun c=>ar.2.1 c⟩
 ·cases q;exact⟨_,aBP k _,fun c=>ar.2.2 c⟩
 ·split at q
  ·next hc=>
   cases q
   obtain⟨m,n,rfl,rfl,rfl,rfl,h0,l⟩:=nat hc
   refine⟨.i k (m/n),.i k _,fun c=> ?_⟩
   show iS (.i k m) (fun a=>asK k (.i k n) fun b=>bQ (Nat.beq b 0) none (bQ (Nat.ble a (fU k)) (c (.i k (Nat.div a b))) none))=_
   rw[aKt,aKe,beq_false h0]
   show bQ (Nat.ble m (fU k)) _ none=_
   rw[eK l];rfl
  ·cases q
 ·split at q
  ·next hc=>
   cases q
   obtain⟨m,n,rfl,rfl,rfl,rfl,h0,l⟩:=nat hc
   refine⟨.i k (m%n),.i k _,fun c=> ?_⟩
   show iS (.i k m) (fun a=>asK k (.i k n) fun b=>bQ (Nat.beq b 0) none (bQ (Nat.ble a (fU k)) (c (.i k (Nat.mod a b))) none))=_
   rw[aKt,aKe,beq_false h0]
   show bQ (Nat.ble m (fU k)) _ none=_
   rw[eK l];rfl
  ·cases q
 ·split at q
  ·next hc=>cases q;exact nn hc Nat.land
  ·cases q
 ·split at q
  ·next hc=>cases q;exact nn hc Nat.lor
  ·cases q
 ·split at q
  ·next hc=>cases q;exact nn hc Nat.xor
  ·cases q
 ·cases q
  refine⟨_,.b _,fun c=>aCm qa qb (q:=fun x y=>decide (x=y)) (fun m n=> ?_) (fun m n=>rfl) (fun m n=>rfl) (fun m n=> ?_) c⟩
  ·simp only[kN];rw[bKh];simp only[ap]<;>omega
  ·simp only[kN,bKa];rw[bKh];simp only[ap]<;>omega
 ·cases q
  refine⟨_,.b _,fun c=>aCm qa qb (q:=fun x y=> !decide (x=y)) (fun m n=> ?_) (fun m n=>rfl) (fun m n=>rfl) (fun m n=> ?_) c⟩
  ·simp only[gI,kN];rw[bKh];simp only[bKd,decide_eq_false_iff_not]<;>omega
  ·simp only[gI,kN,bKa];rw[bKh];simp only[bKd,decide_eq_false_iff_not]<;>omega
 ·cases q
  refine⟨_,.b _,fun c=>aCm qa qb (q:=fun x y=>decide (x<y)) (fun m n=> ?_) (fun m n=> ?_) (fun m n=> ?_) (fun m n=> ?_) c⟩
  ·simp only[gI,kM];rw[bKh];simp only[bKd,ap,decide_eq_false_iff_not]<;>omega
  ·simp only[bKa];rw[bKh];simp only[ap,bJQ,false_iff]<;>omega
  ·simp only[bKa];rw[bKh];simp only[ap,true_iff]<;>omega
  ·simp only[gI,kM,bKa];rw[bKh];simp only[bKd,ap,decide_eq_false_iff_not]<;>omega
 ·cases q
  refine⟨_,.b _,fun c=>aCm qa qb (q:=fun x y=>decide (x<=y)) (fun m n=> ?_) (fun m n=> ?_) (fun m n=> ?_) (fun m n=> ?_) c⟩
  ·simp only[kM];rw[bKh];simp only[ap]<;>omega
  ·simp only[bKa];rw[bKh];simp only[ap,bJQ,false_iff]<;>omega
  ·simp only[bKa];rw[bKh];simp only[ap,true_iff]<;>omega
  ·simp only[kM,bKa];rw[bKh];simp only[ap]<;>omega
 ·cases q
  refine⟨_,.b _,fun c=>aCm qa qb (q:=fun x y=>decide (y<x)) (fun m n=> ?_) (fun m n=> ?_) (fun m n=> ?_) (fun m n=> ?_) c⟩
  ·simp only[gI,kM];rw[bKh];simp only[bKd,ap,decide_eq_false_iff_not]<;>omega
  ·simp only[bKa];rw[bKh];simp only[ap,true_iff]<;>omega
  ·simp only[bKa];rw[bKh];simp only[ap,bJQ,false_iff]<;>omega
  ·simp only[gI,kM,bKa];rw[bKh];simp only[bKd,ap,decide_eq_false_iff_not]<;>omega
 ·cases q
  refine⟨_,.b _,fun c=>aCm qa qb (q:=fun x y=>decide (y<=x)) (fun m n=> ?_) (fun m n=> ?_) (fun m n=> ?_) (fun m n=> ?_) c⟩
  ·simp only[kM];rw[bKh];simp only[ap]<;>omega
  ·simp only[bKa];rw[bKh];simp only[ap,true_iff]<;>omega
  ·simp only[bKa];rw[bKh];simp only[ap,bJQ,false_iff]<;>omega
  ·simp only[kM,bKa];rw[bKh];simp only[ap]<;>omega
 ·cases q
theorem aQf(k:bR6):qZ.bitsN' k=aB5 k:=by cases k<;>rfl
theorem bAk{op:BinOp}{t:fP}{a:AV}{k:bR6}{x:Int}(qa:TR h bet nx F a (.int k x))(b:AV)(c:KA):wR op t a b c=iOp op k a b c:=by
 rcases qa.int_inv with ⟨m,rfl,rfl⟩|⟨m,rfl,rfl⟩<;>rfl
theorem aJS{et:fP}{op:BinOp}{a b:AV}{x y v:TV}(qa:TR h bet nx F a x)(qb:TR h bet nx F b y)(q:bU et op x y=some v):
  ∃c,TR h bet nx F c v/\∀k,wR op et a b k=k c:=by
 unfold bU at q
 split at q
 ·rename_i k x d y
  have sh:∀f:BinOp,(f= .shl\/f= .shr)->(if 0<=x/\0<=y then qZ f k x.toNat y.toNat else none)=some v->op=f->∃c,TR h bet nx F c v/\∀k,wR op et a b k=k c:=by
   intro f hf q e
   subst e
   split at q
   ·next hc=>
    rcases qa.int_inv with ⟨m,rfl,rfl⟩|⟨m,rfl,rfl⟩
    ·rcases qb.int_inv with ⟨n,rfl,rfl⟩|⟨n,rfl,rfl⟩
     ·rcases hf with rfl|rfl
      ·simp only[qZ,bo]at q
       subst q
       refine⟨_,aBP k _,fun c=> ?_⟩
       show c (jV k (Nat.mul m (Nat.pow 2 (aCh n (aB5 k)))))=_
       rw[xT,aFa,aQf]
       congr 3
      ·simp only[qZ,bo]at q
       subst q
       refine⟨.i k (m/2^min n (aB5 k)), ?_,fun c=> ?_⟩
       ·rw[aQf];exact .i k _
       ·show c (.i k (Nat.div m (Nat.pow 2 (aCh n (aB5 k)))))=_
        rw[aFa];rfl
     ·rw[bKa]at hc;omega
    ·rw[bKa]at hc;omega
   ·cases q
  split at q
  ·exact sh .shl (.inl rfl) q rfl
  ·exact sh .shr (.inr rfl) q rfl
  ·split at q
   ·next e=>
    subst e
    obtain⟨c,h1,h2⟩:=bFN qa qb q
    exact⟨c,h1,fun d=>by rw[bAk qa];exact h2 d⟩
   ·cases q
 ·rename_i x y
  cases qa;cases qb
  split at q
  ·cases q
   refine⟨.b (x==y),.b _,fun k=> ?_⟩
   show k (.b (uQ x y))=_
   rw[aDQ]
  ·cases q
   refine⟨.b (!(x==y)),.b _,fun k=> ?_⟩
   show k (.b (pS (uQ x y)))=_
   rw[aDQ,gI]
  ·cases q
 ·rename_i x y
  cases qa;cases qb
  split at q
  ·cases q;exact⟨_,.b _,fun k=>rfl⟩
  ·cases q;exact⟨_,.b _,fun k=>rfl⟩
  ·split at q
   ·next hc=>
    cases q
    refine⟨_,.str _,fun k=> ?_⟩
    show(if x.size+y.size<=100000000 then k (.v (.string (x++y)))else none)=_
    rw[if_pos hc]
   ·cases q
  ·cases q
 ·cases qa;cases qb
  split at q<;>cases q<;>exact⟨_,.b _,fun k=>rfl⟩
 ·cases qb
  cases qa with
  |im p hf r hc=>split at q<;>cases q<;>exact⟨_,.b _,fun k=>rfl⟩
 ·cases qb;cases qa
  split at q<;>cases q<;>exact⟨_,.b _,fun k=>rfl⟩
 ·cases q
theorem bHF{op:UnOp}{a:AV}{x v:TV}(qa:TR h bet nx F a x)(q:vD op x=some v):∃c,TR h bet nx F c v/\∀k,unK op a k=k c:=by
 unfold vD at q
 split at q
 ·cases qa
  split at q
  ·cases q
   refine⟨_,.b _,fun k=> ?_⟩
   show k (.b (pS _))=_
   rw[gI]
  ·cases q
 ·rename_i k x
  split at q
  ·cases q
   refine⟨_,aBP k _,fun c=> ?_⟩
   rcases qa.int_inv with ⟨m,rfl,rfl⟩|⟨m,rfl,rfl⟩
   ·show c (fS k 0 m)=_
    rw[aAD];congr 3;omega
   ·show c (jV k (Nat.succ m))=_
    rw[xT];congr 3
  ·cases q
 ·cases q
theorem bDt{d k:bR6}{a:AV}{z:Int}(qa:TR h bet nx F a (.int d z))(c:KA):rP a (fun n=>c (jV k n)) (fun n=>c (oD k n))=c (rD k (k.wrap z)):=by
 rcases qa.int_inv with ⟨m,rfl,rfl⟩|⟨m,rfl,rfl⟩
 ·show c (jV k m)=_;rw[xT]
 ·show c (oD k m)=_;rw[aFu]
end
end
section
section
variable {h:Tr}{bet:Nat->Id×Nat}{nx:Nat->Prop}{F:Id->Prop}{P:bR8}
theorem aJh{place:Nat->Option (Nat×Nat)}{L V:aT}{r:bB}(g:ER h bet nx F L V r):∀ {l:List (Nat×bR7)} {cs cs':List TV} {aS:List AV},aD place r l cs=some cs'->bM h bet nx F aS cs->
  ∃as',bM h bet nx F as' cs'/\∀k,aCs place l L V aS k=k as'
 | [],cs,cs',aS,q,b=>by cases q;exact⟨aS,b,fun k=>rfl⟩
 | p::l,cs,cs',aS,q,b=>by
  simp only[aD,bJF]at q
  obtain⟨x,c,v,f,q⟩:=q
  split at q
  ·next hc=>
   simp only[bJF]at q
   obtain⟨cs1,j,q⟩:=q
   obtain⟨a,t1,t2⟩:=fD g f
   have tc:=t1.cells (fun l e=>by subst e;cases hc.2)
   obtain⟨u,n⟩:=aAj j
   have i:a.cells.length=v.cells.length:=tc.length
   have s:=b.length
   obtain⟨as',t3,t4⟩:=aJh g (aS:=aS.take x.1++a.cells++aS.drop (x.1+a.cells.length)) q (by rw[n,i];exact((b.take _).app tc).app (b.drop _))
   refine⟨as',t3,fun k=> ?_⟩
   show(Option.rec (motive:=fun _=>OR) none (fun q=>cF p.2 L V fun a=>bQ (Nat.beq (lV a.cells) q.2) (nM a.cells q.1 aS fun cs=>aCs place l L V cs k) none) (place p.1))=k as'
   rw[c]
   show cF p.2 L V _=_
   rw[t2,dK (beq_true (by rw[xX,i];exact hc.1)),aAx _ _ _ _ (by omega)]
   exact t4 k
  ·cases q
theorem aGt{t:bR5}{off:Nat}{cs:List TV}{aS:List AV}{v:TV}(q:qM P t off cs=some v)(b:bM h bet nx F aS cs):∃a,TR h bet nx F a v/\∀k,oQ P t off aS k=k a:=by
 unfold qM at q
 unfold oQ
 split at q
 ·next hc=>
  rw[bJG]at q
  obtain⟨l,e,rfl⟩:=q
  obtain⟨h1,h2⟩:=xR e
  refine⟨_,.ag (h2 ▸ (b.drop off).take (aY P t)),fun k=> ?_⟩
  rw[hc]
  show fT (aY P t) off aS _=_
  rw[jY _ _ _ _ (by rw[b.length];exact h1)]
 ·next hc=>
  obtain⟨a,e,ta⟩:=b.get q
  refine⟨a,ta,fun k=> ?_⟩
  rw[Bool.not_eq_true]at hc
  rw[hc]
  exact aFM _ _ _ _ e
theorem aFw{t:bR5}{cs:List TV}(q:pO P t=some cs):∃z,iK P t=some z/\bM h bet nx F z.cells cs:=by
 simp only[pO,bJF]at q
 obtain⟨z,c,f⟩:=q
 exact⟨z,c,aI3 f⟩
theorem jA{L V:aT}{r:bB}(g:ER h bet nx F L V r){x:Option bR7}{d m:Nat}(q:eL r d x=some m):∀k,qB x d L V k=k m:=by
 cases x with
 |none=>cases q;exact fun k=>rfl
 |some o=>
  simp only[eL,bJF]at q
  obtain⟨v,c,f⟩:=q
  obtain⟨a,t1,t2⟩:=fD g c
  obtain⟨ki,rfl⟩:=t1.nat_inv f
  intro k
  show cF o L V (fun a=>iS a k)=_
  rw[t2];rfl
theorem nB{L V:aT}{x:Option bR7}(q:∀k,qB x 0 L V k=k 0)(k:OR):fB x L V k=k:=by
 unfold fB;rw[q];rfl
theorem aDK{id:Id}{off sz len:Nat}{cap:Option Nat}{l m:Nat}(h1:l<=m)(h2:m<=len)(k:KA):
  qD id off sz len cap l m k=if l=m then(if l=0 then k (.sl id off 0 cap sz)else k .se)else k (.sl id (off+l*sz) (m-l) (cap.map (· - l)) sz):=by
 unfold qD
 rw[dK (eK h2),dK (eK h1)]
 unfold aUA
 by_cases e:l=m
 ·rw[if_pos e,dK (beq_true e)]
  by_cases e0:l=0
  ·rw[if_pos e0,dK (beq_true e0)]
  ·rw[if_neg e0,beq_false e0];rfl
 ·rw[if_neg e,beq_false e]
  cases cap<;>rfl
end
end
section
section
variable {h:Tr}{bet:Nat->Id×Nat}{K:Nat->Prop}{F:Id->Prop}{P:bR8}
def QR(P:bR8)(pr:cN)(h:Tr)(bet:Nat->Id×Nat)(K:Nat->Prop)(F:Id->Prop)(op:Op)(L V:aT)(s s':VS)(v:TV):Prop:=
 (s'=s/\∃a,TR h bet K F a v/\∀ih st k,dD P pr op ih L V st k=k a st)\/
 (∃(cs:List TV) (blk:cK) (mk:Id->AV),s'=s.new cs/\bM h bet K F blk.cells cs/\(∀ih st k,dD P pr op ih L V st k=k (mk st.nxt) (st.new blk))/\
  ∀h' bet' nx' F' id,bet' s.nxt=(id,blk.cells.length)->nx' s.nxt->TR h' bet' nx' F' (mk id) v)
theorem QR.val{pr:cN}{op:Op}{L V:aT}{s:VS}{v:TV}{a:AV}(ta:TR h bet K F a v)(e:∀ih st k,dD P pr op ih L V st k=k a st):QR P pr h bet K F op L V s s v:= .inl ⟨rfl,a,ta,e⟩
theorem QR.ptr{pr:cN}{op:Op}{L V:aT}{s:VS}{cs:List TV}{aS:List AV}(ta:bM h bet K F aS cs)(e:∀ih st k,dD P pr op ih L V st k=k (.ptr st.nxt 0) (st.new ⟨aS,true⟩)):
  QR P pr h bet K F op L V s (s.new cs) (.po s.nxt 0):=
 .inr ⟨cs,⟨aS,true⟩,fun id=> .ptr id 0,rfl,ta,e,fun h' bet' nx' F' id E hn=>by
  have:=TR.po (h:=h') (bet:=bet') (F:=F') (off:=0) hn
  rw[E]at this;exact this⟩
theorem QR.row{pr:cN}{op:Op}{L V:aT}{s:VS}{cs:List TV}{aS:List AV}{len sz:Nat}(C:len*sz=aS.length)(ta:bM h bet K F aS cs)(e:∀ih st k,dD P pr op ih L V st k=k (.sl st.nxt 0 len (some len) sz) (st.new ⟨aS,true⟩)):
  QR P pr h bet K F op L V s (s.new cs) (.ow s.nxt 0 len sz):=
 .inr ⟨cs,⟨aS,true⟩,fun id=> .sl id 0 len (some len) sz,rfl,ta,e,fun h' bet' nx' F' id E hn=>by
  have:=TR.ow (h:=h') (bet:=bet') (F:=F') (off:=0) (len:=len) (cap:=some len) (sz:=sz) hn (fun c hc=>by cases hc;rw[E];exact⟨bJE _,by show 0+len*sz=aS.length;omega⟩)
  rw[E]at this;exact this⟩
theorem QR.rowU{pr:cN}{op:Op}{L V:aT}{s:VS}{cs:List TV}{aS:List AV}{len sz:Nat}(ta:bM h bet K F aS cs)(e:∀ih st k,dD P pr op ih L V st k=k (.sl st.nxt 0 len none sz) (st.new ⟨aS,false⟩)):
  QR P pr h bet K F op L V s (s.new cs) (.ow s.nxt 0 len sz):=
 .inr ⟨cs,⟨aS,false⟩,fun id=> .sl id 0 len none sz,rfl,ta,e,fun h' bet' nx' F' id E hn=>by
  have:=TR.ow (h:=h') (bet:=bet') (F:=F') (off:=0) (len:=len) (cap:=none) (sz:=sz) hn (fun c hc=>by cases hc)
  rw[E]at this;exact this⟩
theorem aQv(n:Nat)(l:List AV):(bJL n l).flatten.length=n*l.length:=by
 induction n with
 |zero=>simp
 |succ n ih=>rw[bL7,bLL,bJW,ih,Nat.succ_mul];omega
theorem aI4{e:bR5}{z:AV}(hc:dN P e=true)(N:iK P e=some z):z.cells.length=aY P e/\0<aY P e:=by
 have Q:=N
 unfold dN at hc
 unfold iK at N
 cases hi:P.info? e with
 |none=>rw[hi]at N;cases N
 |some i=>
  rw[hi,Q]at hc
  simp only[bJI]at hc
  obtain⟨⟨⟨h1,h2⟩,h3⟩,_⟩:=hc
  have h1:=bJY h1
  have h2:=bJP h2
  have hsz:aY P e=i.size:=by unfold aY Program.cellsOf;rw[hi];rfl
  rw[hsz,←h1,xX];rw[xX]at h1;exact⟨rfl,by omega⟩
theorem rV{t e:bR5}{L V:aT}{a:AV}{lo hi mx:Option bR7}{o:bR7}(d:cW P t=some e)(w:dG P e=true)(j:aAZ hi mx=true)(p:∀k,cF o L V k=k a)(st:St)(k:KS):
  uA P t o lo hi mx L V st k=iG a (fB lo L V (fB hi L V (fB mx L V (k a st)))) (fB lo L V (fB hi L V (fB mx L V (k .se st)))) fun id off len cap sz=>
   bQ (Nat.beq sz (aY P e)) (rH lo hi mx L V id off len cap sz fun v=>k v st) (bQ (Nat.beq len 0) (fB lo L V (fB hi L V (fB mx L V (k .se st)))) none):=by
 unfold uA
 rw[d]
 show bR _ (dG P e&&aAZ hi mx) L V st k=_
 rw[w,j]
 show cF o L V _=_
 rw[p]
theorem aBE{t e:bR5}{L V:aT}{r:bB}{nx:Nat->Prop}(d:ER h bet nx F L V r){a:AV}{lo hi mx:Option bR7}{o:bR7}(b:cW P t=some e)(w:dG P e=true)(j:aAZ hi mx=true)(p:∀k,cF o L V k=k a)
  (ta:TR h bet nx F a .em) (g:eL r 0 lo=some 0) (f:eL r 0 hi=some 0) (y:mx=none\/∃om,mx=some om/\eL r 0 (some om)=some 0):∃c,TR h bet nx F c .em/\∀st k,uA P t o lo hi mx L V st k=k c st:=by
 have z3:∀k,qB mx 0 L V k=k 0:=by
  rcases y with rfl|⟨om,rfl,y⟩
  ·exact fun k=>rfl
  ·exact jA d y
 have z:∀k,fB lo L V (fB hi L V (fB mx L V k))=k:=fun k=>by
  rw[nB (jA d g),nB (jA d f),nB z3]
 cases ta with
 |emv=>
  refine⟨_,.emv,fun st k=> ?_⟩
  rw[rV b w j p]
  exact z _
 |emse=>
  refine⟨_,.emse,fun st k=> ?_⟩
  rw[rV b w j p]
  exact z _
 | ems A hf C=>
  rename_i id off sz cap blk
  by_cases hs:sz=aY P e
  ·refine⟨.sl id off 0 (Option.rec cap (fun _=>some 0) mx) sz,.ems A hf C,fun st k=> ?_⟩
   rw[rV b w j p]
   show bQ (Nat.beq sz (aY P e)) (rH lo hi mx L V id off 0 cap sz fun v=>k v st) _=_
   rw[hs,beq_true rfl]
   show rH lo hi mx L V id off 0 cap (aY P e) _=_
   unfold rH
   rw[jA d g,jA d f]
   rcases y with rfl|⟨om,rfl,y⟩
   ·show qD id off (aY P e) 0 cap 0 0 _=_
    rw[aDK (bJE _) (bJE _)]
    rfl
   ·have:=jA d y (fun m=>bQ (Nat.ble m 0) (bQ (Nat.ble 0 m) (qD id off (aY P e) 0 (some m) 0 0 (fun v=>k v st)) none) none)
    refine Eq.trans this ?_
    rw[dK (eK (bJE _)),dK (eK (bJE _)),aDK (bJE _) (bJE _)]
    rfl
  ·refine⟨.se,.emse,fun st k=> ?_⟩
   rw[rV b w j p]
   show bQ (Nat.beq sz (aY P e)) _ (bQ (Nat.beq 0 0) _ none)=_
   rw[beq_false hs]
   exact z _
theorem TR.tL_of{nx:Nat->Prop}{id:Id}{off len sz:Nat}{cap:Option Nat}{cs:List TV}(hs:0<sz)(C:0<len)(q:TR h bet nx F (.sl id off len cap sz) (.im sz cs)):TR h bet nx F (.sl id off len cap sz) (tL sz cs):=by
 cases cs with
 | nil=>
  exfalso
  cases q with
  |im A hf E hc=>
   have:=hc.length
   rw[bJO,bK3,bKf]at this
   have h2:sz<=len*sz:=Nat.le_mul_of_pos_left _ C
   omega
 |cons c l=>exact q
theorem aYW{t:bR5}{L V:aT}{r:bB}{nx:Nat->Prop}(d:ER h bet nx F L V r){x:TV}{a:AV}{lo hi mx:Option bR7}{v:TV}(ta:TR h bet nx F a x)(q:jB P t r x lo hi mx=some v){o:bR7}(p:∀k,cF o L V k=k a):
  ∃c,TR h bet nx F c v/\∀st k,uA P t o lo hi mx L V st k=k c st:=by
 unfold jB at q
 cases b:cW P t with
 | none=>
  rw[b]at q
  simp only at q
  cases ta<;>simp only at q<;>try (cases q;done)
  rename_i s
  split at q
  ·next hc=>
   simp only[bJF]at q
   obtain⟨l,g,m,f,q⟩:=q
   split at q
   ·next I=>
    cases q
    refine⟨.v (.string (s.extract l m)),.str _,fun st k=> ?_⟩
    unfold uA
    rw[b]
    show bR _ (nH P t&&mx.isNone) L V st k=_
    rw[hc.1,hc.2]
    show cF o L V _=_
    rw[p]
    show qB lo 0 L V _=_
    rw[jA d g,jA d f,dK (eK I.2),dK (eK I.1)]
   ·cases q
  ·cases q
 | some e=>
  rw[b]at q
  simp only at q
  split at q
  ·next w=>
   cases mx with
   | none=>
    simp only at q
    have G:∀k,qB none 0 L V k=k 0:=fun k=>rfl
    have j:aAZ hi none=true:=rfl
    cases ta<;>simp only at q<;>try (cases q;done)
    ·-- nil
     simp only[bJF]at q
     obtain⟨l,g,m,f,q⟩:=q
     split at q
     ·next hc=>
      cases q
      obtain⟨rfl,rfl⟩:=hc
      refine⟨_,.nil,fun st k=> ?_⟩
      rw[rV b w j p]
      show fB lo L V (fB hi L V (fB none L V _))=_
      rw[nB (jA d g),nB (jA d f),nB G]
     ·cases q
    ·-- im, nil
     rename_i sz
     split at q
     ·next hs=>
      simp only[bJF]at q
      obtain⟨l,g,m,f,q⟩:=q
      split at q
      ·next hc=>
       simp only[bKf,Nat.zero_div]at f hc
       have H:m=0:=by
        rcases bLF m with h0|h0
        ·exact h0
        ·have:=bKG h0 hs.2;omega
       subst H
       obtain rfl:l=0:=by omega
       cases q
       refine⟨_,by simpa [tL]using TR.emv,fun st k=> ?_⟩
       rw[rV b w j p]
       show fB lo L V (fB hi L V (fB none L V _))=_
       rw[nB (jA d g),nB (jA d f),nB G]
      ·cases q
     ·cases q
    ·-- im, an empty part
     rename_i sz
     split at q
     ·next hs=>
      simp only[bJF]at q
      obtain⟨l,g,m,f,q⟩:=q
      split at q
      ·next hc=>
       simp only[bKf,Nat.zero_div]at f hc
       have H:m=0:=by
        rcases bLF m with h0|h0
        ·exact h0
        ·have:=bKG h0 hs.2;omega
       subst H
       obtain rfl:l=0:=by omega
       cases q
       refine⟨_,by simpa [tL]using TR.emse,fun st k=> ?_⟩
       rw[rV b w j p]
       show fB lo L V (fB hi L V (fB none L V _))=_
       rw[nB (jA d g),nB (jA d f),nB G]
      ·cases q
     ·cases q
    ·-- im
     rename_i id off len cap sz blk cs A hf C hc
     split at q
     ·next hs=>
      simp only[bJF]at q
      obtain⟨l,g,m,f,q⟩:=q
      have D:cs.length=len*sz:=by rw[←hc.length];simp only[bJO,bK3];omega
      rw[D,bL0 _ hs.2]at f
      split at q
      ·next u=>
       cases q
       rw[D]at u
       have R:m<=len:=Nat.le_of_mul_le_mul_right u.2 hs.2
       have U:l*sz+(m-l)*sz=m*sz:=by rw[←bKw];congr 1;omega
       have part:bM h bet nx F ((blk.cells.drop (off+l*sz)).take ((m-l)*sz)) ((cs.drop (l*sz)).take ((m-l)*sz)):=by
        have:=(hc.drop (l*sz)).take ((m-l)*sz)
        rw[bMe,bMi,bKC]at this
        rw[bK7 (by omega)]at this
        exact this
       refine⟨if l=m then(if l=0 then .sl id off 0 cap sz else .se)else .sl id (off+l*sz) (m-l) (cap.map (· - l)) sz, ?_,fun st k=> ?_⟩
       ·by_cases elm:l=m
        ·rw[if_pos elm]
         rw[show m-l=0 by omega,bL8,List.take_zero]
         split
         ·exact .ems A hf (by omega)
         ·exact .emse
        ·rw[if_neg elm]
         refine TR.tL_of hs.2 (by omega) (.im A hf (by omega) part)
       ·rw[rV b w j p]
        show bQ (Nat.beq sz (aY P e)) (rH lo hi none L V id off len cap sz fun v=>k v st) _=_
        rw[dK (beq_true hs.1)]
        unfold rH
        rw[jA d g,jA d f]
        show qD id off sz len cap l m _=_
        rw[aDK u.1 R]
        split
        ·split<;>rfl
        ·rfl
      ·cases q
     ·cases q
    ·-- one's own
     rename_i O off len cap sz J hc
     split at q
     ·next hs=>
      simp only[bJF]at q
      obtain⟨l,g,m,f,q⟩:=q
      have qK:l<=m->m<=len->∀st k,uA P t o lo hi none L V st k=k (if l=m then(if l=0 then .sl (bet O).1 off 0 cap sz else .se)else .sl (bet O).1 (off+l*sz) (m-l) (cap.map (· - l)) sz) st:=by
       intro h1 h2 st k
       rw[rV b w j p]
       show bQ (Nat.beq sz (aY P e)) (rH lo hi none L V (bet O).1 off len cap sz fun v=>k v st) _=_
       rw[dK (beq_true hs)]
       unfold rH
       rw[jA d g,jA d f]
       show qD (bet O).1 off sz len cap l m _=_
       rw[aDK h1 h2]
       split
       ·split<;>rfl
       ·rfl
      split at q
      ·next u=>
       by_cases elm:l=m
       ·rw[if_pos elm]at q
        refine⟨_, ?_,qK u.1 u.2⟩
        rw[if_pos elm]
        by_cases e0:l=0
        ·rw[if_pos e0]at q ⊢
         cases q
         exact .ow J fun c u=>⟨bJJ _,(hc c u).2⟩
        ·rw[if_neg e0]at q ⊢
         cases q
         exact .emse
       ·rw[if_neg elm]at q
        refine⟨_, ?_,qK u.1 u.2⟩
        rw[if_neg elm]
        cases q
        refine .ow J fun c B=> ?_
        cases cap with
        |none=>cases B
        |some c0=>
         simp only[bKe,bo]at B
         obtain⟨g1,g2⟩:=hc c0 rfl
         refine⟨by omega, ?_⟩
         have:l*sz+(c0-l)*sz=c0*sz:=by rw[←bKw];congr 1;omega
         rw[←B];omega
      ·cases q
     ·cases q
    ·skip
     simp only[bJF]at q
     obtain⟨l,g,m,f,q⟩:=q
     split at q
     ·next hc=>
      cases q
      obtain⟨rfl,rfl⟩:=hc
      exact aBE d b w j p .emv g f (.inl rfl)
     ·cases q
    ·skip
     simp only[bJF]at q
     obtain⟨l,g,m,f,q⟩:=q
     split at q
     ·next hc=>
      cases q
      obtain⟨rfl,rfl⟩:=hc
      exact aBE d b w j p .emse g f (.inl rfl)
     ·cases q
    ·rename_i A hf C
     simp only[bJF]at q
     obtain⟨l,g,m,f,q⟩:=q
     split at q
     ·next hc=>
      cases q
      obtain⟨rfl,rfl⟩:=hc
      exact aBE d b w j p (.ems A hf C) g f (.inl rfl)
     ·cases q
   | some om=>
    simp only at q
    split at q
    ·next M=>
     have j:aAZ hi (some om)=true:=by show(false||hi.isSome)=true;rw[M];rfl
     simp only[bJF]at q
     obtain⟨l,g,m,f,m2,y,q⟩:=q
     split at q
     ·next S=>
      obtain⟨rfl,rfl,rfl⟩:=S
      have z:∀k,fB lo L V (fB hi L V (fB (some om) L V k))=k:=fun k=>by
       rw[nB (jA d g),nB (jA d f),nB (jA d y)]
      cases ta<;>simp only at q<;>try (cases q;done)
      ·cases q
       refine⟨_,.nil,fun st k=> ?_⟩
       rw[rV b w j p]
       exact z _
      ·split at q
       ·next hh=>exact absurd rfl hh.2
       ·cases q
      ·split at q
       ·next hh=>exact absurd rfl hh.2
       ·cases q
      ·rename_i id off len cap sz blk cs A hf C hc
       split at q
       ·next hs=>
        cases q
        refine⟨.sl id off 0 (some 0) sz,.e0 A hf (by omega),fun st k=> ?_⟩
        rw[rV b w j p]
        show bQ (Nat.beq sz (aY P e)) (rH lo hi (some om) L V id off len cap sz fun v=>k v st) _=_
        rw[dK (beq_true hs.1)]
        unfold rH
        have T:∀k,qB hi len L V k=k 0:=by
         cases hi with
         |none=>cases M
         |some oh=>exact jA d f
        rw[jA d g,T]
        obtain⟨vm,W,X⟩:=bJF.1 y
        obtain⟨am,Y,Z⟩:=fD d W
        obtain⟨ki,rfl⟩:=Y.nat_inv X
        show cF om L V (fun m=>iS m fun m=>bQ (Nat.ble m len) (bQ (Nat.ble 0 m) (qD id off sz len (some m) 0 0 _) none) none)=_
        rw[Z]
        show bQ (Nat.ble 0 len) (bQ (Nat.ble 0 0) (qD id off sz len (some 0) 0 0 (fun v=>k v st)) none) none=_
        rw[dK (eK (bJJ _)),dK (eK (bJE _)),aDK (bJE _) (bJJ _)]
        rfl
       ·cases q
      ·cases q;exact aBE d b w j p .emv g f (.inr ⟨om,rfl,y⟩)
      ·cases q;exact aBE d b w j p .emse g f (.inr ⟨om,rfl,y⟩)
      ·rename_i A hf C
       cases q;exact aBE d b w j p (.ems A hf C) g f (.inr ⟨om,rfl,y⟩)
     ·cases q
    ·cases q
  ·cases q
end
end
section
section
variable {h:Tr}{bet:Nat->Id×Nat}{F:Id->Prop}{P:bR8}
theorem aYD{t:bR5}{nx:Nat->Prop}{L V:aT}{x v:TV}{a:AV}{m:Nat}{ki:bR6}(ta:TR h bet nx F a x)(q:mI P t x m=some v){o oj:bR7}(z:∀k,cF o L V k=k a)(A:∀k,cF oj L V k=k (.i ki m)):
  ∃c,TR h bet nx F c v/\∀st k,aEq P t o oj L V st k=k c st:=by
 unfold mI at q
 unfold aEq
 cases B:cW P t with
 | some e=>
  rw[B]at q
  simp only at q
  have red:dG P e=true->∀st k,(bR (aEy o oj (aY P e)) (dG P e)) L V st k=iG a none none fun id off len _ _=>nL (aY P e) id off len m st k:=fun d st k=>by
   rw[d]
   show cF o L V (fun y=>cF oj L V fun n=>iS n fun n=>iG y none none fun id off len _ _=>nL (aY P e) id off len n st k)=_
   rw[z,A];rfl
  split at q
  ·next d=>
   cases ta<;>simp only at q<;>try (cases q;done)
   ·split at q
    ·next b=>
     exfalso
     have h1:=b.2.2
     rw[bKf]at h1
     have:=bKG (Nat.succ_pos m) b.2.1
     exact absurd (bJK this h1) (bKl 0)
    ·cases q
   ·split at q
    ·next b=>
     exfalso
     have h1:=b.2.2
     rw[bKf]at h1
     have:=bKG (Nat.succ_pos m) b.2.1
     exact absurd (bJK this h1) (bKl 0)
    ·cases q
   ·rename_i id off len cap sz blk cs j hf l hc
    split at q
    ·next b=>
     cases q
     have r:cs.length=len*sz:=by rw[←hc.length];simp only[bJO,bK3];omega
     refine⟨.ptr id (off+m*sz),.pi j hf l hc,fun st k=> ?_⟩
     show(bR (aEy o oj (aY P e)) (dG P e)) L V st k=_
     rw[red d]
     show nL (aY P e) id off len m st k=_
     unfold nL
     have D:m<len:=by
      rw[r]at b
      rcases bJS m len with h1|h1
      ·exact h1
      ·exfalso
       have:=bK8 sz h1
       have h2:=b.2.2
       have h0:=b.2.1
       rw[bKw]at h2;omega
     rw[dK (eK D),←b.1];rfl
    ·cases q
   ·rename_i i off len cap sz g hc
    split at q
    ·next b=>
     cases q
     refine⟨.ptr (bet i).1 (off+m*sz),.po g,fun st k=> ?_⟩
     show(bR (aEy o oj (aY P e)) (dG P e)) L V st k=_
     rw[red d]
     show nL (aY P e) (bet i).1 off len m st k=_
     unfold nL
     rw[dK (eK b.2),←b.1];rfl
    ·cases q
  ·cases q
 | none=>
  rw[B]at q
  simp only at q
  cases C:aEA P t with
  |none=>rw[C]at q;cases q
  | some p=>
   obtain⟨n,e⟩:=p
   rw[C]at q
   simp only at q
   have red:dG P e=true->∀st k,(oR (fun a:Nat×bR5=>bR (aHe o oj a.1 (aY P a.2)) (dG P a.2)) (some (n,e))) L V st k=lE a fun id off=>nL (aY P e) id off n m st k:=fun d st k=>by
    show(bR (aHe o oj n (aY P e)) (dG P e)) L V st k=_
    rw[d]
    show cF o L V (fun y=>cF oj L V fun n'=>iS n' fun n'=>lE y fun id off=>nL (aY P e) id off n n' st k)=_
    rw[z,A];rfl
   split at q
   ·next d=>
    cases ta<;>simp only at q<;>try (cases q;done)
    ·rename_i i off g
     cases q
     refine⟨.ptr (bet i).1 (off+m*aY P e),.po g,fun st k=> ?_⟩
     refine(red d.1 st k).trans ?_
     show nL (aY P e) (bet i).1 off n m st k=_
     unfold nL
     rw[dK (eK d.2)];rfl
    ·rename_i id s E off blk cs j hf l hc
     cases q
     refine⟨.ptr id (s+(off+m*aY P e)),.pi j hf l hc,fun st k=> ?_⟩
     refine(red d.1 st k).trans ?_
     show nL (aY P e) id (s+off) n m st k=_
     unfold nL
     rw[dK (eK d.2),←bLO];rfl
   ·cases q
theorem aZw{t:bR5}{f:Nat}{nx:Nat->Prop}{L V:aT}{x v:TV}{a:AV}(ta:TR h bet nx F a x)(q:aQ P t f x=some v){o:bR7}(z:∀k,cF o L V k=k a):
  ∃c,TR h bet nx F c v/\∀st k,aEj P t o f L V st k=k c st:=by
 have red:∀fo,lI P t f=some fo->dN P fo.2=true->∀st k,aEj P t o f L V st k=lE a fun id off=>k (.ptr id (off+fo.1)) st:=fun fo u w st k=>by
  unfold aEj
  rw[u]
  show(bR (fun L V st k=>cF o L V fun y=>lE y fun id off=>k (.ptr id (Nat.add off fo.1)) st) (dN P fo.2)) L V st k=_
  rw[w]
  show cF o L V _=_
  rw[z];rfl
 unfold aQ at q
 cases ta<;>simp only at q<;>try (cases q;done)
 ·rename_i i off g
  simp only[bJF]at q
  obtain⟨fo,u,q⟩:=q
  split at q
  ·next w=>cases q;exact⟨_,.po g,fun st k=>red fo u w st k⟩
  ·cases q
 ·rename_i id s E off blk cs j hf l hc
  simp only[bJF]at q
  obtain⟨fo,u,q⟩:=q
  split at q
  ·next w=>
   cases q
   refine⟨.ptr id (s+(off+fo.1)),.pi j hf l hc,fun st k=> ?_⟩
   rw[red fo u w]
   show k (.ptr id (s+off+fo.1)) st=_
   rw[bLO]
  ·cases q
end
end
section
section
variable {h:Tr}{bet:Nat->Id×Nat}{K:Nat->Prop}{F:Id->Prop}{P:bR8}
theorem aSw{op:BinOp}(G:op= .geq\/op= .leq){l:List TV}{aS:List AV}{v:TV}(ta:bM h bet K F aS l)(q:vmm op l=some v):∃c,TR h bet K F c v/\∀k:KA,mmK op aS k=k c:=by
 unfold vmm at q
 split at q
 ·rename_i k x k' y
  split at q
  ·next M=>
   subst M
   cases ta with
   |cons N ta=>
   cases ta with
   |cons R ta=>
   cases ta
   rename_i a b
   have red:∀c:KA,mmK op [a,b] c=wR op .other a b fun t=>oU t fun t=>c (Bool.rec b a t):=fun c=>by
    rcases N.int_inv with ⟨m,rfl,rfl⟩|⟨m,rfl,rfl⟩<;>rfl
   rcases G with rfl|rfl
   ·have S:bU .other .geq (.int k x) (.int k y)=some (.b (decide (y<=x))):=by simp [bU,dX]
    obtain⟨c,tc,ec⟩:=aJS N R S
    obtain rfl:=tc.bool_inv (show(TV.b (decide (y<=x))).bool=some (decide (y<=x))from rfl)
    simp only[bo]at q
    subst q
    by_cases D:y<=x
    ·refine⟨a,by rw[show max x y=x by omega];exact N,fun c=> ?_⟩
     rw[red,ec,ak D];rfl
    ·refine⟨b,by rw[show max x y=y by omega];exact R,fun c=> ?_⟩
     rw[red,ec,ai D];rfl
   ·have S:bU .other .leq (.int k x) (.int k y)=some (.b (decide (x<=y))):=by simp [bU,dX]
    obtain⟨c,tc,ec⟩:=aJS N R S
    obtain rfl:=tc.bool_inv (show(TV.b (decide (x<=y))).bool=some (decide (x<=y))from rfl)
    simp only[bo]at q
    subst q
    by_cases D:x<=y
    ·refine⟨a,by rw[show min x y=x by omega];exact N,fun c=> ?_⟩
     rw[red,ec,ak D];rfl
    ·refine⟨b,by rw[show min x y=y by omega];exact R,fun c=> ?_⟩
     rw[red,ec,ai D];rfl
  ·cases q
 ·cases q
theorem aOG{cal:jP}{pr:cN}{op:Op}{L V:aT}{r:bB}{s s':VS}{v:TV}(hq:lM op=true)(u:ER h bet K F L V r)(q:bK P cal op r s=some (v,s')):QR P pr h bet K F op L V s s' v:=by
 cases op<;>first|(cases hq;done)|skip
 case move x=>
  simp only[bK,bJG]at q
  obtain⟨O,j,q⟩:=q
  cases q
  obtain⟨a,ta,ea⟩:=fD u j
  exact .val ta fun ih st k=>ea (fun a=>k a st)
 case assign x=>
  simp only[bK,bJG]at q
  obtain⟨O,j,q⟩:=q
  cases q
  obtain⟨a,ta,ea⟩:=fD u j
  exact .val ta fun ih st k=>ea (fun a=>k a st)
 case pick c x y=>
  simp only[bK,bJF]at q
  obtain⟨cv,j,t,g,xv,A,yv,H,q⟩:=q
  cases q
  obtain⟨ac,tc,ec⟩:=fD u j
  obtain⟨ax,tx,ex⟩:=fD u A
  obtain⟨ay,ty,ey⟩:=fD u H
  obtain rfl:=tc.bool_inv g
  refine .val (a:=if t then ax else ay) (by cases t<;>assumption) fun ih st k=> ?_
  show cF c L V (fun Y=>oU Y fun t=>cF x L V fun a=>cF y L V fun b=>k (Bool.rec b a t) st)=_
  rw[ec]
  show cF x L V (fun a=>cF y L V fun b=>k (Bool.rec b a t) st)=_
  rw[ex,ey]
  cases t<;>rfl
 case alloc e=>
  simp only[bK,bJG]at q
  obtain⟨cs,j,q⟩:=q
  cases q
  obtain⟨z,ez,tz⟩:=aFw j
  refine .ptr tz fun ih st k=> ?_
  show aGw P e L V st k=_
  unfold aGw
  rw[ez];rfl
 case box e x=>
  simp only[bK,bJF]at q
  obtain⟨O,j,q⟩:=q
  split at q
  ·next Z=>
   cases q
   obtain⟨a,ta,ea⟩:=fD u j
   exact .ptr (ta.cells fun l e=>by subst e;cases Z) fun ih st k=>ea (fun a=>aKU a.cells st k)
  ·cases q
 case build t ps=>
  simp only[bK]at q
  split at q
  ·next hs=>
   simp only[bJF,bJG]at q
   obtain⟨z,j,cs,g,q⟩:=q
   cases q
   obtain⟨za,ez,tz⟩:=aFw (h:=h) (bet:=bet) (nx:=K) (F:=F) j
   obtain⟨aS,ta,ea⟩:=aJh u g tz
   refine .val (.ag ta) fun ih st k=> ?_
   show aGd P t ps L V st k=_
   unfold aGd
   rw[hs,ez]
   exact ea (fun cs=>k (.agg cs) st)
  ·cases q
 case buildSlice t len ps=>
  simp only[bK,bJF]at q
  obtain⟨e,e0,q⟩:=q
  split at q
  ·next hc=>
   simp only[bJF,bJG]at q
   obtain⟨z,j,cs,g,q⟩:=q
   cases q
   obtain⟨za,ez,tz⟩:=aFw (h:=h) (bet:=bet) (nx:=K) (F:=F) j
   obtain⟨aS,ta,ea⟩:=aJh u g (tz.rep len)
   have X:=ta.length
   have T:=aI4 hc.1 ez
   have U:len*aY P e=aS.length:=by
    have pl:∀ {l:List (Nat×bR7)} {c c':List TV},aD (fun i=>some (i*aY P e,aY P e)) r l c=some c'->c'.length=c.length:=by
     intro l
     induction l with
     |nil=>intro c c' q;cases q;rfl
     | cons p l ih=>
      intro c c' q
      simp only[aD,bJF]at q
      obtain⟨x,g1,v,g2,q⟩:=q
      split at q
      ·simp only[bJF]at q
       obtain⟨c1,g3,q⟩:=q
       obtain⟨p1,p2⟩:=aAj g3
       rw[ih q,p2]
       simp only[bJW,bJO,bK3];omega
      ·cases q
    rw[X,pl g,←(tz.rep len).length,aQv,T.1]
   refine .row U ta fun ih st k=> ?_
   show aGV P t len ps L V st k=_
   unfold aGV
   rw[e0]
   show bR (oR (fun z=>aKQ len ps (aY P e) (iP len z.cells)) (iK P e)) (dN P e&&Nat.ble len 1000) L V st k=_
   rw[hc.1,eK hc.2,ez]
   show aKQ len ps (aY P e) (iP len za.cells) L V st k=_
   rw[aFZ]
   exact ea (fun cs=>k (.sl st.nxt 0 len (some len) (aY P e)) (st.new ⟨cs,true⟩))
  ·cases q
 case nilCheck x=>
  simp only[bK,bJF]at q
  obtain⟨O,j,q⟩:=q
  obtain⟨a,ta,ea⟩:=fD u j
  have:∃x'',O=x''/\((∃i o,a= .ptr i o)\/∃f b c,a= .fn (.func f) b c)/\v=O/\s'=s:=by
   cases ta<;>simp only at q<;>first|(cases q;done)|skip
   ·cases q;exact⟨_,rfl,.inl ⟨_,_,rfl⟩,rfl,rfl⟩
   ·cases q;exact⟨_,rfl,.inl ⟨_,_,rfl⟩,rfl,rfl⟩
   ·cases q;exact⟨_,rfl,.inr ⟨_,_,_,rfl⟩,rfl,rfl⟩
  obtain⟨_,_,hf,rfl,rfl⟩:=this
  refine .val ta fun ih st k=> ?_
  show cF x L V (fun y=>aUb y (k y st))=_
  rw[ea]
  rcases hf with ⟨i,o,rfl⟩|⟨f,b,c,rfl⟩<;>rfl
 case binOp op t x y t'=>
  simp only[bK]at q
  split at q
  ·next hc=>
   simp only[bJF,bJG]at q
   obtain⟨xv,j,b,g,w,A,q⟩:=q
   obtain⟨ax,tx,ex⟩:=fD u j
   have hn:aCF ax=some b:=by
    unfold vni at g
    split at g
    ·cases g;cases tx;rfl
    ·cases g;cases tx;rfl
    ·cases g
   have hw:w= .b (if op= .eql then b else !b)/\(op= .eql\/op= .neq):=by
    unfold veq at A
    split at A
    ·cases A;exact⟨rfl,.inl rfl⟩
    ·cases A;exact⟨rfl,.inr rfl⟩
    ·cases A
   obtain⟨rfl,G⟩:=hw
   cases q
   refine .val (.b _) fun ih st k=> ?_
   show aAL P op t x y L V st k=_
   unfold aAL
   rw[hc]
   show cF x L V (fun a=>Option.rec none (fun b=>qI op b fun v=>k v st) (aCF a))=_
   rw[ex,hn]
   rcases G with rfl|rfl
   ·rfl
   ·cases b<;>rfl
  ·next hc=>
  simp only[bJF,bJG]at q
  obtain⟨xv,j,yv,g,w,A,q⟩:=q
  cases q
  obtain⟨ax,tx,ex⟩:=fD u j
  obtain⟨ay,ty,ey⟩:=fD u g
  obtain⟨c,tc,ec⟩:=aJS tx ty A
  refine .val tc fun ih st k=> ?_
  show aAL P op t x y L V st k=_
  unfold aAL
  rw[show(nF y&&aB7 P t)=false by simpa using hc]
  show cF x L V (fun a=>cF y L V fun b=>wR op (fA P t) a b fun v=>k v st)=_
  rw[ex,ey,ec]
 case unOp op t x=>
  simp only[bK,bJF,bJG]at q
  obtain⟨xv,j,w,A,q⟩:=q
  cases q
  obtain⟨ax,tx,ex⟩:=fD u j
  obtain⟨c,tc,ec⟩:=bHF tx A
  refine .val tc fun ih st k=> ?_
  show cF x L V (fun a=>unK op a fun v=>k v st)=_
  rw[ex,ec]
 case convert sr d x=>
  simp only[bK,bJF]at q
  obtain⟨ki,e0,xv,j,q⟩:=q
  split at q
  ·cases q
   obtain⟨ax,tx,ex⟩:=fD u j
   refine .val (aBP ki _) fun ih st k=> ?_
   show aGQ P sr d x L V st k=_
   unfold aGQ
   rw[e0]
   show cF x L V (fun a=>rP a (fun n=>k (jV ki n) st) (fun n=>k (oD ki n) st))=_
   rw[ex]
   exact bDt tx (fun a=>k a st)
  ·cases q
 case makeFunc f a b=>
  cases f<;>first|(cases q;done)|skip
  simp only[bK,bJF]at q
  obtain⟨av,j,bv,g,q⟩:=q
  cases q
  obtain⟨aS,ta,ea⟩:=tJ u j
  obtain⟨bs,tb,eb⟩:=tJ u g
  refine .val (.fn ta tb) fun ih st k=> ?_
  show jH a.toList L V (fun a=>jH b.toList L V fun b=>k (.fn _ a b) st)=_
  rw[ea,eb]
 case makeSlice t l c=>
  simp only[bK,bJF]at q
  obtain⟨e,e0,q⟩:=q
  split at q
  ·next hc=>
   simp only[bJF]at q
   obtain⟨z,j,lv,g,n,A,cv,H,m,e5,q⟩:=q
   split at q
   ·next I=>
    obtain⟨I,W⟩:=I
    cases q
    obtain⟨za,ez,tz⟩:=aFw (h:=h) (bet:=bet) (nx:=K) (F:=F) j
    obtain⟨al,tl,el⟩:=fD u g
    obtain⟨ac,tc,ec⟩:=fD u H
    obtain⟨k1,rfl⟩:=tl.nat_inv A
    obtain⟨k2,rfl⟩:=tc.nat_inv e5
    have T:=aI4 hc ez
    have red:∀st k,aCR P t l c L V st k=bQ (Nat.beq n m) (k (.sl st.nxt 0 n (some m) (aY P e)) (st.new ⟨iP m za.cells,true⟩)) (k (.sl st.nxt 0 n none (aY P e)) (st.new ⟨iP n za.cells,false⟩)):=fun st k=>by
     unfold aCR
     rw[e0]
     show bR (oR (fun z=>aU9 (aY P e) z.cells l c) (iK P e)) (dN P e) L V st k=_
     rw[hc,ez]
     show cF l L V (fun l=>cF c L V fun c=>iS l fun n=>iS c fun m=>bQ (Nat.ble n m) (bQ (Nat.ble m 10000000) (bQ (Nat.beq n m) (k (.sl st.nxt 0 n (some m) (aY P e)) (st.new ⟨iP m za.cells,true⟩)) (k (.sl st.nxt 0 n none (aY P e)) (st.new ⟨iP n za.cells,false⟩))) none) none)=_
     rw[el,ec]
     show bQ (Nat.ble n m) (bQ (Nat.ble m 10000000) _ none) none=_
     rw[dK (eK I),dK (eK W)]
    by_cases J:n=m
    ·refine .row (aS:=(bJL n za.cells).flatten) (by rw[aQv,T.1]) (tz.rep n) fun ih st k=> ?_
     show aCR P t l c L V st k=_
     rw[red,dK (beq_true J),←J,aFZ]
    ·refine .rowU (aS:=(bJL n za.cells).flatten) (tz.rep n) fun ih st k=> ?_
     show aCR P t l c L V st k=_
     rw[red,beq_false J]
     show k (.sl st.nxt 0 n none (aY P e)) (st.new ⟨iP n za.cells,false⟩)=_
     rw[aFZ]
   ·cases q
  ·cases q
 case slice t x lo hi mx=>
  simp only[bK,bJF,bJG]at q
  obtain⟨xv,j,w,A,q⟩:=q
  cases q
  obtain⟨ax,tx,ex⟩:=fD u j
  obtain⟨c,tc,ec⟩:=aYW u tx A ex
  exact .val tc fun ih st k=>ec st k
 case fieldAddr t x f=>
  simp only[bK,bJF,bJG]at q
  obtain⟨xv,j,w,A,q⟩:=q
  cases q
  obtain⟨ax,tx,ex⟩:=fD u j
  obtain⟨c,tc,ec⟩:=aZw tx A ex
  exact .val tc fun ih st k=>ec st k
 case field t x f=>
  simp only[bK,bJF]at q
  obtain⟨xv,j,q⟩:=q
  obtain⟨ax,tx,ex⟩:=fD u j
  cases tx<;>simp only at q<;>first|(cases q;done)|skip
  rename_i cs vs hc
  simp only[bJF]at q
  obtain⟨fo,g,q⟩:=q
  split at q
  ·next M=>
   rw[bJG]at q
   obtain⟨w,A,q⟩:=q
   cases q
   obtain⟨a,ta,ea⟩:=aGt A hc
   refine .val ta fun ih st k=> ?_
   show aH2 P t x f L V st k=_
   unfold aH2
   rw[g]
   show bR (fun L V st k=>cF x L V fun y=>asG y fun cs=>oQ P fo.2 fo.1 cs fun v=>k v st) (dG P fo.2) L V st k=_
   rw[M]
   show cF x L V _=_
   rw[ex]
   exact ea (fun v=>k v st)
  ·cases q
 case indexAddr t x ix=>
  simp only[bK,bJF,bJG]at q
  obtain⟨xv,j,jv,g,m,A,w,H,q⟩:=q
  cases q
  obtain⟨ax,tx,ex⟩:=fD u j
  obtain⟨aj,tj,ej⟩:=fD u g
  obtain⟨ki,rfl⟩:=tj.nat_inv A
  obtain⟨c,tc,ec⟩:=aYD tx H ex ej
  exact .val tc fun ih st k=>ec st k
 case index t x ix=>
  simp only[bK,bJF]at q
  obtain⟨xv,j,jv,g,m,A,q⟩:=q
  obtain⟨ax,tx,ex⟩:=fD u j
  obtain⟨aj,tj,ej⟩:=fD u g
  obtain⟨ki,rfl⟩:=tj.nat_inv A
  cases tx<;>simp only at q<;>first|(cases q;done)|skip
  split at q
  ·next hs=>
   rw[bJG]at q
   obtain⟨b,H,q⟩:=q
   cases q
   refine .val (.i .u8 b) fun ih st k=> ?_
   show aHp P t x ix L V st k=_
   unfold aHp
   rw[hs]
   show cF x L V _=_
   rw[ex,ej]
   show(Option.rec (motive:=fun _=>OR) none (fun b=>k (.i .u8 b) st) (uM _ m))=_
   rw[H]
  ·cases q
 case extract x i=>
  simp only[bK,bJF]at q
  obtain⟨xv,j,q⟩:=q
  obtain⟨ax,tx,ex⟩:=fD u j
  cases tx<;>simp only at q<;>first|(cases q;done)|skip
  rename_i cs vs hc
  rw[bJG]at q
  obtain⟨w,g,q⟩:=q
  cases q
  obtain⟨a,ea,ta⟩:=hc.get g
  refine .val ta fun ih st k=> ?_
  show cF x L V (fun y=>asT y fun vs=>aEv i vs fun v=>k v st)=_
  rw[ex]
  exact aFM _ _ _ _ ea
 case call c=>
  obtain⟨callee,args,E⟩:=c
  cases callee<;>first|(cases hq;done)|skip
  rename_i b
  simp only[bK,bJF]at q
  obtain⟨l,j,q⟩:=q
  obtain⟨aS,ta,ea⟩:=tJ u j
  cases b<;>first|(cases hq;done)|skip
  case max=>
   simp only[jM,bJG]at q
   obtain⟨w,g,q⟩:=q
   cases q
   obtain⟨c,tc,ec⟩:=aSw (.inl rfl) ta g
   refine .val tc fun ih st k=> ?_
   show jH args.toList L V (fun l=>rI P .max E l st k)=_
   rw[ea]
   exact ec (fun v=>k v st)
  case min=>
   simp only[jM,bJG]at q
   obtain⟨w,g,q⟩:=q
   cases q
   obtain⟨c,tc,ec⟩:=aSw (.inr rfl) ta g
   refine .val tc fun ih st k=> ?_
   show jH args.toList L V (fun l=>rI P .min E l st k)=_
   rw[ea]
   exact ec (fun v=>k v st)
  simp only[jM,bJG]at q
  obtain⟨w,g,q⟩:=q
  cases q
  unfold aN at g
  split at g
  ·rename_i t ts x etys
   have ht:E[0]? =some t:=by rw[←bLD,etys];rfl
   obtain⟨a,rfl,tx⟩:∃a,aS=[a]/\TR h bet K F a x:=by
    cases ta with |cons h1 h2=>cases h2;exact⟨_,rfl,h1⟩
   have key:∃m:Nat,v= .int .i64 m/\∀k:KA,wM P t a k=k (.i .i64 m):=by
    have some':∀ {m:Nat},cW P t≠none->(∀k:KA,iG a (k (.i .i64 0)) (k (.i .i64 0)) (fun _ _ len _ _=>k (.i .i64 len))=k (.i .i64 m))->∀k:KA,wM P t a k=k (.i .i64 m):=by
     intro m B M k
     unfold wM
     cases C:cW P t with
     |none=>exact absurd C B
     |some e=>exact M k
    clear ta
    cases tx<;>simp only[jW]at g<;>try (cases g;done)
    ·split at g
     ·next hs=>
      cases g
      refine⟨_,rfl,fun k=> ?_⟩
      unfold wM
      rw[hs.1]
      show bQ (nH P t) (k (.i .i64 _)) none=_
      rw[dK hs.2]
     ·cases g
    ·split at g
     ·cases g
     ·next B=>cases g;exact⟨0,rfl,some' B fun k=>rfl⟩
    ·split at g
     ·next e C=>
      split at g
      ·cases g;exact⟨0,by simp,some' (by rw[C];simp) fun k=>rfl⟩
      ·cases g
     ·cases g
    ·split at g
     ·next e C=>
      split at g
      ·cases g;exact⟨0,by simp,some' (by rw[C];simp) fun k=>rfl⟩
      ·cases g
     ·cases g
    ·rename_i id off len cap sz blk cs hF hf X hc
     split at g
     ·next e C=>
      split at g
      ·next hs=>
       cases g
       have Q:cs.length=len*sz:=by rw[←hc.length];simp only[bJO,bK3];omega
       refine⟨len, ?_,some' (by rw[C];simp) fun k=>rfl⟩
       rw[Q,bL0 _ hs.2]
      ·cases g
     ·cases g
    ·split at g
     ·cases g
     ·next B=>cases g;exact⟨0,rfl,some' B fun k=>rfl⟩
    ·split at g
     ·cases g
     ·next B=>cases g;exact⟨_,rfl,some' B fun k=>rfl⟩
    all_goals
     split at g
     ·cases g
     ·next B=>cases g;exact⟨0,rfl,some' B fun k=>rfl⟩
   obtain⟨m,rfl,W⟩:=key
   refine .val (.i .i64 m) fun ih st k=> ?_
   show jH args.toList L V (fun l=>rI P .len E l st k)=_
   rw[ea]
   show(Option.rec (motive:=fun _=>List AV->St->KS->OR) (fun _ _ _=>none) (fun t l st k=>rN l fun y=>wM P t y fun v=>k v st) (E[0]?)) [a] st k=_
   rw[ht]
   exact W (fun v=>k v st)
  ·cases g
end
end
section
open Go Go.RowKit
def mO:List (Nat×cK):=[(0,⟨[.fn (.yield 1) [] []],false⟩),(1,⟨[.fn (.yield 2) [] []],false⟩),(2,⟨[.fn (.yield 2) [] []],false⟩),(3,⟨[.i .u64 1,.i .u64 10,.i .u64 100,.i .u64 1000,.i .u64 10000,.i .u64 100000,.i .u64 1000000,.i .u64 10000000,.i .u64 100000000,.i .u64 1000000000,.i .u64 10000000000,.i .u64 100000000000,.i .u64 1000000000000,.i .u64 10000000000000,.i .u64 100000000000000,.i .u64 1000000000000000,.i .u64 10000000000000000,.i .u64 100000000000000000,.i .u64 1000000000000000000,.i .u64 10000000000000000000],true⟩)]
def scA:AV->Bool
 | .i _ _=>true
 | .fn (.yield 1) [] []=>true
 | .fn (.yield 2) [] []=>true
 |_=>false
theorem aPm:(mO.all fun q=>decide (q.1<G0)&&q.2.cells.all scA)=true:=by decide
def zQ:List AV->List AV->Bool
 | [],[]=>true
 | .i k n::l,.i j n'::m=>match decide (k=j),Nat.beq n n' with |true,true=>zQ l m|_,_=>false
 | .fn (.yield 1) [] []::l,.fn (.yield 1) [] []::m=>zQ l m
 | .fn (.yield 2) [] []::l,.fn (.yield 2) [] []::m=>zQ l m
 |_,_=>false
theorem aN6:∀ {l m:List AV},zQ l m=true->l=m:=by
 intro l m h
 induction l,m using zQ.induct<;>simp_all [zQ]
def aCI:Option cK->cK->Bool
 |some b,c=>match b.exact with |false=>(match c.exact with |false=>zQ b.cells c.cells|true=>false)|true=>(match c.exact with |false=>false|true=>zQ b.cells c.cells)
 |none,_=>false
theorem aMZ{o:Option cK}{c:cK}(h:aCI o c=true):o=some c:=by
 unfold aCI at h
 split at h
 ·next b=>
  obtain⟨l,x⟩:=b
  obtain⟨m,y⟩:=c
  cases x<;>cases y<;>simp only at h
  ·rw[aN6 h]
  ·cases h
  ·cases h
  ·rw[aN6 h]
 ·cases h
theorem aIE:∀q∈mO,q.1<G0:=fun q hq=>by
 have:=bKq.1 aPm q hq
 rw[bJI]at this
 exact ae this.1
theorem bCe:∀q∈mO,Tr.find (iH q.1) (aBh mO)=some q.2:=fun q hq=>by
 have h:(mO.all fun q=>aCI (Tr.find (iH q.1) (aBh mO)) q.2)=true:=by kernel_rfl
 exact aMZ (bKq.1 h q hq)
def uH(n0:Nat)(st:St):Prop:=∀q∈mO,(iH q.1).nat<n0/\Tr.find (iH q.1) st.heap=some q.2/\st.vis (iH q.1)
theorem uH.mono{n0:Nat}{st st':St}(h:uH n0 st)(r:∀id:Id,id.nat<n0->Tr.find id st'.heap=Tr.find id st.heap)(hq:st'.hid=st.hid):uH n0 st':=fun q d=>by
 obtain⟨h1,h2,f⟩:=h q d
 exact⟨h1,(r _ h1).trans h2,by show ∀p∈st'.hid,_;rw[hq];exact f⟩
theorem uH.le{n0 n1:Nat}{st:St}(h:uH n0 st)(hn:n0<=n1):uH n1 st:=fun q d=>⟨bJK (h q d).1 hn,(h q d).2⟩
theorem bEz{Γ Γ':aP}{a:AV}{v:bR4}(h:scA a=true)(q:CR Γ a v):CR Γ' a v:=by
 cases q<;>first|exact .i _ _|exact .anyI _|exact .anyE _ _|(simp [scA]at h;done)
theorem aOs{Γ Γ':aP}:∀ {l:List AV} {vs:List bR4},l.all scA=true->bW Γ l vs->bW Γ' l vs
 | [],_,_,q=>by cases q;exact .nil
 |a::l,_,h,q=>by
  rw[bKK,bJI]at h
  cases q with |cons qa ql=>exact .cons (bEz h.1 qa) (aOs h.2 ql)
theorem bHp{b:cK}(h:b.cells.all scA=true):mS b.cells=false:=by
 cases t:b.cells with
 |nil=>rfl
 |cons a l=>
  rw[t,bKK,bJI]at h
  cases a<;>first|rfl|(simp [scA]at h;done)
theorem BR.any{Γ Γ':aP}{b:cK}{s:Nat}{ob:Option Obj}(h:b.cells.all scA=true)(q:BR Γ b s ob):BR Γ' b s ob:=by
 obtain⟨cs,el,h1,h2,f,u,z⟩:=q.cells (bHp h)
 exact .of h1 h2 f (aOs h u) z
def fZ(w:bR3):Prop:=∃sz:Nat->Nat,∀q∈mO,q.1<w.heap.size/\BR (aP.own sz) q.2 (sz q.1) (aCD w.heap[q.1]?)
theorem fZ.ext{w w':bR3}(h:fZ w)(hx:∀p,p<w.heap.size->w'.heap[p]? =w.heap[p]?)(hs:w.heap.size<=w'.heap.size):fZ w':=by
 obtain⟨sz,h⟩:=h
 refine⟨sz,fun q hq=> ?_⟩
 obtain⟨h1,h2⟩:=h q hq
 exact⟨bJK h1 hs,by rw[hx _ h1];exact h2⟩
theorem fZ.below{w w':bR3}(h:fZ w)(hx:Below w.heap.size w w'):fZ w':=h.ext hx.block hx.size
def aBg(st:St)(id:Id):Bool:=st.hid.all fun p=> !(Nat.ble p.1 id.nat&&Nat.ble (id.nat+1) p.2)
theorem aBM{st:St}{id:Id}:aBg st id=true↔st.vis id:=by
 unfold aBg St.vis
 rw[bKq]
 constructor
 ·intro h p i hh
  have:=h p i
  rw[bKX hh.1,bKX (Nat.succ_le_of_lt hh.2)]at this
  cases this
 ·intro h p i
  cases h1:Nat.ble p.1 id.nat with
  |false=>rfl
  |true=>
   cases h2:Nat.ble (id.nat+1) p.2 with
   |false=>rfl
   |true=>exact absurd ⟨bJP h1,bJP h2⟩ (h p i)
def aGG(st:St):Bool:=mO.all fun q=>aCI (Tr.find (iH q.1) st.heap) q.2&&aBg st (iH q.1)
theorem aP1{n0:Nat}{st:St}(h:uH n0 st):aGG st=true:=by
 refine bKq.2 fun q hq=> ?_
 obtain⟨-,h1,h2⟩:=h q hq
 have e:∀q∈mO,aCI (some q.2) q.2=true:=bKq.1 (by kernel_rfl:(mO.all fun q=>aCI (some q.2) q.2)=true)
 rw[h1,e q hq,aBM.2 h2];rfl
theorem aM3{st:St}{Γ:aP}{w:bR3}(hs:dQ st Γ w)(h:aGG st=true):fZ w:=by
 refine⟨fun g=>((Γ (iH g)).getD (0,0)).2,fun q hq=> ?_⟩
 have h1:=bKq.1 h q hq
 have h2:=bKq.1 aPm q hq
 rw[bJI]at h1 h2
 have hf:=aMZ h1.1
 obtain⟨p,s,g1,g2,g3⟩:=hs.blk _ _ ⟨aBM.1 h1.2,hf⟩
 obtain⟨s',g4⟩:=hs.glob q.1 (ae h2.1)
 rw[g4]at g1
 cases g1
 refine⟨g2, ?_⟩
 have e:((Γ (iH q.1)).getD (0,0)).2=s:=by rw[g4];rfl
 simp only[e]
 exact g3.unthw.any h2.2
end
section
structure VI(n0:Nat)(st:St)(s:VS)(bet:Nat->Id×Nat)(F:Id->Prop):Prop where
 ro:st.ro<=n0
 low:n0<=st.nxt.nat
 hid:∀p∈st.hid,p.2<=n0
 rng:∀k,k<s.nxt->n0<=(bet k).1.nat/\(bet k).1.nat<st.nxt.nat
 obj:∀k,k<s.nxt->(s.ob k).how≠2->∃blk,Tr.find (bet k).1 st.heap=some blk/\blk.cells.length=(bet k).2/\bM st.heap bet s.dom F blk.cells (s.ob k).cs
 inj:∀k f,k<s.nxt->f<s.nxt->(bet k).1=(bet f).1->k=f
 sep:∀k,k<s.nxt->(s.ob k).how=0->¬F (bet k).1
 lt:∀id,F id->id.nat<st.nxt.nat
 vis:∀id,F id->st.vis id
 tab:uH n0 st
structure dA(n0:Nat)(st:St)(s:VS)(bet:Nat->Id×Nat)(F:Id->Prop)(st':St)(s':VS)(bet':Nat->Id×Nat)(F':Id->Prop):Prop where
 inv:VI n0 st' s' bet' F'
 sb:Sb st.heap bet s.dom F st'.heap bet' s'.dom F'
 old:∀id:Id,id.nat<n0->Tr.find id st'.heap=Tr.find id st.heap
 rq:st'.ro=st.ro
 hq:st'.hid=st.hid
 nx:st.nxt.nat<=st'.nxt.nat
 gr:∀id,F' id->F id\/n0<=id.nat
theorem dA.refl{n0:Nat}{st:St}{s:VS}{bet:Nat->Id×Nat}{F:Id->Prop}(h:VI n0 st s bet F):dA n0 st s bet F st s bet F:=⟨h,Sb.refl _ _ _ _,fun _ _=>rfl,rfl,rfl,bJE _,fun _ h=> .inl h⟩
theorem dA.trans{n0:Nat}{s1 C D:St}{E v2 v3:VS}{G H I:Nat->Id×Nat}{F1 F2 F3:Id->Prop}(p:dA n0 s1 E G F1 C v2 H F2)(q:dA n0 C v2 H F2 D v3 I F3):dA n0 s1 E G F1 D v3 I F3:=
 ⟨q.inv,p.sb.trans q.sb,fun id u=>(q.old id u).trans (p.old id u),q.rq.trans p.rq,q.hq.trans p.hq,bJH p.nx q.nx,fun id h=>(q.gr id h).elim (p.gr id) .inr⟩
theorem ER.mono{h h':Tr}{bet bet':Nat->Id×Nat}{nx nx':Nat->Prop}{F F':Id->Prop}(hs:Sb h bet nx F h' bet' nx' F'){L V:aT}{r:bB}(q:ER h bet nx F L V r):ER h' bet' nx' F' L V r:=fun t v M=>by
 obtain⟨a,h1,h2⟩:=q t v M
 exact⟨a,h1,h2.mono hs⟩
section
variable {n0:Nat}{st:St}{s:VS}{bet:Nat->Id×Nat}{F:Id->Prop}{P:bR8}
theorem Id.ne_of_lt{a b:Id}(h:a.nat<b.nat):a≠b:=fun e=>by rw[e]at h;exact bKl _ h
theorem aQ5(st:St)(b:cK):(st.new b).heap=Tr.put (some b) st.nxt st.heap:=rfl
theorem mE(st:St)(b:cK):(st.new b).nxt.nat=st.nxt.nat+1:=Id.nat_succ _
theorem vM(st:St)(b:cK){id:Id}(h:id.nat<st.nxt.nat):Tr.find id (st.new b).heap=Tr.find id st.heap:=Tr.put_other _ _ _ _ (fun e=>Id.ne_of_lt h e.symm)
theorem aIS(st:St)(b:cK):Tr.find st.nxt (st.new b).heap=some b:=Tr.put_same _ _ _
theorem lL(c:VI n0 st s bet F){id:Id}(h:n0<=id.nat):st.vis id:=fun p J hh=>by have:=c.hid p J;omega
def gS(bet:Nat->Id×Nat)(n:Nat)(p:Id×Nat):Nat->Id×Nat:=fun k=>if k=n then p else bet k
theorem iT(bet:Nat->Id×Nat)(n:Nat)(p:Id×Nat):gS bet n p n=p:=if_pos rfl
theorem aG9(bet:Nat->Id×Nat){n k:Nat}(p:Id×Nat)(h:k≠n):gS bet n p k=bet k:=if_neg h
theorem VI.new(c:VI n0 st s bet F){cs:List TV}{blk:cK}(hc:bM st.heap bet s.dom F blk.cells cs):
  dA n0 st s bet F (st.new blk) (s.new cs) (gS bet s.nxt (st.nxt,blk.cells.length)) F:=by
 have m:Sb st.heap bet s.dom F (st.new blk).heap (gS bet s.nxt (st.nxt,blk.cells.length)) (s.new cs).dom F:=
  ⟨fun id y=>vM st blk (c.lt id y),fun _ h=>h,fun k g=>bM5 g,fun k g=>aG9 bet _ (bMV g)⟩
 have w:∀k,k<s.nxt->gS bet s.nxt (st.nxt,blk.cells.length) k=bet k:=fun k g=>aG9 bet _ (by omega)
 have K:∀k,k<s.nxt->(s.new cs).ob k=s.ob k:=fun k g=>if_neg (by omega)
 refine⟨⟨c.ro,by rw[mE];have:=c.low;omega,c.hid, ?_, ?_, ?_, ?_, ?_,c.vis,c.tab.mono (fun id u=>vM st blk (bJK u c.low)) rfl⟩,m,fun id u=>vM st blk (bJK u c.low),rfl,rfl,by rw[mE];omega,fun _ h=> .inl h⟩
 ·intro k g
  rw[mE]
  by_cases e:k=s.nxt
  ·rw[e,iT];have:=c.low;exact⟨this,by show st.nxt.nat<_;omega⟩
  ·have d:k<s.nxt:=by have:k<s.nxt+1:=g;omega
   rw[w k d];have:=c.rng k d;omega
 ·intro k g hh
  by_cases e:k=s.nxt
  ·subst e
   refine⟨blk, ?_, ?_, ?_⟩
   ·rw[iT];exact aIS st blk
   ·rw[iT]
   ·have:((s.new cs).ob s.nxt).cs=cs:=by show(if s.nxt=s.nxt then(⟨0,cs⟩:Ob)else s.ob s.nxt).cs=cs;rw[if_pos rfl]
    rw[this];exact hc.mono m
  ·have d:k<s.nxt:=by have:k<s.nxt+1:=g;omega
   rw[K k d]at hh ⊢
   obtain⟨b,h1,h2,N⟩:=c.obj k d hh
   rw[w k d]
   exact⟨b,(vM st blk (c.rng k d).2).trans h1,h2,N.mono m⟩
 ·intro k f g d e
  by_cases A:k=s.nxt
  ·by_cases B:f=s.nxt
   ·rw[A,B]
   ·have j:f<s.nxt:=by have:f<s.nxt+1:=d;omega
    rw[w f j]at e
    rw[A,iT]at e
    have:=(c.rng f j).2
    rw[←e]at this;exact absurd this (bKl _)
  ·have j:k<s.nxt:=by have:k<s.nxt+1:=g;omega
   rw[w k j]at e
   by_cases B:f=s.nxt
   ·rw[B,iT]at e
    have:=(c.rng k j).2
    rw[e]at this;exact absurd this (bKl _)
   ·have z:f<s.nxt:=by have:f<s.nxt+1:=d;omega
    rw[w f z]at e
    exact c.inj k f j z e
 ·intro k g hh
  by_cases A:k=s.nxt
  ·rw[A,iT]
   intro y;exact absurd (c.lt _ y) (bKl _)
  ·have j:k<s.nxt:=by have:k<s.nxt+1:=g;omega
   rw[w k j]
   rw[K k j]at hh
   exact c.sep k j hh
 ·intro id y
  rw[mE];have:=c.lt id y;omega
theorem bFa{st:St}{id:Id}{b:cK}(c:st.vis id)(hf:Tr.find id st.heap=some b)(k:cK->OR):aEC st id k=k b:=by
 have h2:Tr.get id st.heap k=k b:=by
  have:∀(id:Id) (t:Tr),Tr.find id t=some b->Tr.get id t k=k b:=by
   intro id
   induction id with
   |h=>intro t h;cases t with
    |leaf=>cases h
    |node l x r=>have h:x=some b:=h;subst h;rfl
   |o p ih=>intro t h;cases t with
    |leaf=>cases h
    |node l x r=>exact ih l h
   |i p ih=>intro t h;cases t with
    |leaf=>cases h
    |node l x r=>exact ih r h
  exact this id st.heap hf
 have h1:∀l:List (Nat×Nat),(∀p∈l,¬(p.1<=id.nat/\id.nat<p.2))->zK none (Tr.get id st.heap k) id.nat l=Tr.get id st.heap k:=by
  intro l
  induction l with
  |nil=>intro _;rfl
  | cons p l ih=>
   intro h
   show(Bool.rec (motive:=fun _=>OR) (zK none _ id.nat l) (Bool.rec (motive:=fun _=>OR) none (zK none _ id.nat l) (Nat.ble p.2 id.nat)) (Nat.ble p.1 id.nat))=_
   have J:=h p (.head _)
   have ih:=ih fun q hq=>h q (.tail _ hq)
   cases h1:Nat.ble p.1 id.nat with
   |false=>exact ih
   |true=>
    have h1:=bJP h1
    rw[eK (by omega:p.2<=id.nat)];exact ih
 unfold aEC
 cases hh:st.hid with
 |nil=>exact h2
 |cons p l=>rw[←h2];exact h1 (p::l) (fun q hq=>c q (by rw[hh];exact hq))
theorem iC{st:St}{id:Id}{b:cK}(c:st.vis id)(hf:FC st.heap id b)(k:cK->OR):eQ st id k=k b:=by
 unfold eQ
 rw[bFa c hf.hf]
 show(Bool.rec (k b) none (mS b.cells):OR)=k b
 rw[hf.nm]
theorem aAU{st:St}{id:Id}(h:st.ro<=id.nat)(k:OR):wrK st id k=k:=by
 unfold wrK
 cases h0:Nat.beq st.ro 0 with
 |true=>rfl
 |false=>rw[eK h]
end
end
section
section
variable {n0:Nat}{st:St}{s:VS}{bet:Nat->Id×Nat}{F:Id->Prop}{P:bR8}
theorem VS.set_ob(s:VS)(k:Nat)(o:Ob):(s.set k o).ob k=o:=if_pos rfl
theorem VS.set_ne(s:VS){k j:Nat}(o:Ob)(h:j≠k):(s.set k o).ob j=s.ob j:=if_neg h
def St.withH(st:St)(h:Tr):St:=⟨h,st.nxt,st.ro,st.hid⟩
theorem VI.put(d:VI n0 st s bet F){k:Nat}(g:k<s.nxt)(h0:(s.ob k).how=0){ob:Option cK}{o:Ob}(hh:o.how=0\/o.how=2)
  (hc:o.how=0->∃blk,ob=some blk/\blk.cells.length=(bet k).2/\bM st.heap bet s.dom F blk.cells o.cs):dA n0 st s bet F (st.withH (Tr.put ob (bet k).1 st.heap)) (s.set k o) bet F:=by
 have n:Sb st.heap bet s.dom F (Tr.put ob (bet k).1 st.heap) bet s.dom F:=
  ⟨fun id hF=>Tr.put_other _ _ _ _ (fun e=>d.sep k g h0 (e ▸ hF)),fun _ h=>h,fun _ h=>h,fun _ _=>rfl⟩
 refine⟨⟨d.ro,d.low,d.hid,d.rng, ?_, ?_, ?_,d.lt,d.vis,d.tab.mono (fun id y=>Tr.put_other _ _ _ _ (fun e=>by have:=(d.rng k g).1;rw[e]at this;omega)) rfl⟩,n,fun id y=>Tr.put_other _ _ _ _ (fun e=>by have:=(d.rng k g).1;rw[e]at this;omega),rfl,rfl,bJE _,fun _ h=> .inl h⟩
 ·intro j p f
  by_cases e:j=k
  ·subst e
   rw[VS.set_ob]at f ⊢
   rcases hh with hh|hh
   ·obtain⟨blk,rfl,C,D⟩:=hc hh
    exact⟨blk,Tr.put_same _ _ _,C,D.mono n⟩
   ·exact absurd hh f
  ·rw[VS.set_ne _ _ e]at f ⊢
   obtain⟨b,h1,h2,r⟩:=d.obj j p f
   refine⟨b,(Tr.put_other _ _ _ _ (fun E=>e ?_)).trans h1,h2,r.mono n⟩
   exact d.inj j k p g E.symm
 ·intro i j y p e
  exact d.inj i j y p e
 ·intro j p f
  by_cases e:j=k
  ·rw[e];exact d.sep k g h0
  ·rw[VS.set_ne _ _ e]at f;exact d.sep j p f
theorem VI.freeze(d:VI n0 st s bet F){k:Nat}(g:k<s.nxt)(h2:(s.ob k).how≠2):dA n0 st s bet F st (s.set k ⟨1,(s.ob k).cs⟩) bet (fun id=>F id\/id=(bet k).1):=by
 have n:Sb st.heap bet s.dom F st.heap bet s.dom (fun id=>F id\/id=(bet k).1):=⟨fun _ _=>rfl,fun _ h=> .inl h,fun _ h=>h,fun _ _=>rfl⟩
 have how:∀i,((s.set k ⟨1,(s.ob k).cs⟩).ob i).how≠2->(s.ob i).how≠2:=fun i h=>by
  by_cases e:i=k
  ·rw[e];exact h2
  ·rw[VS.set_ne _ _ e]at h;exact h
 refine⟨⟨d.ro,d.low,d.hid,d.rng, ?_, ?_, ?_, ?_, ?_,d.tab⟩,n,fun _ _=>rfl,rfl,rfl,bJE _,fun id h=>h.elim .inl fun e=> .inr (by rw[e];exact(d.rng k g).1)⟩
 ·intro j p f
  obtain⟨b,h1,r,A⟩:=d.obj j p (how j f)
  refine⟨b,h1,r, ?_⟩
  by_cases e:j=k
  ·subst e;rw[VS.set_ob];exact A.mono n
  ·rw[VS.set_ne _ _ e];exact A.mono n
 ·intro i j y p e
  exact d.inj i j y p e
 ·intro j p f
  by_cases e:j=k
  ·subst e;rw[VS.set_ob]at f;cases f
  ·rw[VS.set_ne _ _ e]at f
   rintro(hF|hF)
   ·exact d.sep j p f hF
   ·exact e (d.inj j k p g hF)
 ·rintro id (hF|rfl)
  ·exact d.lt id hF
  ·exact(d.rng k g).2
 ·rintro id (hF|rfl)
  ·exact d.vis id hF
  ·exact lL d (d.rng k g).1
theorem aJY{t:bR5}{h:Tr}{nx:Nat->Prop}{o m off:Nat}{cs:List TV}{aS:List AV}{v:TV}(B:o+m<=aS.length)(hc:bM h bet nx F ((aS.drop o).take m) cs)(q:qM P t off cs=some v):∃a,TR h bet nx F a v/\∀k,oQ P t (o+off) aS k=k a:=by
 have x:cs.length=m:=by rw[←hc.length];simp only[bJO,bK3];omega
 unfold qM at q
 unfold oQ
 split at q
 ·next hh=>
  rw[bJG]at q
  obtain⟨l,e,rfl⟩:=q
  obtain⟨h1,h2⟩:=xR e
  have:=(hc.drop off).take (aY P t)
  rw[bMe,bMi,bKC,bK7 (by omega),←h2]at this
  refine⟨_,.ag this,fun k=> ?_⟩
  rw[hh]
  show fT (aY P t) (o+off) aS _=_
  rw[jY _ _ _ _ (by omega)]
 ·next hh=>
  obtain⟨a,e,ta⟩:=hc.get q
  refine⟨a,ta,fun k=> ?_⟩
  rw[Bool.not_eq_true]at hh
  rw[hh]
  refine aFM _ _ _ _ ?_
  rw[List.getElem?_take,List.getElem?_drop]at e
  split at e
  ·exact e
  ·cases e
theorem aOw(d:VI n0 st s bet F){t:bR5}{v w:TV}{a:AV}(ta:TR st.heap bet s.dom F a v)(q:kP P t s v=some w):∃c,TR st.heap bet s.dom F c w/\∀k:KA,lE a (fun id off=>eQ st id fun b=>oQ P t off b.cells k)=k c:=by
 unfold kP at q
 cases ta<;>simp only at q<;>try (cases q;done)
 ·rename_i u off g
  split at q
  ·next hc=>
   obtain⟨blk,h1,h2,r⟩:=d.obj u g hc.2
   obtain⟨c,tc,ec⟩:=aGt q r
   refine⟨c,tc,fun k=> ?_⟩
   show eQ st (bet u).1 _=_
   rw[iC (lL d (d.rng u g).1) ⟨h1,r.nm⟩]
   exact ec k
  ·cases q
 ·rename_i id o m off blk cs hF hf B hc
  obtain⟨c,tc,ec⟩:=aJY B hc q
  refine⟨c,tc,fun k=> ?_⟩
  show eQ st id _=_
  rw[iC (d.vis id hF) hf]
  exact ec k
theorem aYs(d:VI n0 st s bet F){t:bR5}{v w:TV}{a c:AV}{s':VS}(ta:TR st.heap bet s.dom F a v)(tc:TR st.heap bet s.dom F c w)(q:aAO P t s w v=some s'):
  ∃st',dA n0 st s bet F st' s' bet F/\∀k:St->OR,lE a (fun id off=>eQ st id fun b=>bQ (Nat.beq (lV c.cells) (aY P t)) (bQ (jG c.cells) (nM c.cells off b.cells fun cs=>nO st id ⟨cs,b.exact⟩ k) none) none)=k st':=by
 unfold aAO at q
 cases ta<;>simp only at q<;>try (cases q;done)
 rename_i u off g
 split at q
 ·next hc=>
  rw[bJG]at q
  obtain⟨cs,e,rfl⟩:=q
  obtain⟨I,G⟩:=aAj e
  obtain⟨blk,h1,h2,r⟩:=d.obj u g (by rw[hc.2.1];decide)
  have tcc:=tc.cells (fun l e=>by subst e;cases hc.2.2.2)
  have x:=tcc.length
  have H:=r.length
  have z:bM st.heap bet s.dom F (blk.cells.take off++c.cells++blk.cells.drop (off+c.cells.length)) cs:=by
   rw[G,x];exact((r.take off).app tcc).app (r.drop _)
  refine⟨st.withH (Tr.put (some ⟨blk.cells.take off++c.cells++blk.cells.drop (off+c.cells.length),blk.exact⟩) (bet u).1 st.heap),d.put g hc.2.1 (.inl rfl) (fun _=>⟨_,rfl, ?_,z⟩),fun k=> ?_⟩
  ·show(blk.cells.take off++c.cells++blk.cells.drop (off+c.cells.length)).length=_
   rw[←h2];simp only[bJW,bJO,bK3];omega
  ·show eQ st (bet u).1 _=_
   rw[iC (lL d (d.rng u g).1) ⟨h1,r.nm⟩,dK (beq_true (by rw[xX,x];exact hc.2.2.1)),dK (vO tcc hc.2.2.2),aAx _ _ _ _ (by omega)]
   unfold nO
   rw[aAU (bJH d.ro (d.rng u g).1)]
   rfl
 ·cases q
end
end
section
section
variable {n0:Nat}{st:St}{P:bR8}
mutual
theorem TR.closed{h:Tr}{bet bet':Nat->Id×Nat}{nx nx':Nat->Prop}{F:Id->Prop}{a:AV}{v:TV}(q:TR h bet nx F a v)(hc:cI v=true):TR h bet' nx' F a v:=by
 cases q with
 |b=>exact .b _
 |i=>exact .i _ _
 |m=>exact .m _ _
 |str=>exact .str _
 |lit _ hx=>exact .lit _ hx
 |err=>exact .err
 |u=>exact .u
 |nil=>exact .nil
 |imv=>exact .imv _
 |imse=>exact .imse _
 |im f hf c d=>exact .im f hf c (bM.closed d (by simpa only[cI]using hc))
 |e0 f hf c=>exact .e0 f hf c
 |ow=>simp [cI]at hc
 |po=>simp [cI]at hc
 |pi=>simp [cI]at hc
 |fn r D=>
  simp only[cI,bJI]at hc
  exact .fn (bM.closed r hc.1) (bM.closed D hc.2)
 |ag d=>exact .ag (bM.closed d (by simpa only[cI]using hc))
 |tp d=>exact .tp (bM.closed d (by simpa only[cI]using hc))
 |emv=>exact .emv
 |emse=>exact .emse
 |ems f hf c=>exact .ems f hf c
theorem bM.closed{h:Tr}{bet bet':Nat->Id×Nat}{nx nx':Nat->Prop}{F:Id->Prop}{a:List AV}{v:List TV}(q:bM h bet nx F a v)(hc:dI v=true):bM h bet' nx' F a v:=by
 cases q with
 |nil=>exact .nil
 |cons r c=>
  simp only[dI,bJI]at hc
  exact .cons (TR.closed r hc.1) (bM.closed c hc.2)
end
theorem bM.closedA{h:Tr}{bet bet':Nat->Id×Nat}{nx nx':Nat->Prop}{F:Id->Prop}:∀ {a:List AV} {v:List TV},bM h bet nx F a v->pQ v=true->bM h bet' nx' F a v
 |_,_,.nil,_=> .nil
 |_,_,.cons r c,hc=>by
  simp only[pQ,bJI]at hc
  refine .cons ?_ (bM.closedA c hc.2)
  have g:=hc.1
  cases r with
  |pi f hf c d=>exact .pi f hf c (d.closed (by simpa only[oP]using g))
  |b=>exact .b _
  |i=>exact .i _ _
  |m=>exact .m _ _
  |str=>exact .str _
  |lit _ hx=>exact .lit _ hx
  |err=>exact .err
  |u=>exact .u
  |nil=>exact .nil
  |imv=>exact .imv _
  |imse=>exact .imse _
  |e0 f hf c=>exact .e0 f hf c
  |emv=>exact .emv
  |emse=>exact .emse
  |ems f hf c=>exact .ems f hf c
  |po y=>simp [oP,cI]at g
  |ow y hc=>simp [oP,cI]at g
  |im f hf c d=>exact(TR.im f hf c d).closed (by simpa only[oP]using g)
  |fn r D=>exact(TR.fn r D).closed (by simpa only[oP]using g)
  |ag d=>exact(TR.ag d).closed (by simpa only[oP]using g)
  |tp d=>exact(TR.tp d).closed (by simpa only[oP]using g)
theorem aHW{t:TV}(h:cI t=true):oP t=true:=by
 unfold oP
 split
 ·simp [cI]at h
 ·exact h
theorem aD1:∀ {l:List TV},dI l=true->pQ l=true
 | [],_=>rfl
 |a::l,h=>by
  simp only[dI,bJI]at h
  simp only[pQ,aHW h.1,aD1 h.2,bKr]
theorem xV:∀m:Nat,
  (∀ {s s':VS} {bet:Nat->Id×Nat} {F:Id->Prop} {v w:TV} {a:AV},fE m s v=some (w,s')->VI n0 st s bet F->TR st.heap bet s.dom F a v->∃F',dA n0 st s bet F st s' bet F'/\TR st.heap bet s'.dom F' a w/\cI w=true)/\
  (∀ {s s':VS} {bet:Nat->Id×Nat} {F:Id->Prop} {v w:List TV} {a:List AV},cY m s v=some (w,s')->VI n0 st s bet F->bM st.heap bet s.dom F a v->∃F',dA n0 st s bet F st s' bet F'/\bM st.heap bet s'.dom F' a w/\dI w=true)
 |0=>⟨fun q=>by simp [fE]at q,fun q=>by simp [cY]at q⟩
 | m +1=>by
  obtain⟨E,x⟩:=xV m
  refine⟨fun {s s' bet F v w a} q j ta=> ?_,fun {s s' bet F v w a} q j ta=> ?_⟩
  ·have leaf:(if cI v then some (v,s)else none)=some (w,s')->∃F',dA n0 st s bet F st s' bet F'/\TR st.heap bet s'.dom F' a w/\cI w=true:=by
    intro q
    split at q
    ·next hc=>cases q;exact⟨F,dA.refl j,ta,hc⟩
    ·cases q
   cases ta with
   | ow y hc=>
    rename_i k off len cap sz
    simp only[fE]at q
    split at q
    ·next A=>
     simp only[bJF,bJG]at q
     obtain⟨l,G,p,H,q⟩:=q
     cases q
     obtain⟨c1,c2⟩:=xR G
     obtain⟨blk,h1,h2,n⟩:=j.obj k y A.2
     have c:=n.length
     have z:=j.freeze y A.2
     have win:bM st.heap bet s.dom F ((blk.cells.drop off).take (len*sz)) l:=by rw[c2];exact(n.drop off).take _
     obtain⟨F',B,t2,t3⟩:=x (a:=(blk.cells.drop off).take (len*sz)) H z.inv (win.mono z.sb)
     refine⟨F',z.trans B,.im (B.sb.sub _ (.inr rfl)) ⟨h1,n.nm⟩ (by omega) t2,by simpa only[cI]using t3⟩
    ·cases q
   |ag hc=>
    simp only[fE,bJG]at q
    obtain⟨p,e,q⟩:=q
    cases q
    obtain⟨F',h1,h2,n⟩:=x e j hc
    exact⟨F',h1,.ag h2,by simpa only[cI]using n⟩
   |tp hc=>
    simp only[fE,bJG]at q
    obtain⟨p,e,q⟩:=q
    cases q
    obtain⟨F',h1,h2,n⟩:=x e j hc
    exact⟨F',h1,.tp h2,by simpa only[cI]using n⟩
   |b=>exact leaf q
   |i=>exact leaf q
   |m=>exact leaf q
   |str=>exact leaf q
   |lit=>exact leaf q
   |err=>exact leaf q
   |u=>exact leaf q
   |nil=>exact leaf q
   |imv=>exact leaf q
   |imse=>exact leaf q
   |im f hf c hc=>exact leaf q
   |e0 f hf c=>exact leaf q
   |po y=>exact leaf q
   |pi f hf c hc=>exact leaf q
   |fn r D=>exact leaf q
   |emv=>exact leaf q
   |emse=>exact leaf q
   |ems f hf c=>exact leaf q
  ·cases ta with
   |nil=>simp only[cY]at q;cases q;exact⟨F,dA.refl j,.nil,rfl⟩
   |cons r c=>
    simp only[cY,bJF,bJG]at q
    obtain⟨p,G,K,H,q⟩:=q
    cases q
    obtain⟨F1,h1,h2,n⟩:=E G j r
    obtain⟨F2,k1,k2,J⟩:=x H h1.inv (c.mono h1.sb)
    exact⟨F2,h1.trans k1,.cons (h2.mono k1.sb) k2,by simp only[dI,n,J,bKr]⟩
section
variable {s:VS}{bet:Nat->Id×Nat}{F:Id->Prop}
theorem aZM(j:VI n0 st s bet F){sz m:Nat}{v:TV}{a:AV}{cs:List TV}(ta:TR st.heap bet s.dom F a v)(q:jC s sz v=some (cs,m)):∃aS,bM st.heap bet s.dom F aS cs/\∀k,aHj st sz a k=k aS m:=by
 cases ta<;>simp only[jC]at q<;>try (cases q;done)
 ·cases q;exact⟨[],.nil,fun k=>rfl⟩
 ·split at q
  ·cases q;exact⟨[],.nil,fun k=>by simp;rfl⟩
  ·cases q
 ·split at q
  ·cases q;exact⟨[],.nil,fun k=>by simp;rfl⟩
  ·cases q
 ·rename_i id off len cap o blk cs' f hf c hc
  split at q
  ·next hs=>
   cases q
   have C:cs.length=len*o:=by rw[←hc.length];simp only[bJO,bK3];omega
   refine⟨_,hc,fun k=> ?_⟩
   show eQ st id (fun b=>fT (Nat.mul len sz) off b.cells fun cs=>k cs len)=_
   rw[iC (j.vis id f) hf,←hs.1]
   show fT (len*o) off blk.cells _=_
   rw[jY _ _ _ _ c,C,hs.1,bL0 _ hs.2]
  ·cases q
 ·rename_i id off o blk f hf c
  cases q
  refine⟨[],.nil,fun k=> ?_⟩
  show eQ st id (fun b=>fT (Nat.mul 0 sz) off b.cells fun cs=>k cs 0)=_
  rw[iC (j.vis id f) hf,show Nat.mul 0 sz=0 from bL8 sz,jY _ _ _ _ (by omega)];rfl
 ·rename_i I off len cap o y hc
  split at q
  ·next hs=>
   rw[bJG]at q
   obtain⟨l,e,q⟩:=q
   cases q
   obtain⟨c1,c2⟩:=xR e
   obtain⟨blk,h1,h2,n⟩:=j.obj I y hs.2.2
   refine⟨_,c2 ▸ (n.drop off).take (m*sz),fun k=> ?_⟩
   show eQ st (bet I).1 (fun b=>fT (Nat.mul m sz) off b.cells fun cs=>k cs m)=_
   rw[iC (lL j (j.rng I y).1) ⟨h1,n.nm⟩]
   show fT (m*sz) off blk.cells _=_
   rw[jY _ _ _ _ (by rw[n.length];exact c1)]
  ·cases q
 ·cases q;exact⟨[],.nil,fun k=>rfl⟩
 ·cases q;exact⟨[],.nil,fun k=>rfl⟩
 ·rename_i id off o cap blk f hf c
  cases q
  refine⟨[],.nil,fun k=> ?_⟩
  show eQ st id (fun b=>fT (Nat.mul 0 sz) off b.cells fun cs=>k cs 0)=_
  rw[iC (j.vis id f) hf,show Nat.mul 0 sz=0 from bL8 sz,jY _ _ _ _ (by omega)];rfl
end
end
end
section
section
variable {n0:Nat}{st:St}{P:bR8}{s:VS}{bet:Nat->Id×Nat}{F:Id->Prop}
theorem aNR{e:bR5}(hc:dN P e=true):0<aY P e:=by
 cases W:iK P e with
 |some z=>exact(aI4 hc W).2
 |none=>
  unfold dN at hc
  rw[W]at hc
  split at hc
  ·rename_i h1 h2;cases h2
  ·cases hc
theorem VI.dead(d:VI n0 st s bet F){k:Nat}(u:k<s.nxt)(h0:(s.ob k).how=0):dA n0 st s bet F st (s.set k ⟨2,[]⟩) bet F:=by
 have how:∀i,((s.set k ⟨2,[]⟩).ob i).how≠2->i≠k:=fun i h e=>by rw[e,VS.set_ob]at h;exact h rfl
 refine⟨⟨d.ro,d.low,d.hid,d.rng, ?_, ?_, ?_,d.lt,d.vis,d.tab⟩,Sb.refl _ _ _ _,fun _ _=>rfl,rfl,rfl,bJE _,fun _ h=> .inl h⟩
 ·intro j L C
  have e:=how j C
  rw[VS.set_ne _ _ e]at C ⊢
  exact d.obj j L C
 ·intro i j Z L e
  exact d.inj i j Z L e
 ·intro j L C
  by_cases e:j=k
  ·rw[e];exact d.sep k u h0
  ·rw[VS.set_ne _ _ e]at C;exact d.sep j L C
theorem aOr{t e:bR5}(J:cW P t=some e)(hc:dN P e=true)(a b:AV)(st:St)(k:KS):pU P t a b st k=wH (aY P e) a b st k:=by
 unfold pU
 rw[J]
 show(Bool.rec (motive:=fun _=>AV->AV->St->KS->OR) (fun _ _ _ _=>none) (wH (aY P e)) (dN P e)) a b st k=_
 rw[hc]
theorem bFO(d:VI n0 st s bet F){t e:bR5}{x y v:TV}{ax ay:AV}{s':VS}(J:cW P t=some e)(tx:TR st.heap bet s.dom F ax x)(ty:TR st.heap bet s.dom F ay y)(q:gT P e s x y=some (v,s')):
  ∃c st' bet',dA n0 st s bet F st' s' bet' F/\TR st'.heap bet' s'.dom F c v/\∀k,pU P t ax ay st k=k c st':=by
 unfold gT at q
 split at q
 case isFalse=>cases q
 case isTrue hc=>
 simp only[bJF]at q
 obtain⟨⟨cs,n⟩,O,q⟩:=q
 obtain⟨aS,ta,ea⟩:=aZM d ty O
 simp only at q
 have red:∀k,pU P t ax ay st k=bQ (Nat.beq n 0) (iG ax (k ax st) (k ax st) fun _ _ _ _ _=>k ax st) (bQ (Nat.ble n 10000000&&jG aS) (iG ax (uY st (aY P e) aS n k) none fun id off len cap g=>
   bQ (Nat.beq g (aY P e)&&Nat.ble len 10000000) (Option.rec (uP st (aY P e) id off len n aS k) (fun c=>oN st (aY P e) id off len n c aS k) cap) none) none):=fun k=>by
  rw[aOr J hc]
  unfold wH
  rw[ea]
 have sz0:=aNR hc
 split at q
 ·next h0=>
  have:v=x/\s'=s/\∀k:KS,iG ax (k ax st) (k ax st) (fun _ _ _ _ _=>k ax st)=k ax st:=by
   cases tx<;>simp only at q<;>try (cases q;done)
   all_goals (cases q;exact⟨rfl,rfl,fun k=>rfl⟩)
  obtain⟨rfl,rfl,u⟩:=this
  refine⟨ax,st,bet,dA.refl d,tx,fun k=> ?_⟩
  rw[red,dK (beq_true h0),u]
 ·next h0=>
  split at q
  case isFalse=>cases q
  case isTrue hn=>
  have red2:∀k,pU P t ax ay st k=iG ax (uY st (aY P e) aS n k) none fun id off len cap g=>
   bQ (Nat.beq g (aY P e)&&Nat.ble len 10000000) (Option.rec (uP st (aY P e) id off len n aS k) (fun c=>oN st (aY P e) id off len n c aS k) cap) none:=fun k=>by
   rw[red,beq_false h0]
   show bQ (Nat.ble n 10000000&&jG aS) _ none=_
   rw[dK (by rw[eK hn.1,vO ta hn.2];rfl)]
  cases tx<;>simp only at q<;>try (cases q;done)
  ·-- onto nothing
   cases q
   refine⟨_,_,_,d.new (blk:=⟨aS,false⟩) ta, ?_,fun k=>red2 k⟩
   have:=TR.ow (h:=(st.new ⟨aS,false⟩).heap) (bet:=gS bet s.nxt (st.nxt,aS.length)) (nx:=fun k=>k<s.nxt+1) (F:=F) (k:=s.nxt) (off:=0) (len:=n) (cap:=none) (sz:=aY P e) (bJT _) (fun c hc=>by cases hc)
   rw[iT]at this
   exact this
  ·-- onto what has no room
   rename_i id off sz blk Q hf S
   split at q
   ·next hs=>
    cases q
    refine⟨.sl st.nxt 0 n none sz,_,_,d.new (blk:=⟨aS,false⟩) ta, ?_,fun k=> ?_⟩
    ·have:=TR.ow (h:=(st.new ⟨aS,false⟩).heap) (bet:=gS bet s.nxt (st.nxt,aS.length)) (nx:=fun k=>k<s.nxt+1) (F:=F) (k:=s.nxt) (off:=0) (len:=n) (cap:=none) (sz:=sz) (bJT _) (fun c hc=>by cases hc)
     rw[iT]at this
     exact this
    ·rw[red2]
     show bQ (Nat.beq sz (aY P e)&&Nat.ble 0 10000000) (oN st (aY P e) id off 0 n 0 aS k) none=_
     rw[dK (by rw[beq_true hs];rfl)]
     unfold oN
     rw[show Nat.ble (Nat.add 0 n) 0=false from aBC (by show 0<0+n;omega)]
     show uR st (aY P e) id off 0 n aS k=_
     unfold uR
     rw[iC (d.vis id Q) hf,show Nat.mul 0 (aY P e)=0 from bL8 _,jY _ _ _ _ (by omega)]
     unfold uY
     rw[tG]
     show k (.sl st.nxt 0 (0+n) none (aY P e)) (st.new ⟨[]++aS,false⟩)=_
     rw[Nat.zero_add,List.nil_append,hs]
   ·cases q
  ·-- onto one's own
   rename_i f off len cap sz u I
   split at q
   case isFalse=>cases q
   case isTrue K=>
   obtain⟨rfl,hs,_,D,w,p⟩:=K
   cases q
   obtain⟨blk,h1,h2,A⟩:=d.obj f u (by rw[D];decide)
   have G:=A.length
   have B:=lL d (d.rng f u).1
   cases cap with
   | none=>
    have r:=d.put u D (ob:=none) (o:=⟨2,[]⟩) (.inr rfl) (fun h=>by cases h)
    have H:=r.inv.new (blk:=⟨blk.cells++aS,false⟩) (cs:=(s.ob f).cs++cs) ((A.mono r.sb).app (ta.mono r.sb))
    refine⟨.sl st.nxt 0 (len+n) none (aY P e),_,_,r.trans H, ?_,fun k=> ?_⟩
    rotate_left
    ·rw[red2]
     show bQ (Nat.beq sz (aY P e)&&Nat.ble len 10000000) (uP st (aY P e) (bet f).1 0 len n aS k) none=_
     rw[dK (by rw[beq_true hs,eK p];rfl)]
     unfold uP
     show eQ st (bet f).1 _=_
     rw[iC B ⟨h1,A.nm⟩]
     show fT (len*aY P e) 0 blk.cells _=_
     rw[jY _ _ _ _ (by rw[G,w,hs];omega),aAU (bJH d.ro (d.rng f u).1)]
     rw[bJV,bJU (by rw[G,w,hs];omega),tG]
     rfl
    ·have:=TR.ow (h:=((st.withH (Tr.put none (bet f).1 st.heap)).new ⟨blk.cells++aS,false⟩).heap) (bet:=gS bet s.nxt (st.nxt,(blk.cells++aS).length)) (nx:=fun k=>k<s.nxt+1) (F:=F) (k:=s.nxt) (off:=0) (len:=len+n) (cap:=none) (sz:=sz) (bJT _) (fun c hc=>by cases hc)
     rw[iT]at this
     rw[hs]at this
     rw[hs]
     exact this
   | some c=>
    obtain⟨g1,g2⟩:=I c rfl
    have X:c=len:=by
     have:c*sz=len*sz:=by omega
     exact Nat.eq_of_mul_eq_mul_right (by rw[hs];exact sz0) this
    have r:=d.dead u D
    have H:=r.inv.new (blk:=⟨blk.cells++aS,false⟩) (cs:=(s.ob f).cs++cs) ((A.mono r.sb).app (ta.mono r.sb))
    refine⟨.sl st.nxt 0 (len+n) none (aY P e),_,_,r.trans H, ?_,fun k=> ?_⟩
    rotate_left
    ·rw[red2]
     show bQ (Nat.beq sz (aY P e)&&Nat.ble len 10000000) (oN st (aY P e) (bet f).1 0 len n c aS k) none=_
     rw[dK (by rw[beq_true hs,eK p];rfl)]
     unfold oN
     rw[show Nat.ble (Nat.add len n) c=false from aBC (by show c<len+n;omega)]
     show uR st (aY P e) (bet f).1 0 len n aS k=_
     unfold uR
     rw[iC B ⟨h1,A.nm⟩]
     show fT (len*aY P e) 0 blk.cells _=_
     rw[jY _ _ _ _ (by rw[G,w,hs];omega)]
     rw[bJV,bJU (by rw[G,w,hs];omega),tG]
     rfl
    ·have:=TR.ow (h:=(st.new ⟨blk.cells++aS,false⟩).heap) (bet:=gS bet s.nxt (st.nxt,(blk.cells++aS).length)) (nx:=fun k=>k<s.nxt+1) (F:=F) (k:=s.nxt) (off:=0) (len:=len+n) (cap:=none) (sz:=sz) (bJT _) (fun c hc=>by cases hc)
     rw[iT]at this
     rw[hs]at this
     rw[hs]
     exact this
theorem aOx{t e:bR5}(J:cW P t=some e)(hc:dN P e=true)(a b:AV)(st:St)(k:KS):pZ P t a b st k=aEc (aY P e) a b st k:=by
 unfold pZ
 rw[J]
 show(Bool.rec (motive:=fun _=>AV->AV->St->KS->OR) (fun _ _ _ _=>none) (aEc (aY P e)) (dN P e)) a b st k=_
 rw[hc]
theorem aMe{sz m:Nat}{v:TV}{a:AV}{cs:List TV}(ta:TR st.heap bet s.dom F a v)(q:jC s sz v=some (cs,m))(k:Nat->OR):aCB a k=k m:=by
 cases ta<;>simp only[jC]at q<;>try (cases q;done)
 ·cases q;rfl
 ·split at q
  ·cases q;simp;rfl
  ·cases q
 ·split at q
  ·cases q;simp;rfl
  ·cases q
 ·rename_i id off len cap g blk cs' Q hf S hc
  split at q
  ·next hs=>
   cases q
   have p:cs.length=len*g:=by rw[←hc.length];simp only[bJO,bK3];omega
   show k len=_
   rw[p,hs.1,bL0 _ hs.2]
  ·cases q
 ·cases q;rfl
 ·split at q
  ·rw[bJG]at q
   obtain⟨l,e,q⟩:=q
   cases q;rfl
  ·cases q
 ·cases q;rfl
 ·cases q;rfl
 ·cases q;rfl
theorem bFj(d:VI n0 st s bet F){sz m n:Nat}{v:TV}{a:AV}{cs:List TV}(ta:TR st.heap bet s.dom F a v)(q:jC s sz v=some (cs,m))(hn:n<=m)(h0:0<n):∃is os c z b,a= .sl is os m c z/\st.vis is/\FC st.heap is b/\os+n*sz<=b.cells.length/\bM st.heap bet s.dom F ((b.cells.drop os).take (n*sz)) (cs.take (n*sz)):=by
 have E:=bK8 sz hn
 cases ta<;>simp only[jC]at q<;>try (cases q;done)
 ·cases q;omega
 ·split at q
  ·cases q;simp at hn;omega
  ·cases q
 ·split at q
  ·cases q;simp at hn;omega
  ·cases q
 ·rename_i id off len cap g blk cs' Q hf S hc
  split at q
  ·next hs=>
   cases q
   have p:cs.length=len*g:=by rw[←hc.length];simp only[bJO,bK3];omega
   have e:cs.length/sz=len:=by rw[p,hs.1,bL0 _ hs.2]
   rw[e]at E
   rw[hs.1]at S hc
   refine⟨id,off,cap,g,blk,by rw[e],d.vis id Q,hf,by omega, ?_⟩
   have:=hc.take (n*sz)
   rw[bKC,bK7 E]at this
   exact this
  ·cases q
 ·cases q;omega
 ·rename_i f off len cap g u hc
  split at q
  ·next hs=>
   rw[bJG]at q
   obtain⟨l,e,q⟩:=q
   cases q
   obtain⟨c1,c2⟩:=xR e
   obtain⟨blk,h1,h2,A⟩:=d.obj f u hs.2.2
   refine⟨(bet f).1,off,cap,g,blk,rfl,lL d (d.rng f u).1,⟨h1,A.nm⟩,by rw[A.length];omega, ?_⟩
   rw[c2,bKC,bK7 E]
   exact(A.drop off).take (n*sz)
  ·cases q
 ·cases q;omega
 ·cases q;omega
 ·cases q;omega
theorem bCY(d:VI n0 st s bet F){t e:bR5}{x y v:TV}{ax ay:AV}{s':VS}(J:cW P t=some e)(tx:TR st.heap bet s.dom F ax x)(ty:TR st.heap bet s.dom F ay y)(q:uZ P e s x y=some (v,s')):
  ∃c st',dA n0 st s bet F st' s' bet F/\TR st'.heap bet s'.dom F c v/\∀k,pZ P t ax ay st k=k c st':=by
 unfold uZ at q
 split at q
 case isFalse=>cases q
 case isTrue hc=>
 cases tx<;>simp only at q<;>try (cases q;done)
 rename_i f off len cap sz u I
 split at q
 case isFalse=>cases q
 case isTrue K=>
 obtain⟨hs,_,D⟩:=K
 simp only[bJF]at q
 obtain⟨⟨cs,m⟩,O,q⟩:=q
 simp only at q
 have M:(Bool.rec (motive:=fun _=>Nat) len m (Nat.ble m len))=min m len:=by
  cases T:Nat.ble m len with
  |true=>exact(bK7 (bJP T)).symm
  |false=>
   have:¬m<=len:=fun h=>by rw[bKX h]at T;cases T
   have h2:len<=m:=by omega
   exact(Nat.min_eq_right h2).symm
 have red:∀k,pZ P t (.sl (bet f).1 off len cap sz) ay st k=aBd (aY P e) (min m len) (.sl (bet f).1 off len cap sz) ay st k:=fun k=>by
  rw[aOx J hc]
  show aCB ay (fun ls=>aBd (aY P e) (Bool.rec len ls (Nat.ble ls len)) _ ay st k)=_
  rw[aMe ty O,M]
 split at q
 ·next h0=>
  cases q
  refine⟨_,st,dA.refl d,.i _ _,fun k=> ?_⟩
  rw[red,h0]
  rfl
 ·next h0=>
  split at q
  case isFalse=>cases q
  case isTrue hn=>
  rw[bJG]at q
  obtain⟨cs',e2,q⟩:=q
  cases q
  generalize hN:min m len=N at*
  have U:N<=m:=by rw[←hN];exact Nat.min_le_left _ _
  obtain⟨is,os,c,z,b,rfl,B,hf,E,R⟩:=bFj d ty O U (by omega)
  obtain⟨p1,p2⟩:=aAj e2
  obtain⟨blk,h1,h2,A⟩:=d.obj f u (by rw[D];decide)
  have w:=R.length
  rw[←hs]at E R w
  have G:=A.length
  have V:bM st.heap bet s.dom F (blk.cells.take off++(b.cells.drop os).take (N*sz)++blk.cells.drop (off+((b.cells.drop os).take (N*sz)).length)) cs':=by
   rw[p2,w];exact((A.take off).app R).app (A.drop _)
  refine⟨.i .i64 N,st.withH (Tr.put (some ⟨blk.cells.take off++(b.cells.drop os).take (N*sz)++blk.cells.drop (off+((b.cells.drop os).take (N*sz)).length),blk.exact⟩) (bet f).1 st.heap),d.put u D (.inl rfl) (fun _=>⟨_,rfl, ?_,V⟩),.i _ _,fun k=> ?_⟩
  ·show(blk.cells.take off++(b.cells.drop os).take (N*sz)++blk.cells.drop (off+((b.cells.drop os).take (N*sz)).length)).length=_
   rw[←h2];simp only[bJW,bJO,bK3]at*;omega
  ·rw[red]
   unfold aBd
   rw[beq_false h0]
   show bQ (Nat.ble N 10000000) (eQ st is fun b=>fT (Nat.mul N (aY P e)) os b.cells fun new=>bQ (jG new) (eQ st (bet f).1 fun Y=>nM new off Y.cells fun cs=>nO st (bet f).1 ⟨cs,Y.exact⟩ fun st=>k (.i .i64 N) st) none) none=_
   rw[dK (eK hn.1),iC B hf,←hs]
   show fT (N*sz) os b.cells _=_
   rw[jY _ _ _ _ E,dK (vO R hn.2),iC (lL d (d.rng f u).1) ⟨h1,A.nm⟩,aAx _ _ _ _ (by omega)]
   unfold nO
   rw[aAU (bJH d.ro (d.rng f u).1)]
   rfl
end
end
section
mutual
theorem TR.nrm{h:Tr}{bet:Nat->Id×Nat}{nx:Nat->Prop}{F:Id->Prop}{a:AV}{t:TV}(q:TR h bet nx F a t):TR h bet nx F a (iB t):=by
 cases q with
 |b=>exact .b _
 |i=>exact .i _ _
 |m=>exact .m _ _
 |str=>exact .str _
 |lit _ hx=>exact .lit _ hx
 |err=>exact .err
 |u=>exact .u
 |nil=>exact .emv
 |imv sz=>
  show TR _ _ _ _ _ (if ([]:List TV).length=0/\0<sz then TV.em else .im sz (cG []))
  split
  ·exact .emv
  ·exact .imv sz
 |imse sz=>
  show TR _ _ _ _ _ (if ([]:List TV).length=0/\0<sz then TV.em else .im sz (cG []))
  split
  ·exact .emse
  ·exact .imse sz
 | im w hf x hc=>
  rename_i id off len cap sz blk cs
  show TR _ _ _ _ _ (if cs.length=0/\0<sz then TV.em else .im sz (cG cs))
  split
  ·next h0=>
   have:len*sz=0:=by
    have:=hc.length
    rw[h0.1,bJO,bK3]at this
    omega
   obtain rfl:len=0:=by
    rcases Nat.mul_eq_zero.1 this with h|h
    ·exact h
    ·omega
   exact .ems w hf (by omega)
  ·exact .im w hf x (bM.nrm hc)
 |e0 w hf x=>exact .ems w hf x
 |ow o hc=>exact .ow o hc
 |po o=>exact .po o
 |pi w hf x hc=>exact .pi w hf x hc
 |fn E hb=>exact .fn (bM.nrm E) (bM.nrm hb)
 |ag h=>exact .ag (bM.nrm h)
 |tp h=>exact .tp (bM.nrm h)
 |emv=>exact .emv
 |emse=>exact .emse
 |ems w hf x=>exact .ems w hf x
theorem bM.nrm{h:Tr}{bet:Nat->Id×Nat}{nx:Nat->Prop}{F:Id->Prop}{a:List AV}{t:List TV}(q:bM h bet nx F a t):bM h bet nx F a (cG t):=by
 cases q with
 |nil=>exact .nil
 |cons E x=>exact .cons (TR.nrm E) (bM.nrm x)
end
mutual
theorem aF1:∀ {t:TV},cI t=true->cI (iB t)=true
 | .b _,_=>rfl
 | .int _ _,_=>rfl
 | .str _,_=>rfl
 | .lit _,_=>rfl
 | .err,_=>rfl
 | .u,_=>rfl
 | .nil,_=>rfl
 | .em,_=>rfl
 | .e0 _,_=>rfl
 | .im sz cs,h=>by
  show cI (if cs.length=0/\0<sz then TV.em else .im sz (cG cs))=true
  split
  ·rfl
  ·exact qP (t:=cs) (by simpa only[cI]using h)
 | .ow _ _ _ _,h=>by simp [cI]at h
 | .po _ _,h=>by simp [cI]at h
 | .pi _ _,h=>by simp [cI]at h
 | .fn _ a b,h=>by
  simp only[cI,bJI]at h
  simp only[iB,cI,qP h.1,qP h.2,bKr]
 | .ag cs,h=>qP (t:=cs) (by simpa only[cI]using h)
 | .tp cs,h=>qP (t:=cs) (by simpa only[cI]using h)
theorem qP:∀ {t:List TV},dI t=true->dI (cG t)=true
 | [],_=>rfl
 |a::l,h=>by
  simp only[dI,bJI]at h
  simp only[cG,dI,aF1 h.1,qP h.2,bKr]
end
def eF:Nat->Id×Nat:=fun _=>(.h,0)
theorem aPU:∀ {t:List TV},pQ t=true->pQ (cG t)=true
 | [],_=>rfl
 |a::l,h=>by
  simp only[pQ,bJI]at h
  simp only[cG,pQ,bJI]
  refine⟨?_,aPU h.2⟩
  have h1:=h.1
  unfold oP at h1
  split at h1
  ·exact h1
  ·exact aHW (aF1 h1)
def aUV(n0:Nat)(st:St)(F':Id->Prop)(a:AV)(R:TV):Prop:=(∃t,oV R=some t/\TR st.heap eF eI (fun i=>F' i/\n0<=i.nat) a t)\/
 (oV R=none/\∃sz cs id len cap blk al tl,((R= .im sz cs/\a= .sl id 0 len cap sz/\al=[]/\tl=[])\/(R= .tp (.im sz cs::tl)/\a= .tup (.sl id 0 len cap sz::al)))/\bM st.heap eF eI (fun i=>F' i/\i≠id) al tl/\len*sz=cs.length/\0<sz/\n0<=id.nat/\id.nat<st.nxt.nat/\Tr.find id st.heap=some blk/\blk.cells.length=cs.length/\bM st.heap eF eI (fun i=>F' i/\i≠id) blk.cells cs/\(∀c,cap=some c->len<=c/\c*sz=cs.length))
structure aB0(st st':St)(F F':Id->Prop)(a:AV)(R:TV)(own:Bool):Prop where
 tr:TR st'.heap eF eI F' a (pY R own)
 cl:cI R=true
 sub:∀id,F id->F' id
 new:∀id,F' id->F id\/(st.nxt.nat<=id.nat/\id.nat<st'.nxt.nat)
 old:∀id:Id,id.nat<st.nxt.nat->Tr.find id st'.heap=Tr.find id st.heap
 rq:st'.ro=st.ro
 hq:st'.hid=st.hid
 nx:st.nxt.nat<=st'.nxt.nat
 own:own=true->aUV st.nxt.nat st' F' a R
def jT(P:bR8)(pr:cN)(f:bR9)(vs:List TV)(R:TV)(own:Bool):Prop:=
 ∀(st:St) (aS:List AV) (F:Id->Prop),pQ vs=true->bM st.heap eF eI F aS vs->(∀id,F id->id.nat<st.nxt.nat)->(∀id,F id->st.vis id)->st.ro<=st.nxt.nat->(∀p∈st.hid,p.2<=st.nxt.nat)->uH st.nxt.nat st->
  ∃a st' F',aB0 st st' F F' a R own/\∃N,∀n,N<=n->∀k,eN P pr f (cC P pr true n) aS st k=k a st'
def zM(P:bR8)(pr:cN)(cal:jP):Prop:=∀(n0:Nat) (st:St) (s:VS) (bet:Nat->Id×Nat) (F:Id->Prop),VI n0 st s bet F->∀(f:bR9) (args:List TV) (aS:List AV) (v:TV) (s':VS),bM st.heap bet s.dom F aS args->cal f args s=some (v,s')->
  ∃c st' bet' F',dA n0 st s bet F st' s' bet' F'/\TR st'.heap bet' s'.dom F' c v/\∃N,∀n,N<=n->∀k,eN P pr f (cC P pr true n) aS st k=k c st'
def mR(P:bR8)(pr:cN)(orc:cP):Prop:=∀f vs R own,orc f vs=some (R,own)->jT P pr f vs R own
section
variable {n0:Nat}{st st':St}{P:bR8}{s:VS}{bet:Nat->Id×Nat}{F F':Id->Prop}
theorem VI.call(g:VI n0 st s bet F)(W:∀id,F id->F' id)(C:∀id,F' id->F id\/(st.nxt.nat<=id.nat/\id.nat<st'.nxt.nat))(hold:∀id:Id,id.nat<st.nxt.nat->Tr.find id st'.heap=Tr.find id st.heap)(X:st'.ro=st.ro)(D:st'.hid=st.hid)(L:st.nxt.nat<=st'.nxt.nat):
  dA n0 st s bet F st' s bet F':=by
 have G:Sb st.heap bet s.dom F st'.heap bet s.dom F':=⟨fun id w=>hold id (g.lt id w),W,fun _ h=>h,fun _ _=>rfl⟩
 refine⟨⟨by rw[X];exact g.ro,bJH g.low L,by rw[D];exact g.hid,fun k o=>⟨(g.rng k o).1,bJK (g.rng k o).2 L⟩, ?_,g.inj, ?_, ?_, ?_,g.tab.mono (fun id O=>hold id (bJK O g.low)) D⟩,G,fun id O=>hold id (bJK O g.low),X,D,L,fun id h=>(C id h).elim .inl fun e=> .inr (bJH g.low e.1)⟩
 ·intro k o hh
  obtain⟨b,h1,h2,M⟩:=g.obj k o hh
  exact⟨b,(hold _ (g.rng k o).2).trans h1,h2,M.mono G⟩
 ·intro k o hh w
  rcases C _ w with h1|h1
  ·exact g.sep k o hh h1
  ·have:=(g.rng k o).2;omega
 ·intro id w
  rcases C _ w with h1|h1
  ·exact bJK (g.lt id h1) L
  ·exact h1.2
 ·intro id w
  show ∀p∈st'.hid,_
  rw[D]
  rcases C _ w with h1|h1
  ·exact g.vis id h1
  ·intro p Y hh
   have:=g.hid p Y
   have:=g.low
   omega
theorem VI.adopt(g:VI n0 st s bet F){id:Id}{blk:cK}{cs:List TV}(w:¬F id)(hb:∀k,k<s.nxt->(bet k).1≠id)(h0:n0<=id.nat)(x:id.nat<st.nxt.nat)(hf:Tr.find id st.heap=some blk)(hc:bM st.heap bet s.dom F blk.cells cs):
  dA n0 st s bet F st (s.new cs) (gS bet s.nxt (id,blk.cells.length)) F:=by
 have G:Sb st.heap bet s.dom F st.heap (gS bet s.nxt (id,blk.cells.length)) (s.new cs).dom F:=⟨fun _ _=>rfl,fun _ h=>h,fun k o=>bM5 o,fun k o=>aG9 bet _ (bMV o)⟩
 have H:∀k,k<s.nxt->gS bet s.nxt (id,blk.cells.length) k=bet k:=fun k o=>aG9 bet _ (by omega)
 have ho:∀k,k<s.nxt->(s.new cs).ob k=s.ob k:=fun k o=>if_neg (by omega)
 have lt':∀ {k},k<(s.new cs).nxt->k≠s.nxt->k<s.nxt:=fun {k} o e=>by have:k<s.nxt+1:=o;omega
 refine⟨⟨g.ro,g.low,g.hid, ?_, ?_, ?_, ?_,g.lt,g.vis,g.tab⟩,G,fun _ _=>rfl,rfl,rfl,bJE _,fun _ h=> .inl h⟩
 ·intro k o
  by_cases e:k=s.nxt
  ·rw[e,iT];exact⟨h0,x⟩
  ·rw[H k (lt' o e)];exact g.rng k (lt' o e)
 ·intro k o hh
  by_cases e:k=s.nxt
  ·subst e
   refine⟨blk,by rw[iT];exact hf,by rw[iT], ?_⟩
   have:((s.new cs).ob s.nxt).cs=cs:=by show(if s.nxt=s.nxt then(⟨0,cs⟩:Ob)else s.ob s.nxt).cs=cs;rw[if_pos rfl]
   rw[this];exact hc.mono G
  ·have y:=lt' o e
   rw[ho k y]at hh ⊢
   obtain⟨b,h1,h2,M⟩:=g.obj k y hh
   rw[H k y]
   exact⟨b,h1,h2,M.mono G⟩
 ·intro k U o y e
  by_cases B:k=s.nxt
  ·by_cases J:U=s.nxt
   ·rw[B,J]
   ·rw[H U (lt' y J),B,iT]at e
    exact absurd e.symm (hb U (lt' y J))
  ·rw[H k (lt' o B)]at e
   by_cases J:U=s.nxt
   ·rw[J,iT]at e
    exact absurd e (hb k (lt' o B))
   ·rw[H U (lt' y J)]at e
    exact g.inj k U (lt' o B) (lt' y J) e
 ·intro k o hh
  by_cases B:k=s.nxt
  ·rw[B,iT];exact w
  ·rw[H k (lt' o B)]
   rw[ho k (lt' o B)]at hh
   exact g.sep k (lt' o B) hh
theorem aOl{R v:TV}{s':VS}{sz:Nat}{cs tl:List TV}{id:Id}{len:Nat}{cap:Option Nat}{al:List AV}{a:AV}(h:(R= .im sz cs/\a= .sl id 0 len cap sz/\al=[]/\tl=[])\/(R= .tp (.im sz cs::tl)/\a= .tup (.sl id 0 len cap sz::al)))(r:oV R=none)(h1:0<sz)(h2:cs.length%sz=0)(q:nT R s=some (v,s')):
  s'=s.new cs/\((v= .ow s.nxt 0 (cs.length/sz) sz/\a= .sl id 0 len cap sz)\/(v= .tp (.ow s.nxt 0 (cs.length/sz) sz::tl)/\a= .tup (.sl id 0 len cap sz::al))):=by
 rcases h with ⟨rfl,E,_,_⟩|⟨rfl,E⟩
 ·simp only[nT,r,if_pos (ab h1 h2),bo,bp]at q
  exact⟨q.2.symm,.inl ⟨q.1.symm,E⟩⟩
 ·simp only[nT,r,if_pos (ab h1 h2),bo,bp]at q
  exact⟨q.2.symm,.inr ⟨q.1.symm,E⟩⟩
theorem aI5{R t:TV}(h:oV R=some t)(hc:cI R=true):cI t=true:=by
 unfold oV at h
 split at h
 ·cases h
  simp only[cI,dI,bJI]at hc
  exact hc.1
 ·cases h
theorem bBK{orc:cP}{pr:cN}(I:mR P pr orc)(g:VI n0 st s bet F){f:bR9}{args:List TV}{aS:List AV}{v:TV}{s':VS}(ta:bM st.heap bet s.dom F aS args)(q:dC orc f args s=some (v,s')):
  ∃c st' bet' F',dA n0 st s bet F st' s' bet' F'/\TR st'.heap bet' s'.dom F' c v/\∃N,∀n,N<=n->∀k,eN P pr f (cC P pr true n) aS st k=k c st':=by
 simp only[dC,bJF]at q
 obtain⟨⟨vs,s1⟩,B,⟨R,own⟩,J,q⟩:=q
 obtain⟨F1,h1,h2,M⟩:=(xV cL).2 B g ta
 have d:=h1.inv
 obtain⟨a,st',F',j,V⟩:=I f _ R own J st aS F1 (aD1 (qP M)) (h2.closed M).nrm d.lt d.vis (bJH d.ro d.low) (fun p Y=>bJH (d.hid p Y) d.low) (d.tab.le d.low)
 cases own with
 |false=>
  simp only[bJQ,if_false,bo,bp]at q
  obtain⟨rfl,rfl⟩:=q
  exact⟨a,st',bet,F',h1.trans (d.call j.sub j.new j.old j.rq j.hq j.nx),TR.closed j.tr j.cl,V⟩
 | true=>
  simp only[if_true]at q
  rcases j.own rfl with ⟨t,r,Q⟩|⟨r,sz,cs,id,len,cap,blk,al,tl,Z,gt,g3,g4,g5,g6,g7,g8,g9,d'⟩
  ·simp only[nT,r,bo,bp]at q
   obtain⟨rfl,rfl⟩:=q
   exact⟨a,st',bet,F',h1.trans (d.call j.sub j.new j.old j.rq j.hq j.nx),(Q.mono ⟨fun _ _=>rfl,fun _ h=>h.1,fun _ h=>h,fun _ _=>rfl⟩).closed (aI5 r j.cl),V⟩
  have a':cs.length%sz=0:=by rw[←g3];exact Nat.mul_mod_left _ _
  have z:dI cs=true/\dI tl=true:=by
   have:=j.cl
   rcases Z with ⟨rfl,_,_,rfl⟩|⟨rfl,_⟩
   ·exact⟨by simpa only[cI]using this,rfl⟩
   ·simpa only[cI,dI,bJI]using this
  obtain⟨rfl,b'⟩:=aOl Z r g4 a' q
  ·skip
   have S:∀i,(F' i/\i≠id)->F1 i\/(st.nxt.nat<=i.nat/\i.nat<st'.nxt.nat):=fun i O=>j.new i O.1
   have T:∀i,F1 i->(F' i/\i≠id):=fun i O=>⟨j.sub i O,fun e=>by have:=d.lt i O;rw[e]at this;omega⟩
   have K:=d.call (F':=fun i=>F' i/\i≠id) T S j.old j.rq j.hq j.nx
   have e':=K.inv.adopt (id:=id) (blk:=blk) (cs:=cs) (fun h=>h.2 rfl) (fun k o e=>by have:=(d.rng k o).2;rw[e]at this;omega) (bJH d.low g5) g6 g7 (g9.closed z.1)
   have c':cs.length/sz=len:=by rw[←g3,bL0 _ g4]
   refine⟨a,st',_,_,(h1.trans K).trans e', ?_,V⟩
   rw[c']at b'
   have:=TR.ow (h:=st'.heap) (bet:=gS bet s1.nxt (id,blk.cells.length)) (nx:=fun k=>k<s1.nxt+1) (F:=fun i=>F' i/\i≠id) (k:=s1.nxt) (off:=0) (len:=len) (cap:=cap) (sz:=sz) (bJT _) (fun c hc=>by rw[iT];have:=d' c hc;exact⟨this.1,by show 0+c*sz=blk.cells.length;omega⟩)
   rw[iT]at this
   rcases b' with ⟨rfl,E⟩|⟨rfl,E⟩
   ·rw[E];exact this
   ·rw[E];exact .tp (.cons this (gt.closed z.2))
mutual
theorem TR.scal{h h':Tr}{bet bet':Nat->Id×Nat}{nx nx':Nat->Prop}{F F':Id->Prop}{a:AV}{v:TV}(q:TR h bet nx F a v)(hc:fX v=true):TR h' bet' nx' F' a v:=by
 cases q with
 |b=>exact .b _
 |i=>exact .i _ _
 |m=>exact .m _ _
 |str=>exact .str _
 |ag x=>exact .ag (bM.scal x (by simpa only[fX]using hc))
 |tp x=>exact .tp (bM.scal x (by simpa only[fX]using hc))
 |_=>simp [fX]at hc
theorem bM.scal{h h':Tr}{bet bet':Nat->Id×Nat}{nx nx':Nat->Prop}{F F':Id->Prop}{a:List AV}{v:List TV}(q:bM h bet nx F a v)(hc:lA v=true):bM h' bet' nx' F' a v:=by
 cases q with
 |nil=>exact .nil
 |cons E x=>
  simp only[lA,bJI]at hc
  exact .cons (TR.scal E hc.1) (bM.scal x hc.2)
end
theorem aO9{orc:cP}{pr:cN}(I:mR P pr orc)(g:VI n0 st s bet F){f:bR9}{args:List TV}{aS:List AV}{v:TV}{s':VS}(ta:bM st.heap bet s.dom F aS args)(q:fF orc f args s=some (v,s')):
  ∃c st' bet' F',dA n0 st s bet F st' s' bet' F'/\TR st'.heap bet' s'.dom F' c v/\∃N,∀n,N<=n->∀k,eN P pr f (cC P pr true n) aS st k=k c st':=by
 have q0:=q
 simp only[fF,bJF]at q
 obtain⟨⟨vs,s1⟩,B,⟨R,own⟩,J,q⟩:=q
 have old:(if own=true then nT R s1 else some (R,s1))=some (v,s')->_:=fun q=>bBK I g (s':=s') (v:=v) ta (by simp only[dC,bJF];exact⟨(vs,s1),B,(R,own),J,q⟩)
 obtain⟨F1,h1,h2,M⟩:=(xV cL).2 B g ta
 have d:=h1.inv
 obtain⟨a,st',F',j,V⟩:=I f _ R own J st aS F1 (aD1 (qP M)) (h2.closed M).nrm d.lt d.vis (bJH d.ro d.low) (fun p Y=>bJH (d.hid p Y) d.low) (d.tab.le d.low)
 cases own with
 | false=>
  simp only[bJQ,if_false]at q
  split at q
  ·next f'=>
   cases q
   exact⟨a,st',bet,F,g.call (fun _ h=>h) (fun _ h=> .inl h) j.old j.rq j.hq j.nx,TR.scal j.tr f',V⟩
  ·exact old (by simpa only[bJQ,if_false]using q)
 | true=>
  simp only[if_true]at q
  split at q
  ·next t r=>
   cases q
   rcases j.own rfl with ⟨t',A,Q⟩|⟨A,_⟩
   ·rw[r]at A
    cases A
    refine⟨a,st',bet,fun i=>F i\/(F' i/\st.nxt.nat<=i.nat),g.call (fun _ h=> .inl h) (fun i h=>h.elim .inl fun h=> .inr ⟨h.2, ?_⟩) j.old j.rq j.hq j.nx,(Q.mono ⟨fun _ _=>rfl,fun _ h=> .inr h,fun _ h=>h,fun _ _=>rfl⟩).closed (aI5 r j.cl),V⟩
    rcases j.new i h.1 with h'|h'
    ·have:=d.lt i h';omega
    ·exact h'.2
   ·rw[r]at A;cases A
  ·exact old (by simpa only[if_true]using q)
theorem bBi{orc:cP}{pr:cN}(I:mR P pr orc):zM P pr (fF orc):=fun _ _ _ _ _ g _ _ _ _ _ ta q=>aO9 I g ta q
end
end
section
section
variable {n0:Nat}{P:bR8}{cal:jP}{pr:cN}
theorem bIQ(m:zM P pr cal){op:Op}{st:St}{s s':VS}{bet:Nat->Id×Nat}{F:Id->Prop}{L V:aT}{r:bB}{v:TV}(j:VI n0 st s bet F)(i:ER st.heap bet s.dom F L V r)(q:bK P cal op r s=some (v,s')):
  ∃a st' bet' F',dA n0 st s bet F st' s' bet' F'/\TR st'.heap bet' s'.dom F' a v/\∃N,∀n,N<=n->∀k,dD P pr op (cC P pr true n) L V st k=k a st':=by
 by_cases hq:lM op=true
 ·rcases aOG (pr:=pr) hq i q with ⟨rfl,a,ta,ea⟩|⟨cs,blk,mk,rfl,tc,ec,tm⟩
  ·exact⟨a,st,bet,F,dA.refl j,ta,0,fun n _ k=>ea _ st k⟩
  ·exact⟨mk st.nxt,st.new blk,_,F,j.new tc,tm _ _ _ _ _ (iT _ _ _) (bJT _),0,fun n _ k=>ec _ st k⟩
 ·cases op<;>first|(exact absurd rfl hq)|(simp only[bK]at q;cases q;done)|skip
  case load t x=>
   simp only[bK]at q
   split at q
   ·next H=>
    simp only[bJF,bJG]at q
    obtain⟨xv,u,w,z,q⟩:=q
    cases q
    obtain⟨a,ta,ea⟩:=fD i u
    obtain⟨c,tc,ec⟩:=aOw j ta z
    refine⟨c,st,bet,F,dA.refl j,tc,0,fun n _ k=> ?_⟩
    show yW P t x L V st k=_
    unfold yW
    rw[H]
    show cF x L V _=_
    rw[ea]
    exact ec (fun v=>k v st)
   ·cases q
  case store t x y=>
   simp only[bK]at q
   split at q
   ·next H=>
    simp only[bJF,bJG]at q
    obtain⟨xv,u,yv,z,s1,I,q⟩:=q
    cases q
    obtain⟨a,ta,ea⟩:=fD i u
    obtain⟨c,tc,ec⟩:=fD i z
    obtain⟨st',h1,h2⟩:=aYs j ta tc I
    refine⟨.u,st',bet,F,h1,.u,0,fun n _ k=> ?_⟩
    show aCc P t x y L V st k=_
    unfold aCc
    rw[H]
    show cF x L V _=_
    rw[ea,ec]
    exact h2 (fun st=>k .u st)
   ·cases q
  case call c=>
   obtain⟨callee,args,B⟩:=c
   cases callee with
   |invoke _ _=>simp only[bK]at q;cases q
   | builtin b=>
    simp only[bK,bJF]at q
    obtain⟨l,u,q⟩:=q
    obtain⟨aS,ta,ea⟩:=tJ i u
    cases b<;>first|(exact absurd rfl hq)|(simp only[jM]at q;cases q;done)|skip
    case copy=>
     simp only[jM]at q
     unfold aCq at q
     split at q
     ·rename_i t tl x y ety
      simp only[bJF]at q
      obtain⟨e,z,q⟩:=q
      cases ta with
      |cons tx ta=>
      cases ta with
      |cons ty ta=>
      cases ta
      rename_i ax ay
      obtain⟨c,st',h1,h2,C⟩:=bCY j z tx ty q
      refine⟨c,st',bet,F,h1,h2,0,fun n _ k=> ?_⟩
      show jH args.toList L V (fun l=>(Option.rec (motive:=fun _=>List AV->St->KS->OR) (fun _ _ _=>none) (fun t l st k=>wN l fun d s=>pZ P t d s st k) (B[0]?)) l st k)=_
      rw[ea,show B[0]? =some t by rw[←bLD,ety];rfl]
      exact C k
     ·cases q
    simp only[jM]at q
    unfold aK at q
    split at q
    ·rename_i t R x y ety
     split at q
     case isFalse=>cases q
     case isTrue hs=>
     simp only[bJF]at q
     obtain⟨e,z,q⟩:=q
     cases ta with
     |cons tx ta=>
     cases ta with
     |cons ty ta=>
     cases ta
     rename_i ax ay
     obtain⟨c,st',bet',h1,h2,C⟩:=bFO j z tx ty q
     obtain⟨Z,hs⟩:=Option.isSome_iff_exists.1 hs
     refine⟨c,st',bet',F,h1,h2,0,fun n _ k=> ?_⟩
     show jH args.toList L V (fun l=>wN l fun s x=>aHh P B.toList s x st k)=_
     rw[ea,ety]
     show(Option.rec (motive:=fun _=>AV->AV->St->KS->OR) (Bool.rec (fun _ _ _ _=>none) (aEr P t) (yT P R)) (fun _=>pU P t) (cW P R)) ax ay st k=_
     rw[hs]
     exact C k
    ·cases q
   |value g=>
    simp only[bK,bJF]at q
    obtain⟨gv,u,aa,z,q⟩:=q
    obtain⟨ag,tg,eg⟩:=fD i u
    obtain⟨aS,ta,ea⟩:=tJ i z
    cases tg<;>simp only at q<;>try (cases q;done)
    rename_i f a b va vb T U
    obtain⟨c,st',bet',F',h1,h2,N,C⟩:=m _ _ _ _ _ j _ _ _ _ _ ((T.app ta).app U) q
    refine⟨c,st',bet',F',h1,h2,N,fun n hn k=> ?_⟩
    show cF g L V (fun g=>jH args.toList L V fun aa=>asF g fun f first cap=>eN P pr f (cC P pr true n) (lU (lU first aa) cap) st k)=_
    rw[eg,ea]
    show eN P pr f (cC P pr true n) (lU (lU a aS) b) st k=_
    rw[tG,tG]
    exact C n hn k
theorem ER.put{h:Tr}{bet:Nat->Id×Nat}{nx:Nat->Prop}{F:Id->Prop}{L V:aT}{r:bB}(i:ER h bet nx F L V r){v:TV}{a:AV}(ta:TR h bet nx F a v)(d:Option Tmp):ER h bet nx F (gA d a L) V (iR d v r):=by
 cases d with
 |none=>exact i
 | some d=>
  intro t w J
  by_cases e:t=d
  ·subst e
   have:w=v:=by simp only[iR,bB.upd,if_true,bo]at J;exact J.symm
   subst this
   exact⟨a,by show(if t=t then some a else L.look V t)=some a;rw[if_pos rfl],ta⟩
  ·have K:r t=some w:=by simpa only[iR,bB.upd,if_neg e]using J
   obtain⟨b,h1,h2⟩:=i t w K
   exact⟨b,by show(if d=t then some a else L.look V t)=some b;rw[if_neg (fun h=>e h.symm)];exact h1,h2⟩
def sQ(L:aT)(l:List bRa):Prop:=∀o∈l,∀d,o.dst=some d->∃a,L.look .nil d=some a
theorem sQ.put{L:aT}{l:List bRa}(h:sQ L l)(o:bRa)(a:AV):sQ (gA o.dst a L) (o::l):=by
 intro W ho' d D
 have key:∀d,(∃b,L.look .nil d=some b)\/o.dst=some d->∃b,(gA o.dst a L).look .nil d=some b:=by
  intro d hh
  cases A:o.dst with
  |none=>
   rcases hh with hh|hh
   ·exact hh
   ·rw[A]at hh;cases hh
  | some S=>
   show ∃b,(if S=d then some a else L.look .nil d)=some b
   by_cases e:S=d
   ·rw[if_pos e];exact⟨_,rfl⟩
   ·rw[if_neg e]
    rcases hh with hh|hh
    ·exact hh
    ·rw[A]at hh;cases hh;exact absurd rfl e
 rcases bJZ.1 ho' with rfl|ho'
 ·exact key d (.inr D)
 ·exact key d (.inl (h W ho' d D))
theorem aJm{h:Tr}{bet:Nat->Id×Nat}{nx:Nat->Prop}{F:Id->Prop}{L V:aT}{r:bB}(i:ER h bet nx F L V r){all:Array bRa}{g:Nat×Bool}{b:Bool}(q:zS all r (some g)=some b)(y n:OR):
  aBe ((all[g.1]?).bind (·.dst)) g.2 L V y n=if b then y else n:=by
 obtain⟨g,want⟩:=g
 simp only[zS,bJF]at q
 obtain⟨d,u,w,z,q⟩:=q
 obtain⟨a,h1,h2⟩:=i d w z
 have M:(all[g]?).bind (·.dst)=some d:=by
  obtain⟨o,I,X⟩:=u
  rw[I];exact X
 rw[show(all[(g,want).1]?).bind (·.dst)=some d from M]
 show L.lget V d (fun a=>aL1 a n fun x=>Bool.rec n y (uQ x want))=_
 rw[aT.lget_eq h1]
 cases h2<;>simp only at q<;>try (cases q;done)
 ·rename_i x
  cases q
  show(Bool.rec n y (uQ x want):OR)=_
  rw[aDQ]
  cases (x==want)<;>rfl
 ·cases q;rfl
theorem aK0(m:zM P pr cal){all:Array bRa}{V:aT}:∀ {l done:List bRa} {st:St} {s s':VS} {bet:Nat->Id×Nat} {F:Id->Prop} {L:aT} {r E:bB},VI n0 st s bet F->ER st.heap bet s.dom F L V r->sQ L done->nN P cal all l r s=some (E,s')->
  ∃L' st' bet' F',dA n0 st s bet F st' s' bet' F'/\ER st'.heap bet' s'.dom F' L' V E/\sQ L' (l.reverse++done)/\∃N,∀n,N<=n->∀k,lS P pr all l (cC P pr true n) L V st k=k L' st'
 | [],done,st,s,s',bet,F,L,r,E,j,i,D,q=>by
  simp only[nN]at q
  cases q
  exact⟨L,st,bet,F,dA.refl j,i,D,0,fun n _ k=>rfl⟩
 | o::l,done,st,s,s',bet,F,L,r,E,j,i,D,q=>by
  simp only[nN,bJF]at q
  obtain⟨g,eg,q⟩:=q
  have rev:∀L',sQ L' (l.reverse++(o::done))->sQ L' ((o::l).reverse++done):=fun L' h=>by rw[List.reverse_cons,List.append_assoc];exact h
  have unf:∀n k,lS P pr all (o::l) (cC P pr true n) L V st k=(match o.guard with
   |none=>dD P pr o.op (cC P pr true n) L V st fun a st=>lS P pr all l (cC P pr true n) (gA o.dst a L) V st k
   |some p=>aBe ((all[p.1]?).bind (·.dst)) p.2 L V (dD P pr o.op (cC P pr true n) L V st fun a st=>lS P pr all l (cC P pr true n) (gA o.dst a L) V st k) (lS P pr all l (cC P pr true n) (gA o.dst .u L) V st k)):=fun n k=>by
   show(Option.rec (motive:=fun _=>IH->xH) _ _ o.guard) (cC P pr true n) L V st k=_
   cases o.guard<;>rfl
  cases g with
  | true=>
   simp only[if_true,bJF]at q
   obtain⟨p,u,q⟩:=q
   obtain⟨a,Y,bet1,F1,h1,h2,N1,C⟩:=bIQ m j i u
   obtain⟨L',st',bet',F',k1,k2,O,N2,Q⟩:=aK0 m h1.inv ((i.mono h1.sb).put h2 o.dst) (D.put o a) q
   refine⟨L',st',bet',F',h1.trans k1,k2,rev _ O,max N1 N2,fun n hn k=> ?_⟩
   rw[unf]
   have qK:dD P pr o.op (cC P pr true n) L V st (fun a st=>lS P pr all l (cC P pr true n) (gA o.dst a L) V st k)=k L' st':=by
    rw[C n (by omega)];exact Q n (by omega) k
   cases G:o.guard with
   |none=>exact qK
   |some g=>simp only;rw[G]at eg;rw[aJm i eg];exact qK
  |false=>
   simp only[bJQ,if_false]at q
   obtain⟨L',st',bet',F',k1,k2,O,N2,Q⟩:=aK0 m j (i.put .u o.dst) (D.put o .u) q
   refine⟨L',st',bet',F',k1,k2,rev _ O,N2,fun n hn k=> ?_⟩
   rw[unf]
   cases G:o.guard with
   |none=>rw[G]at eg;cases eg
   |some g=>simp only;rw[G]at eg;rw[aJm i eg];exact Q n hn k
end
end
section
section
variable {n0:Nat}{P:bR8}{orc:cP}{cal:jP}{pr:cN}
theorem aT.find_rem_eq(t:Nat):∀(V:aT) (m:Nat),t≠m->(aT.rem t V).find m=V.find m
 | .nil,m,_=>rfl
 | .cons r a' e,m,h=>by
  show(Bool.rec (motive:=fun _=>aT) (.cons r a' (aT.rem t e)) e (Nat.beq r t)).find m=_
  by_cases A:r=t
  ·rw[beq_true A]
   show e.find m=(if r=m then some a' else e.find m)
   rw[if_neg (by omega)]
  ·rw[beq_false A]
   show(if r=m then some a' else(aT.rem t e).find m)=(if r=m then some a' else e.find m)
   rw[aT.find_rem_eq t e m h]
 | .del r e,m,_=>rfl
theorem aOW{L:aT}:∀ {keep:List Nat} {V:aT},(∀t∈keep,∃a,L.look .nil t=some a)->
  ∃V',(∀k,aE2 keep L V k=k V')/\(∀t a,t∈keep->L.look .nil t=some a->V'.find t=some a)/\∀t,t ∉ keep->V'.find t=V.find t
 | [],V,_=>⟨V,fun k=>rfl,(fun t a h=>by cases h),fun t _=>rfl⟩
 | t::keep,V,h=>by
  obtain⟨a,R⟩:=h t (.head _)
  obtain⟨V',h1,h2,w⟩:=aOW (L:=L) (keep:=keep) (V:=aT.vset t a V) fun r B=>h r (.tail _ B)
  have fs:∀m,(aT.vset t a V).find m=if t=m then some a else V.find m:=fun m=>by
   show(if t=m then some a else(aT.rem t V).find m)=_
   by_cases e:t=m
   ·rw[if_pos e,if_pos e]
   ·rw[if_neg e,if_neg e,aT.find_rem_eq t V m e]
  refine⟨V',fun k=> ?_,fun r a' B W=> ?_,fun r B=> ?_⟩
  ·show L.lget .nil t (fun a=>aE2 keep L (aT.vset t a V) k)=_
   rw[aT.lget_eq R];exact h1 k
  ·by_cases e:r∈keep
   ·exact h2 r a' e W
   ·rcases bJZ.1 B with rfl|h'
    ·rw[w r e,fs,if_pos rfl];rw[R]at W;exact W
    ·exact absurd h' e
  ·have X:t≠r:=fun e=>B (e ▸ .head _)
   have Y:r ∉ keep:=fun h=>B (.tail _ h)
   rw[w r Y,fs,if_neg X]
theorem aJ0{V:aT}:∀ {L:aT} {t:Nat} {a:AV},L.look .nil t=some a->L.look V t=some a
 | .nil,_,_,h=>by cases h
 | .cons r a' e,t,a,h=>by
  simp only[aT.look]at h ⊢
  split at h
  ·rename_i A;rw[if_pos A];exact h
  ·rename_i A;rw[if_neg A];exact aJ0 h
 | .del r e,t,a,h=>by
  simp only[aT.look]at h ⊢
  split at h
  ·cases h
  ·rename_i A;rw[if_neg A];exact aJ0 h
theorem aFH{U:List Nat}:∀ {l:List bRa} {t:Nat},t∈iN U l->∃o∈l,o.dst=some t
 | [],t,h=>by cases h
 | o::l,t,h=>by
  unfold iN at h
  split at h
  ·rename_i d hd
   split at h
   ·rcases bJZ.1 h with rfl|h
    ·exact⟨o,.head _,hd⟩
    ·obtain⟨S,h1,h2⟩:=aFH h;exact⟨S,.tail _ h1,h2⟩
   ·obtain⟨S,h1,h2⟩:=aFH h;exact⟨S,.tail _ h1,h2⟩
  ·obtain⟨S,h1,h2⟩:=aFH h;exact⟨S,.tail _ h1,h2⟩
def aAJ(P:bR8)(pr:cN)(orc:cP):Prop:=
 ∀ {n0:Nat} {U:FI} {f:Array bRa} {V:aT} {st:St} {s s':VS} {bet:Nat->Id×Nat} {F:Id->Prop} {e E:bB},VI n0 st s bet F->ER st.heap bet s.dom F .nil V e->eS f.toList=true->lN U.2 f.toList=true->mQ P orc f e (gP true f.toList) ⟨[],true,[]⟩ e s=some (E,s')->
  ∃L' st' bet' F',dA n0 st s bet F st' s' bet' F'/\ER st'.heap bet' s'.dom F' L' V E/\sQ L' f.toList/\∃N,∀n,N<=n->∀k,rB P pr f (cC P pr true n) (gP true f.toList) [] .nil V st k=k L' st'
def aKN(P:bR8)(pr:cN)(orc:cP)(cal:jP)(U:FI)(c:Code):Prop:=
 ∀ {n0:Nat} {V:aT} {st:St} {s s':VS} {bet:Nat->Id×Nat} {F:Id->Prop} {e z:bB} {o:eD},VI n0 st s bet F->ER st.heap bet s.dom F .nil V e->gR P orc cal U c e s=some (o,z,s')->
  ∃V' st' bet' F',dA n0 st s bet F st' s' bet' F'/\ER st'.heap bet' s'.dom F' .nil V' z/\∃N,∀n,N<=n->∀k,cC P pr true n U c V st k=k o V' st'
theorem aYG(H:zM P pr cal)(I:aAJ P pr orc)(U:FI)(id:Nat)(f:Array bRa)(d:Bool):aKN P pr orc cal U (.region id f d):=by
 intro n0 V st s s' bet F e z o j p q
 simp only[gR,aC1,bJG]at q
 obtain⟨⟨A,s1⟩,q,qe⟩:=q
 cases qe
 split at q
 case isFalse=>cases q
 case isTrue J=>
 have fin:∀ {L':aT} {st':St} {bet':Nat->Id×Nat} {F':Id->Prop} {E:bB},dA n0 st s bet F st' s1 bet' F'->ER st'.heap bet' s1.dom F' L' V E->sQ L' f.toList->
   ∃V',ER st'.heap bet' s1.dom F' .nil V' (pP (iN U.1 f.toList) e E)/\∀(k:eD->aT->St->OR),zO (iN U.1 f.toList) V k L' st'=k .normal V' st':=by
  intro L' st' bet' F' E Z hr hL
  have hk:∀t∈iN U.1 f.toList,∃a,L'.look .nil t=some a:=fun t O=>by
   obtain⟨o,h1,h2⟩:=aFH O
   exact hL o h1 t h2
  obtain⟨V',f1,f2,f3⟩:=aOW (V:=V) hk
  refine⟨V',fun t v O=> ?_,fun k=>f1 (fun V=>k .normal V st')⟩
  unfold pP at O
  split at O
  ·next u=>
   have u:=bKL.1 u
   obtain⟨a,R⟩:=hk t u
   obtain⟨b,h1,h2⟩:=hr t v O
   rw[aJ0 R]at h1
   cases h1
   exact⟨a,f2 t a u R,h2⟩
  ·next u=>
   have u:t ∉ iN U.1 f.toList:=fun h=>u (bKL.2 h)
   obtain⟨b,h1,h2⟩:=p t v O
   exact⟨b,by show V'.find t=some b;rw[f3 t u];exact h1,h2.mono Z.sb⟩
 cases d with
 |false=>
  simp only[bJQ,if_false,bJG]at q
  obtain⟨⟨E,s2⟩,q,qe⟩:=q
  cases qe
  obtain⟨L',st',bet',F',h1,h2,w,N,h4⟩:=aK0 (done:=[]) H j p (fun o h=>by cases h) q
  obtain⟨V',k1,k2⟩:=fin h1 h2 (fun o ho=>w o (by simpa using ho))
  refine⟨V',st',bet',F',h1,k1,N+1,fun n hn k=> ?_⟩
  obtain⟨m,rfl⟩:∃m,n=m+1:=⟨n-1,by omega⟩
  show aGp P pr U f (cC P pr true m) V st k=_
  unfold aGp
  rw[J]
  show lS P pr f f.toList (cC P pr true m) .nil V st (zO (iN U.1 f.toList) V k)=_
  rw[h4 m (by omega)]
  exact k2 k
 |true=>
  simp only[if_true]at q
  split at q
  case isFalse=>cases q
  case isTrue G=>
  rw[bJG]at q
  obtain⟨⟨E,s2⟩,q,qe⟩:=q
  cases qe
  obtain⟨L',st',bet',F',h1,h2,w,N,h4⟩:=I j p G J q
  obtain⟨V',k1,k2⟩:=fin h1 h2 w
  refine⟨V',st',bet',F',h1,k1,N+1,fun n hn k=> ?_⟩
  obtain⟨m,rfl⟩:∃m,n=m+1:=⟨n-1,by omega⟩
  show aGN P pr true U f (cC P pr true m) V st k=_
  unfold aGN
  rw[J,G]
  show bQ (Nat.ble st.ro st.nxt.nat) (rB P pr f (cC P pr true m) (gP true f.toList) [] .nil V st (zO (iN U.1 f.toList) V k)) none=_
  rw[dK (eK (bJH j.ro j.low)),h4 m (by omega)]
  exact k2 k
theorem aQV{U:FI}{c:Code}(hc:aKN P pr orc cal U c):∀(m:Nat) {V:aT} {st:St} {s s':VS} {bet:Nat->Id×Nat} {F:Id->Prop} {e z:bB} {o:eD},VI n0 st s bet F->ER st.heap bet s.dom F .nil V e->mN (gR P orc cal U c) m e s=some (o,z,s')->
  ∃V' st' bet' F',dA n0 st s bet F st' s' bet' F'/\ER st'.heap bet' s'.dom F' .nil V' z/\∃N,∀n,N<=n->∀k,wC U c m (cC P pr true n) V st k=k o V' st'
 |0,V,st,s,s',bet,F,e,z,o,j,p,q=>by simp only[mN]at q;cases q
 | m+1,V,st,s,s',bet,F,e,z,o,j,p,q=>by
  simp only[mN,bJF]at q
  obtain⟨⟨Q,A,s1⟩,T,q⟩:=q
  obtain⟨V1,g,bet1,F1,h1,h2,N1,w⟩:=hc j p T
  cases Q with
  |normal=>
   obtain⟨V',st',bet',F',k1,k2,N2,D⟩:=aQV hc m h1.inv h2 q
   refine⟨V',st',bet',F',h1.trans k1,k2,max N1 N2,fun n hn k=> ?_⟩
   show cC P pr true n U c V st (fun o V st=>eD.rec (motive:=fun _=>aT->St->OR) (fun V st=>wC U c m (cC P pr true n) V st k) (fun i=>k (.exit i)) (k .ret) o V st)=_
   rw[w n (by omega)]
   exact D n (by omega) k
  |exit i=>
   simp only[bo,bp]at q
   obtain⟨rfl,rfl,rfl⟩:=q
   refine⟨V1,g,bet1,F1,h1,h2,N1,fun n hn k=> ?_⟩
   show cC P pr true n U c V st (fun o V st=>eD.rec (motive:=fun _=>aT->St->OR) (fun V st=>wC U c m (cC P pr true n) V st k) (fun i=>k (.exit i)) (k .ret) o V st)=_
   rw[w n (by omega)]
  |ret=>
   simp only[bo,bp]at q
   obtain⟨rfl,rfl,rfl⟩:=q
   refine⟨V1,g,bet1,F1,h1,h2,N1,fun n hn k=> ?_⟩
   show cC P pr true n U c V st (fun o V st=>eD.rec (motive:=fun _=>aT->St->OR) (fun V st=>wC U c m (cC P pr true n) V st k) (fun i=>k (.exit i)) (k .ret) o V st)=_
   rw[w n (by omega)]
theorem bFb(H:zM P pr cal)(I:aAJ P pr orc)(U:FI):∀c:Code,aKN P pr orc cal U c:=by
 intro c
 have suc:∀ {N n:Nat},N+1<=n->∃m,n=m+1/\N<=m:=fun {N n} h=>⟨n-1,by omega,by omega⟩
 induction c with
 |region id f d=>exact aYG H I U id f d
 |skip=>
  intro n0 V st s s' bet F e z o j p q
  simp only[gR]at q
  cases q
  exact⟨V,st,bet,F,dA.refl j,p,1,fun n hn k=>by obtain⟨m,rfl,_⟩:=suc hn;rfl⟩
 |exit i=>
  intro n0 V st s s' bet F e z o j p q
  simp only[gR]at q
  cases q
  exact⟨V,st,bet,F,dA.refl j,p,1,fun n hn k=>by obtain⟨m,rfl,_⟩:=suc hn;rfl⟩
 |ret=>
  intro n0 V st s s' bet F e z o j p q
  simp only[gR]at q
  cases q
  exact⟨V,st,bet,F,dA.refl j,p,1,fun n hn k=>by obtain⟨m,rfl,_⟩:=suc hn;rfl⟩
 | seq a b K M=>
  intro n0 V st s s' bet F e z o j p q
  simp only[gR,bJF]at q
  obtain⟨⟨Q,A,s1⟩,T,q⟩:=q
  obtain⟨V1,g,bet1,F1,h1,h2,N1,w⟩:=K j p T
  cases Q with
  |normal=>
   obtain⟨V',st',bet',F',k1,k2,N2,D⟩:=M h1.inv h2 q
   refine⟨V',st',bet',F',h1.trans k1,k2,max N1 N2+1,fun n hn k=> ?_⟩
   obtain⟨m,rfl,C⟩:=suc hn
   show cC P pr true m U a V st (fun o V st=>eD.rec (motive:=fun _=>aT->St->OR) (fun V st=>cC P pr true m U b V st k) (fun i=>k (.exit i)) (k .ret) o V st)=_
   rw[w m (by omega)]
   exact D m (by omega) k
  |exit i=>
   simp only[bo,bp]at q
   obtain⟨rfl,rfl,rfl⟩:=q
   refine⟨V1,g,bet1,F1,h1,h2,N1+1,fun n hn k=> ?_⟩
   obtain⟨m,rfl,C⟩:=suc hn
   show cC P pr true m U a V st (fun o V st=>eD.rec (motive:=fun _=>aT->St->OR) (fun V st=>cC P pr true m U b V st k) (fun i=>k (.exit i)) (k .ret) o V st)=_
   rw[w m (by omega)]
  |ret=>
   simp only[bo,bp]at q
   obtain⟨rfl,rfl,rfl⟩:=q
   refine⟨V1,g,bet1,F1,h1,h2,N1+1,fun n hn k=> ?_⟩
   obtain⟨m,rfl,C⟩:=suc hn
   show cC P pr true m U a V st (fun o V st=>eD.rec (motive:=fun _=>aT->St->OR) (fun V st=>cC P pr true m U b V st k) (fun i=>k (.exit i)) (k .ret) o V st)=_
   rw[w m (by omega)]
 | cond x a b K M=>
  intro n0 V st s s' bet F e z o j p q
  simp only[gR,bJF]at q
  obtain⟨y,A,t,e2,q⟩:=q
  obtain⟨ay,ty,ey⟩:=fD p A
  obtain rfl:=ty.bool_inv e2
  cases t with
  |true=>
   obtain⟨V',st',bet',F',k1,k2,N2,D⟩:=K j p (by simpa using q)
   refine⟨V',st',bet',F',k1,k2,N2+1,fun n hn k=> ?_⟩
   obtain⟨m,rfl,C⟩:=suc hn
   show cF x .nil V (fun y=>oU y fun t=>cC P pr true m U (Bool.rec b a t) V st k)=_
   rw[ey]
   exact D m C k
  |false=>
   obtain⟨V',st',bet',F',k1,k2,N2,D⟩:=M j p (by simpa using q)
   refine⟨V',st',bet',F',k1,k2,N2+1,fun n hn k=> ?_⟩
   obtain⟨m,rfl,C⟩:=suc hn
   show cF x .nil V (fun y=>oU y fun t=>cC P pr true m U (Bool.rec b a t) V st k)=_
   rw[ey]
   exact D m C k
 | block id c ih=>
  intro n0 V st s s' bet F e z o j p q
  simp only[gR,bJG]at q
  obtain⟨⟨Q,A,s1⟩,T,q⟩:=q
  obtain⟨V1,g,bet1,F1,h1,h2,N1,w⟩:=ih j p T
  have qK:∀n,N1+1<=n->∀k,cC P pr true n U (.block id c) V st k=(eD.rec (motive:=fun _=>aT->St->OR) (k .normal) (fun i=>Bool.rec (motive:=fun _=>aT->St->OR) (k (.exit i)) (k .normal) (Nat.beq i id)) (k .ret) Q) V1 g:=fun n hn k=>by
   obtain⟨m,rfl,C⟩:=suc hn
   show cC P pr true m U c V st (fun o=>eD.rec (motive:=fun _=>aT->St->OR) (k .normal) (fun i=>Bool.rec (motive:=fun _=>aT->St->OR) (k (.exit i)) (k .normal) (Nat.beq i id)) (k .ret) o)=_
   rw[w m C]
  cases Q with
  |normal=>
   simp only[bp]at q
   obtain⟨rfl,rfl,rfl⟩:=q
   exact⟨V1,g,bet1,F1,h1,h2,N1+1,fun n hn k=>qK n hn k⟩
  |ret=>
   simp only[bp]at q
   obtain⟨rfl,rfl,rfl⟩:=q
   exact⟨V1,g,bet1,F1,h1,h2,N1+1,fun n hn k=>qK n hn k⟩
  | exit i=>
   simp only[bp]at q
   obtain⟨rfl,rfl,rfl⟩:=q
   refine⟨V1,g,bet1,F1,h1,h2,N1+1,fun n hn k=> ?_⟩
   rw[qK n hn k]
   by_cases ei:i=id
   ·rw[if_pos ei]
    show(Bool.rec (motive:=fun _=>aT->St->OR) (k (.exit i)) (k .normal) (Nat.beq i id)) V1 g=_
    rw[beq_true ei]
   ·rw[if_neg ei]
    show(Bool.rec (motive:=fun _=>aT->St->OR) (k (.exit i)) (k .normal) (Nat.beq i id)) V1 g=_
    rw[beq_false ei]
 |loop c ih=>
  intro n0 V st s s' bet F e z o j p q
  simp only[gR]at q
  obtain⟨V',st',bet',F',k1,k2,N2,D⟩:=aQV ih sC j p q
  refine⟨V',st',bet',F',k1,k2,N2+1,fun n hn k=> ?_⟩
  obtain⟨m,rfl,C⟩:=suc hn
  exact D m C k
 |_=>intro n0 V st s s' bet F e z o j p q;simp only[gR]at q;cases q
end
end
end Ev
end Go.Proofs.YtmjoaipkaddkbaaGreatDoor
