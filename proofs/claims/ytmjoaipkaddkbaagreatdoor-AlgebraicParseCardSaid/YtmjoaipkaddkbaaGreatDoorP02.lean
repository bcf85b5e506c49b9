/- Part of a proof. -/
import Derived.Test.YtmjoaipkaddkbaaGreatDoorP01
noncomputable section
open Array renaming getElem?_eq_none→bMk,getElem?_toList→bLD
open Bool renaming and_eq_true→bJI,and_false→bMl,and_self→bKr,and_true→bKD,false_and→bLH,false_eq_true→bJQ,not_eq_true'→bKd,not_false→bLr,not_true→bKN,or_eq_true→bLg,true_and→bKI
open Int renaming toNat_natCast→bLc
open List renaming all_cons→bKK,all_eq_true→bKq,all_nil→bLk,append_nil→bKQ,cons_append→bKm,drop_append→bN9,drop_eq_getElem_cons→bLx,drop_eq_nil_of_le→bN7,drop_succ_cons→bMg,drop_zero→bJV,elem_cons→bN5,elem_iff→bKL,foldl_cons→bLN,getD_eq_getElem?_getD→bK0,getElem?_append_left→bMA,getElem?_cons_succ→bM7,getElem?_cons_zero→bMF,getElem?_eq_some_iff→bKv,length_append→bJW,length_cons→bJN,length_drop→bK3,length_nil→bKf,length_range→bMB,length_replicate→bKu,length_set→bKT,length_take→bJO,mem_append→bKy,mem_append_left→bLu,mem_append_right→bKE,mem_cons→bJZ,mem_singleton→bKF,nil_append→bKA,not_mem_nil→bLj,range→bKj,take_append→bMx,take_of_length_le→bJU,take_succ_cons→bLE,take_take→bKC,take_zero→bLq
open Nat renaming add_comm→bL1,add_sub_cancel→bKs,add_zero→bKR,le_of_ble_eq_true→bJP,le_of_eq→bLv,le_of_lt→bKb,le_of_not_lt→bLG,le_refl→bJE,le_trans→bJH,lt_irrefl→bKl,lt_of_lt_of_le→bJK,lt_or_ge→bJS,lt_succ_self→bJT,min_eq_left→bK7,mul_div_cancel→bL0,mul_le_mul_right→bK8,not_lt_zero→bKM,strongRecOn→bLp,succ_mul→bKZ,testBit_or→bMv,zero_add→bKi,zero_le→bJJ,zero_mul→bL8
open Option renaming bind_eq_some_iff→bJF,bind_some→bJM,getD_some→bLt,isSome_iff_exists→bMw,map_eq_some_iff→bJG,map_some→bKe
open Go renaming FuncId→bR9,IntKind→bR6,Oper→bRa,Operand→bR7,Program→bR8,TypeId→bR5,Value→bR4,World→bR3
open Go
open Option.some renaming injEq→bo,inj→bq
open Prod.mk renaming injEq→bp
namespace Go.Proofs.YtmjoaipkaddkbaaGreatDoor
namespace Ev
section
section
variable {P:bR8}{pr:cN}
theorem aQE{h:Tr}{bet:Nat->Id×Nat}{nx:Nat->Prop}{F:Id->Prop}:∀ {aS:List AV} {vs:List TV} (m:Nat),bM h bet nx F aS vs->ER h bet nx F .nil (uI aS m) (lO vs m)
 | [],vs,m,q=>by cases q;intro t v M;cases M
 | a::aS,vs,m,q=>by
  cases q with
  | cons ta tl=>
   rename_i v vs
   intro t w M
   have ih:=aQE (m+1) tl
   by_cases e:t=m
   ·have:w=v:=by simp only[lO,bB.upd,if_pos e,bo]at M;exact M.symm
    subst this
    exact⟨a,by show(if m=t then some a else(uI aS (m+1)).find t)=some a;rw[if_pos e.symm],ta⟩
   ·have n':lO vs (m+1) t=some w:=by simpa only[lO,bB.upd,if_neg e]using M
    obtain⟨b,h1,h2⟩:=ih t w n'
    exact⟨b,by show(if m=t then some a else(uI aS (m+1)).find t)=some b;rw[if_neg (fun h=>e h.symm)];exact h1,h2⟩
section
variable {n0:Nat}{st:St}{s:VS}{bet:Nat->Id×Nat}{F:Id->Prop}
theorem aZ9(g:VI n0 st s bet F){V:aT}{e:bB}(he:ER st.heap bet s.dom F .nil V e){x:ResultVar}{v:TV}(q:aAE P e s x=some v):∃a,TR st.heap bet s.dom F a v/\∀k,aEm P x V st k=k a:=by
 cases x with
 |tmp t=>
  obtain⟨a,h1,h2⟩:=he t v q
  exact⟨a,h2,fun k=>aT.vget_eq h1 k⟩
 | cell a t=>
  simp only[aAE]at q
  split at q
  ·next z=>
   simp only[bJF]at q
   obtain⟨y,B,q⟩:=q
   obtain⟨b,h1,h2⟩:=he a y B
   have q':kP P t s y=some v:=by
    split at q
    ·exact q
    ·cases q
   obtain⟨c,tc,ec⟩:=aOw g h2 q'
   refine⟨c,tc,fun k=> ?_⟩
   show(Bool.rec (motive:=fun _=>aT->St->KA->OR) (fun _ _ _=>none) (fun V st k=>V.vget a fun y=>aHa P t st y k) (dG P t)) V st k=_
   rw[z]
   show V.vget a _=_
   rw[aT.vget_eq h1]
   exact ec k
  ·cases q
theorem aMg(g:VI n0 st s bet F){V:aT}{e:bB}(he:ER st.heap bet s.dom F .nil V e):∀ {l:List ResultVar} {vs:List TV},iU P e s l=some vs->∃aS,bM st.heap bet s.dom F aS vs/\∀k,wS P l V st k=k aS
 | [],vs,q=>by simp only[iU]at q;cases q;exact⟨[],.nil,fun k=>rfl⟩
 |x::l,vs,q=>by
  simp only[iU,bJF,bJG]at q
  obtain⟨v,B,vs',I,rfl⟩:=q
  obtain⟨a,h1,h2⟩:=aZ9 g he B
  obtain⟨aS,D,h4⟩:=aMg g he I
  refine⟨a::aS,.cons h1 D,fun k=> ?_⟩
  show aEm P x V st (fun a=>wS P l V st fun l=>k (a::l))=_
  rw[h2,h4]
def aEu(n0:Nat)(st:St)(F:Id->Prop)(aS:List AV)(R:TV)(own:Bool):Prop:=
 ∃F',(∀id,F id->F' id)/\(∀id,F' id->F id\/(n0<=id.nat/\id.nat<st.nxt.nat))/\TR st.heap eF eI F' (nR aS) (pY R own)/\cI R=true/\(own=true->aUV n0 st F' (nR aS) R)
mutual
theorem aWm:∀ {t:TV},fX t=true->cI t=true
 | .b _,_=>rfl
 | .int _ _,_=>rfl
 | .str _,_=>rfl
 | .ag l,h=>by simp only[cI];exact aEO (l:=l) (by simpa only[fX]using h)
 | .tp l,h=>by simp only[cI];exact aEO (l:=l) (by simpa only[fX]using h)
 | .lit _,_=>rfl
 | .err,_=>rfl
 | .u,_=>rfl
 | .nil,_=>rfl
 | .em,_=>rfl
 | .e0 _,_=>rfl
 | .im _ _,h=>by simp [fX]at h
 | .ow _ _ _ _,h=>by simp [fX]at h
 | .po _ _,h=>by simp [fX]at h
 | .pi _ _,h=>by simp [fX]at h
 | .fn _ _ _,h=>by simp [fX]at h
theorem aEO:∀ {l:List TV},lA l=true->dI l=true
 | [],_=>rfl
 |a::l,h=>by
  simp only[lA,bJI]at h
  simp only[dI,aWm h.1,aEO h.2,bKr]
end
theorem aX2{l:List TV}(h:lA l=true)(o n:Nat):lA ((l.drop o).take n)=true:=by
 have all:∀l:List TV,lA l=true↔∀x∈l,fX x=true:=fun l=>by
  induction l with
  |nil=>simp [lA]
  |cons a l ih=>simp only[lA,bJI,ih,bJZ,forall_eq_or_imp]
 rw[all]at h ⊢
 exact fun x hx=>h x (List.mem_of_mem_drop (List.mem_of_mem_take hx))
theorem bM.part{h:Tr}{bet:Nat->Id×Nat}{nx:Nat->Prop}{F:Id->Prop}:∀ {a:List AV} {v:List TV} (o n:Nat),bM h bet nx F a v->bM h bet nx F ((a.drop o).take n) ((v.drop o).take n)
 | [],_,o,n,q=>by cases q;simp;exact .nil
 |a::l,_,0,0,q=>by simp;exact .nil
 |a::l,_,0,n+1,q=>by
  cases q with
  |cons ha Q=>simp only[bJV,bLE];exact .cons ha (by simpa only[bJV]using bM.part 0 n Q)
 |a::l,_,o+1,n,q=>by
  cases q with
  |cons ha Q=>simp only[bMg];exact bM.part o n Q
theorem bHr(g:VI n0 st s bet F){aS:List AV}{vs:List TV}{R:TV}{own:Bool}(ta:bM st.heap bet s.dom F aS vs)(q:dJ s vs=some (R,own)):
  aEu n0 st F aS R own:=by
 have step:∀ {s':VS} {F':Id->Prop},dA n0 st s bet F st s' bet F'->(∀id,F id->F' id)/\(∀id,F' id->F id\/(n0<=id.nat/\id.nat<st.nxt.nat)):=fun {s' F'} h=>
  ⟨h.sb.sub,fun id hF=>(h.gr id hF).elim .inl fun e=> .inr ⟨e,h.inv.lt id hF⟩⟩
 have weak:(∃F',(∀id,F id->F' id)/\(∀id,F' id->F id\/(n0<=id.nat/\id.nat<st.nxt.nat))/\TR st.heap eF eI F' (nR aS) R/\cI R=true/\(own=true->False))->aEu n0 st F aS R own:=fun⟨F',g1,g2,g3,g4,g5⟩=>⟨F',g1,g2,(by cases own with |false=>exact g3|true=>exact(g5 rfl).elim),g4,fun h=>(g5 h).elim⟩
 have one:∀ {a:AV} {v:TV},aS=[a]->TR st.heap bet s.dom F a v->(fE cL s v).map (fun p=>(iB p.1,false))=some (R,own)->aEu n0 st F aS R own:=by
  rintro a v rfl tv q
  rw[bJG]at q
  obtain⟨p,B,q⟩:=q
  cases q
  obtain⟨F',h1,h2,D⟩:=(xV cL).1 B g tv
  obtain⟨g1,g2⟩:=step h1
  exact weak ⟨F',g1,g2,(h2.closed D).nrm,aF1 D,fun h=>by cases h⟩
 have many:(∀a,aS≠ [a])->(cY cL s vs).map (fun p=>(TV.tp (cG p.1),false))=some (R,own)->aEu n0 st F aS R own:=by
  intro j q
  rw[bJG]at q
  obtain⟨p,B,q⟩:=q
  cases q
  obtain⟨F',k1,k2,k3⟩:=(xV cL).2 B g ta
  obtain⟨g1,g2⟩:=step k1
  have M:nR aS= .tup aS:=by
   cases aS with
   |nil=>rfl
   |cons a l=>
    cases l with
    |nil=>exact absurd rfl (j a)
    |cons _ _=>rfl
  refine weak ⟨F',g1,g2, ?_, ?_,fun h=>by cases h⟩
  ·rw[M];exact .tp (k2.closed k3).nrm
  ·simpa only[cI]using qP k3
 unfold dJ at q
 split at q
 ·-- nothing
  cases ta;cases q
  exact weak ⟨F,fun _ h=>h,fun _ h=> .inl h,.tp .nil,rfl,fun h=>by cases h⟩
 ·-- a slice of one's own
  rename_i k off len sz
  cases ta with
  |cons tv tl=>
  cases tl
  rename_i a
  have tv':=tv
  cases tv with
  |ow z J=>
  rename_i cap
  split at q
  ·next hc=>
   obtain⟨_,h0,b',u'⟩:=hc
   cases q
   obtain⟨blk,S,b2,K⟩:=g.obj k z (by rw[h0];decide)
   have rng:=g.rng k z
   have O:=K.length
   have T:=(bM.scal (h':=st.heap) (bet':=eF) (nx':=eI) (F':=fun i=>i=(bet k).1) K b').part off (len*sz)
   have A:cI (.im sz (((s.ob k).cs.drop off).take (len*sz)))=true:=by simp only[cI];exact aEO (aX2 b' _ _)
   have hR:TR st.heap eF eI (fun i=>i=(bet k).1) (.sl (bet k).1 off len cap sz) (iB (.im sz (((s.ob k).cs.drop off).take (len*sz)))):=(TR.im (F:=fun i=>i=(bet k).1) (off:=off) (len:=len) (cap:=cap) (sz:=sz) rfl ⟨S,K.nm⟩ (by omega) T).nrm
   refine⟨fun i=>F i\/i=(bet k).1,fun i h=> .inl h,fun i h=>h.elim .inl fun e=> .inr (by rw[e];exact rng), ?_, ?_,fun _=> .inl ⟨_,rfl, ?_⟩⟩
   ·exact hR.mono ⟨fun _ _=>rfl,fun i h=> .inr h,fun _ h=>h,fun _ _=>rfl⟩
   ·simp only[cI,dI,aF1 A,bKr]
   ·exact hR.mono ⟨fun _ _=>rfl,fun i h=>⟨.inr h,by rw[h];exact rng.1⟩,fun _ h=>h,fun _ _=>rfl⟩
  split at q
  ·next hc=>
   obtain⟨rfl,_,h0,A,hsz⟩:=hc
   simp only[bJF]at q
   obtain⟨p,B,q⟩:=q
   obtain⟨blk,S,b2,K⟩:=g.obj k z (by rw[h0];decide)
   obtain⟨F',h1,h2,D⟩:=(xV cL).2 B g K
   split at q
   ·next hh=>
    cases q
    have U:k<p.2.nxt:=h1.sb.nle _ z
    have W:=h1.inv.sep k U hh
    obtain⟨g1,g2⟩:=step h1
    have d:=(h2.closed (bet':=eF) (nx':=eI) D).nrm
    have O:=d.length
    have X:(cG p.1).length=len*sz:=by rw[←O,←A];exact K.length
    have G:Sb st.heap eF eI F' st.heap eF eI (fun i=>F' i\/i=(bet k).1):=⟨fun _ _=>rfl,fun _ h=> .inl h,fun _ h=>h,fun _ _=>rfl⟩
    have H:Sb st.heap eF eI F' st.heap eF eI (fun i=>(F' i\/i=(bet k).1)/\i≠(bet k).1):=⟨fun _ _=>rfl,fun i h=>⟨.inl h,fun e=>W (e ▸ h)⟩,fun _ h=>h,fun _ _=>rfl⟩
    have rng:=g.rng k z
    refine⟨fun i=>F' i\/i=(bet k).1,fun i h=> .inl (g1 i h),fun i h=>h.elim (g2 i) fun e=> .inr (by rw[e];exact rng),.im (.inr rfl) ⟨S,K.nm⟩ (by omega) ?_,by simpa only[cI]using qP D,fun _=> .inr ⟨rfl,sz,cG p.1,(bet k).1,len,cap,blk,[],[],.inl ⟨rfl,rfl,rfl,rfl⟩,.nil,X.symm,hsz,rng.1,rng.2,S,by omega,d.mono H,fun c hc=> ?_⟩⟩
    ·rw[bJV,bJU (by omega)]
     exact d.mono G
    ·have:=J c hc
     exact⟨this.1,by omega⟩
   ·cases q
  ·exact one rfl tv' q
 ·rename_i a' _
  cases ta with
  |cons tv tl=>
  cases tl
  exact one rfl tv q
 ·-- several, the first one of one's own
  rename_i k off len sz l h1
  cases ta with
  |cons tv tl=>
  rename_i a al
  have tv':=tv
  have j:∀x,a::al≠ [x]:=fun x e=>by
   cases al with
   |nil=>cases tl;first|exact h1 rfl|exact h1 _ rfl|exact h1 _ _ _ _ rfl
   |cons _ _=>cases e
  cases tv with
  |ow z J=>
  rename_i cap
  split at q
  ·next hc=>
   obtain⟨rfl,_,h0,A,hsz,_⟩:=hc
   simp only[bJF]at q
   obtain⟨p,B,p2,I,q⟩:=q
   obtain⟨blk,S,b2,K⟩:=g.obj k z (by rw[h0];decide)
   obtain⟨F1,h1,h2,D⟩:=(xV cL).2 B g K
   obtain⟨F',k1,k2,k3⟩:=(xV cL).2 I h1.inv (tl.mono h1.sb)
   split at q
   ·next hh=>
    cases q
    have c':=h1.trans k1
    have U:k<p2.2.nxt:=c'.sb.nle _ z
    have W:=k1.inv.sep k U hh
    obtain⟨g1,g2⟩:=step c'
    have d:=((h2.mono k1.sb).closed (bet':=eF) (nx':=eI) D).nrm
    have E:=(k2.closed (bet':=eF) (nx':=eI) k3).nrm
    have O:=d.length
    have X:(cG p.1).length=len*sz:=by rw[←O,←A];exact K.length
    have G:Sb st.heap eF eI F' st.heap eF eI (fun i=>F' i\/i=(bet k).1):=⟨fun _ _=>rfl,fun _ h=> .inl h,fun _ h=>h,fun _ _=>rfl⟩
    have H:Sb st.heap eF eI F' st.heap eF eI (fun i=>(F' i\/i=(bet k).1)/\i≠(bet k).1):=⟨fun _ _=>rfl,fun i h=>⟨.inl h,fun e=>W (e ▸ h)⟩,fun _ h=>h,fun _ _=>rfl⟩
    have rng:=g.rng k z
    have M:nR (.sl (bet k).1 0 len cap sz::al)= .tup (.sl (bet k).1 0 len cap sz::al):=by
     cases al with
     |nil=>exact absurd rfl (j _)
     |cons _ _=>rfl
    have d':oV (.tp (.im sz (cG p.1)::cG p2.1))=none:=by
     have e':=E.length
     cases al with
     |nil=>exact absurd rfl (j _)
     |cons _ _=>cases hz:cG p2.1 with
      |nil=>rw[hz]at e';cases e'
      |cons _ _=>rfl
    unfold aEu
    rw[M]
    refine⟨fun i=>F' i\/i=(bet k).1,fun i h=> .inl (g1 i h),fun i h=>h.elim (g2 i) fun e=> .inr (by rw[e];exact rng), ?_, ?_,fun _=> .inr ⟨d',sz,cG p.1,(bet k).1,len,cap,blk,al,cG p2.1,.inr ⟨rfl,rfl⟩,E.mono H,X.symm,hsz,rng.1,rng.2,S,by omega,d.mono H,fun c hc=> ?_⟩⟩
    ·have e:pY (.tp (.im sz (cG p.1)::cG p2.1)) true= .tp (.im sz (cG p.1)::cG p2.1):=by unfold pY;rw[d'];rfl
     rw[e]
     refine .tp (.cons (.im (.inr rfl) ⟨S,K.nm⟩ (by omega) ?_) (E.mono G))
     rw[bJV,bJU (by omega)]
     exact d.mono G
    ·simp only[cI,dI,qP D,qP k3,bKr]
    ·have:=J c hc
     exact⟨this.1,by omega⟩
   ·cases q
  ·exact many j q
 ·rename_i h1 h2 D h4
  refine many (fun a e=> ?_) q
  subst e
  cases ta with
  |cons ta' tl=>cases tl;first|exact D _ rfl|exact h2 _ rfl|exact h4 _ rfl
end
theorem aTf{f:bR9}{fn:Func}{c:Code}{orc:cP}{cal:jP}(A:zM P pr cal)(u:aAJ P pr orc)(hf:P.funcs[f]? =some fn)(hp:pr f=none)(hb:fn.body=some c){n0:Nat}{st:St}{s:VS}{bet:Nat->Id×Nat}{F:Id->Prop}(g:VI n0 st s bet F){vs:List TV}{aS:List AV}(ta:bM st.heap bet s.dom F aS vs)
  (o':vs.length<=16) (p':vs.length<=fn.ntmps) {o:eD} {e:bB} {s':VS} (j:∀i,o≠ .exit i) (q:gR P orc cal (nJ fn c,fn.ntmps) c (lO vs 0) s=some (o,e,s')) {l:List TV} (ql:iU P e s' fn.results.toList=some l):
  ∃bs st' bet' F',dA n0 st s bet F st' s' bet' F'/\bM st'.heap bet' s'.dom F' bs l/\∃N,∀n,N<=n->∀k,eN P pr f (cC P pr true n) aS st k=k (nR bs) st':=by
 obtain⟨V',st',bet',F',h1,h2,N,D⟩:=bFb A u (nJ fn c,fn.ntmps) c g (aQE 0 ta) q
 have f':=ta.length
 obtain⟨bs,tb,eb⟩:=aMg h1.inv h2 ql
 refine⟨bs,st',bet',F',h1,tb,N,fun n hn k=> ?_⟩
 show(Option.rec (motive:=fun _=>IH->List AV->St->KS->OR) (wY P (P.funcs[f]?)) (fun p _=>p) (pr f)) (cC P pr true n) aS st k=_
 rw[hp,hf]
 show(Option.rec (motive:=fun _=>IH->List AV->St->KS->OR) (fun _ _ _ _=>none) (fun c=>aH9 P (nJ fn c,fn.ntmps) c fn.results.toList) fn.body) (cC P pr true n) aS st k=_
 rw[hb]
 show bQ (Nat.ble (lV aS) 16) (bQ (Nat.ble (lV aS) fn.ntmps) (cC P pr true n (nJ fn c,fn.ntmps) c (uI aS 0) st (aKY P fn.results.toList k)) none) none=_
 rw[dK (eK (by rw[xX,f'];exact o')),dK (eK (by rw[xX,f'];exact p')),D n hn]
 cases o with
 |exit i=>exact absurd rfl (j i)
 |normal=>show wS P fn.results.toList V' st' (fun l=>k (nR l) st')=_;rw[eb]
 |ret=>show wS P fn.results.toList V' st' (fun l=>k (nR l) st')=_;rw[eb]
theorem bIM{orc:cP}{cal:jP}(A:zM P pr cal)(u:aAJ P pr orc){f:bR9}{fn:Func}(hf:P.funcs[f]? =some fn)(hp:pr f=none){vs:List TV}{R:TV}{own:Bool}(q:vfn P orc cal fn vs=some (R,own)):jT P pr f vs R own:=by
 intro st aS F g' ta r' i' t' j' k'
 simp only[vfn,bJF]at q
 obtain⟨c,B,q⟩:=q
 split at q
 case isFalse=>cases q
 case isTrue C=>
 simp only[bJF]at q
 obtain⟨⟨o,e,s⟩,I,q⟩:=q
 have g:VI st.nxt.nat st dZ eF F:=⟨t',bJE _,j',fun k z=>absurd z (bKM _),fun k z=>absurd z (bKM _),fun k _ z=>absurd z (bKM _),fun k z=>absurd z (bKM _),r',i',k'⟩
 have fin:(∀i,o≠ .exit i)->(iU P e s fn.results.toList).bind (fun l=>dJ s l)=some (R,own)->∃a st' F',aB0 st st' F F' a R own/\∃N,∀n,N<=n->∀k,eN P pr f (cC P pr true n) aS st k=k a st':=by
  intro j q
  simp only[bJF]at q
  obtain⟨l,e3,q⟩:=q
  obtain⟨bs,st',bet',F',h1,tb,N,hN⟩:=aTf A u hf hp B g (ta.closedA g') C.1 C.2 j I e3
  obtain⟨F2,g1,g2,g3,g4,g5⟩:=bHr h1.inv tb q
  refine⟨nR bs,st',F2,⟨g3,g4,fun id h=>g1 id (h1.sb.sub id h),fun id h=> ?_,h1.old,h1.rq,h1.hq,h1.nx,g5⟩,N,hN⟩
  rcases g2 id h with h|h
  ·exact(h1.gr id h).elim .inl fun e=> .inr ⟨e,h1.inv.lt id h⟩
  ·exact .inr h
 cases o with
 |exit i=>simp only at q;cases q
 |normal=>exact fin (fun i e=>by cases e) q
 |ret=>exact fin (fun i e=>by cases e) q
def aCE(P:bR8)(pr:cN)(pv:cP):Prop:=∀f vs R own,pv f vs=some (R,own)->jT P pr f vs R own
theorem bFC{h:Tr}{bet:Nat->Id×Nat}{nx:Nat->Prop}{F:Id->Prop}{bs:List AV}{l:List TV}(t:bM h bet nx F bs l):TR h bet nx F (nR bs) (aH l):=by
 cases t with
 |nil=>exact .tp .nil
 |cons ha Q=>cases Q with
  |nil=>exact ha
  |cons hb Q=>exact .tp (.cons ha (.cons hb Q))
theorem aRa{bZ:mB}{orc:cP}(Y:mR P pr orc)(u:aAJ P pr orc)(L:∀f,bZ f=true->pr f=none):∀m,zM P pr (fI P bZ orc m)
 |0=>bBi Y
 | m+1=>fun n0 st s bet F g f args aS v s' ta q=>by
  simp only[fI]at q
  split at q
  ·next hi=>
   simp only[bJF]at q
   obtain⟨fn,B,c,I,q⟩:=q
   split at q
   case isFalse=>cases q
   case isTrue C=>
   simp only[bJF]at q
   obtain⟨⟨o,e,s1⟩,e3,q⟩:=q
   have fin:(∀i,o≠ .exit i)->(iU P e s1 fn.results.toList).map (fun l=>(aH l,s1))=some (v,s')->∃c st' bet' F',dA n0 st s bet F st' s' bet' F'/\TR st'.heap bet' s'.dom F' c v/\∃N,∀n,N<=n->∀k,eN P pr f (cC P pr true n) aS st k=k c st':=by
    intro j q
    rw[bJG]at q
    obtain⟨l,e4,q⟩:=q
    simp only[bp]at q
    obtain⟨rfl,rfl⟩:=q
    obtain⟨bs,st',bet',F',h1,tb,N,hN⟩:=aTf (aRa Y u L m) u B (L f hi) I g ta C.1 C.2 j e3 e4
    exact⟨nR bs,st',bet',F',h1,bFC tb,N,hN⟩
   cases o with
   |exit i=>simp only at q;cases q
   |normal=>exact fin (fun i e=>by cases e) q
   |ret=>exact fin (fun i e=>by cases e) q
  ·exact aO9 Y g ta q
theorem aB0.fgt{st st':St}{F F':Id->Prop}{a:AV}{R:TV}{own:Bool}(h:aB0 st st' F F' a R own):aB0 st st' F F' a (pY R own) false:=by
 refine⟨by simpa only[pY,bJQ,if_false]using h.tr, ?_,h.sub,h.new,h.old,h.rq,h.hq,h.nx,fun e=>by cases e⟩
 have hc:=h.cl
 unfold pY
 split
 ·unfold oV
  split
  ·simpa only[bLt,cI,dI,bKD]using hc
  ·exact hc
 ·exact hc
theorem jT.fgt{f:bR9}{vs:List TV}{R:TV}{own:Bool}(h:jT P pr f vs R own):jT P pr f vs (pY R own) false:=fun st aS F h1 h2 D h4 h5 h6 h7=>by
 obtain⟨a,st',F',hr,hn⟩:=h st aS F h1 h2 D h4 h5 h6 h7
 exact⟨a,st',F',hr.fgt,hn⟩
theorem aBV{bZ:mB}{pv:cP}(l':aCE P pr pv)(u:∀orc,mR P pr orc->aAJ P pr orc)(L:∀f,bZ f=true->pr f=none)(m':∀f,pr f≠none->bZ.prim f=true):∀m,mR P pr (fY P bZ pv m)
 |0=>fun f vs R own q=>by cases q
 | m+1=>fun f vs R own q=>by
  have ih:=aBV l' u L m' m
  simp only[fY]at q
  cases g:pv f vs with
  |some r=>
   rw[g]at q
   simp only at q
   cases q
   exact l' f vs R own g
  | none=>
   rw[g]at q
   simp only at q
   split at q
   case isTrue=>cases q
   case isFalse Z=>
   simp only[bJF]at q
   obtain⟨fn,B,q⟩:=q
   rw[bJG]at q
   obtain⟨⟨R1,own1⟩,q,I⟩:=q
   have hf:=bIM (aRa ih (u _ ih) L lC) (u _ ih) B (by
    cases hp:pr f with
    |none=>rfl
    |some p=>exact absurd (m' f (by rw[hp];exact fun h=>by cases h)) Z) q
   unfold Ev.nX at I
   split at I
   ·cases I;exact hf.fgt
   ·cases I;exact hf
end
end
theorem aME(acc:List Nat)(j:Nat):∀(l:List Nat) (s:Nat),(l.foldl (fun s e=>Nat.lor s (Nat.lor (Nat.pow 2 e) (acc.getD e 0))) s).testBit j=true↔s.testBit j=true\/∃e∈l,e=j\/(acc.getD e 0).testBit j=true
 | [],s=>by simp
 | e::l,s=>by
  rw[bLN,aME acc j l]
  have h1:(Nat.lor s (Nat.lor (Nat.pow 2 e) (acc.getD e 0))).testBit j=(s.testBit j||((2^e).testBit j||(acc.getD e 0).testBit j)):=by
   show(s|||(2^e|||acc.getD e 0)).testBit j=_
   rw[bMv,bMv]
  have h2:(2^e).testBit j=decide (e=j):=Nat.testBit_two_pow
  rw[h1,h2]
  simp only[bLg,ap,bJZ]
  constructor
  ·rintro((h|h|h)|⟨p,h,h'⟩)
   ·exact .inl h
   ·exact .inr ⟨e,.inl rfl,.inl h⟩
   ·exact .inr ⟨e,.inl rfl,.inr h⟩
   ·exact .inr ⟨p,.inr h,h'⟩
  ·rintro(h|⟨p,rfl|h,h'⟩)
   ·exact .inl (.inl h)
   ·rcases h' with h'|h'
    ·exact .inl (.inr (.inl h'))
    ·exact .inl (.inr (.inr h'))
   ·exact .inr ⟨p,h,h'⟩
theorem aLN:∀(l:List bRa) (acc:List Nat),(dL l acc).length=acc.length+l.length/\(∀i,i<acc.length->(dL l acc).getD i 0=acc.getD i 0)/\
  ∀i o,l[i]? =some o->(∀m∈kD o,m<acc.length+i)->(dL l acc).getD (acc.length+i) 0=pN (dL l acc) (kD o)
 | [],acc=>⟨by simp [dL],fun i h=>rfl,fun i o h=>by simp at h⟩
 | o ::l,acc=>by
  obtain⟨h1,h2,t⟩:=aLN l (acc++[pN acc (kD o)])
  have f:dL (o::l) acc=dL l (acc++[pN acc (kD o)]):=rfl
  have q:(acc++[pN acc (kD o)]).length=acc.length+1:=by simp
  have hold:∀i,i<acc.length->(dL l (acc++[pN acc (kD o)])).getD i 0=acc.getD i 0:=fun i g=>by
   rw[h2 i (by omega)]
   simp only[bK0,bMA g]
  refine⟨by rw[f,h1,q,bJN];omega,fun i g=>by rw[f];exact hold i g,fun i r d b=> ?_⟩
  rw[f]
  cases i with
  | zero=>
   have d:o=r:=by simpa using d
   subst d
   rw[bKR,h2 acc.length (by omega)]
   simp only[bK0,List.getElem?_concat_length,bLt]
   have:∀(ns:List Nat) (s:Nat),(∀m∈ns,m<acc.length)->ns.foldl (fun s e=>Nat.lor s (Nat.lor (Nat.pow 2 e) (acc.getD e 0))) s=ns.foldl (fun s e=>Nat.lor s (Nat.lor (Nat.pow 2 e) ((dL l (acc++[pN acc (kD o)])).getD e 0))) s:=by
    intro ns
    induction ns with
    |nil=>intro s _;rfl
    |cons e ns ih=>
     intro s hn
     rw[bLN,bLN,hold e (hn e (.head _))]
     exact ih _ fun m f=>hn m (.tail _ f)
   exact this _ 0 fun m f=>by have:=b m f;omega
  |succ i=>
   have d:l[i]? =some r:=by simpa using d
   have:=t i r d (fun m f=>by rw[q];have:=b m f;omega)
   rw[q]at this
   rw[show acc.length+(i+1)=acc.length+1+i by omega]
   exact this
def nG(a:List bRa)(j i:Nat):Prop:=((dL a []).getD i 0).testBit j=true
theorem aIt{a:List bRa}(c:eS a=true){i:Nat}{o:bRa}(d:a[i]? =some o)(j:Nat):nG a j i↔∃e∈kD o,e=j\/nG a j e:=by
 have hn:=(aEU c).1 i o d
 have:=(aLN a []).2.2 i o d (by simpa using hn)
 rw[bKf,bKi]at this
 unfold nG
 rw[this]
 unfold pN
 rw[aME]
 simp
theorem aFB{a:List bRa}(c:eS a=true):∀ {i j:Nat},i<a.length->nG a j i->j<i:=by
 intro i
 induction i using bLp with
 |_ i ih=>
  intro j g h
  have d:a[i]? =some a[i]:=by simp [g]
  obtain⟨e,n,h⟩:=(aIt c d j).1 h
  have b:=(aEU c).1 i _ d e n
  rcases h with rfl|h
  ·exact b
  ·exact Nat.lt_trans (ih e b (by omega) h) b
theorem aWg{a:List bRa}(c:eS a=true):∀ {i j m:Nat},i<a.length->nG a j i->nG a m j->nG a m i:=by
 intro i
 induction i using bLp with
 |_ i ih=>
  intro j m g h k
  have d:a[i]? =some a[i]:=by simp [g]
  obtain⟨e,n,h⟩:=(aIt c d j).1 h
  have b:=(aEU c).1 i _ d e n
  refine(aIt c d m).2 ⟨e,n,.inr ?_⟩
  rcases h with rfl|h
  ·exact k
  ·exact ih e b (by omega) h k
theorem aMq{a:List bRa}{i j:Nat}(h:j<i):gC (dL a []) j i=true↔nG a j i:=by
 unfold gC nG
 rw[if_pos h]
section
def KP(s:VS)(bet:Nat->Id×Nat)(φ:Nat->Prop):Nat->Prop:=fun k=>k<s.nxt/\φ (bet k).1.nat
def FP(F:Id->Prop)(φ:Nat->Prop):Id->Prop:=fun id=>F id/\φ id.nat
def VC(φ:Nat->Prop)(st:St)(s:VS)(bet:Nat->Id×Nat)(F:Id->Prop):Prop:=
 ∀k,k<s.nxt->(s.ob k).how≠2->φ (bet k).1.nat->∃blk,Tr.find (bet k).1 st.heap=some blk/\blk.cells.length=(bet k).2/\bM st.heap bet (KP s bet φ) (FP F φ) blk.cells (s.ob k).cs
section
variable {n0:Nat}{st:St}{P:bR8}{φ:Nat->Prop}
theorem aE4{s s':VS}{bet:Nat->Id×Nat}{F F':Id->Prop}(h:Sb st.heap bet s.dom F st.heap bet s'.dom F'):Sb st.heap bet (KP s bet φ) (FP F φ) st.heap bet (KP s' bet φ) (FP F' φ):=
 ⟨fun _ _=>rfl,fun id t=>⟨h.sub id t.1,t.2⟩,fun k d=>⟨h.nle k d.1,d.2⟩,fun _ _=>rfl⟩
theorem VC.freeze{s:VS}{bet:Nat->Id×Nat}{F:Id->Prop}(hc:VC φ st s bet F){k:Nat}(h2:(s.ob k).how≠2)(d:k<s.nxt)(g:VI n0 st s bet F):VC φ st (s.set k ⟨1,(s.ob k).cs⟩) bet (fun id=>F id\/id=(bet k).1):=by
 intro j G y hφ
 have how:(s.ob j).how≠2:=by
  by_cases e:j=k
  ·rw[e];exact h2
  ·rw[VS.set_ne _ _ e]at y;exact y
 obtain⟨blk,h1,f,D⟩:=hc j G how hφ
 refine⟨blk,h1,f, ?_⟩
 have hs:=aE4 (φ:=φ) (g.freeze d h2).sb
 by_cases e:j=k
 ·subst e;rw[VS.set_ob];exact D.mono hs
 ·rw[VS.set_ne _ _ e];exact D.mono hs
theorem aFc:∀m:Nat,
  (∀ {s s':VS} {bet:Nat->Id×Nat} {F:Id->Prop} {v w:TV} {a:AV},fE m s v=some (w,s')->VI n0 st s bet F->VC φ st s bet F->TR st.heap bet (KP s bet φ) (FP F φ) a v->∃F',dA n0 st s bet F st s' bet F'/\VC φ st s' bet F'/\TR st.heap bet (KP s' bet φ) (FP F' φ) a w/\cI w=true)/\
  (∀ {s s':VS} {bet:Nat->Id×Nat} {F:Id->Prop} {v w:List TV} {a:List AV},cY m s v=some (w,s')->VI n0 st s bet F->VC φ st s bet F->bM st.heap bet (KP s bet φ) (FP F φ) a v->∃F',dA n0 st s bet F st s' bet F'/\VC φ st s' bet F'/\bM st.heap bet (KP s' bet φ) (FP F' φ) a w/\dI w=true)
 |0=>⟨fun q=>by simp [fE]at q,fun q=>by simp [cY]at q⟩
 | m +1=>by
  obtain⟨A,n⟩:=aFc m
  refine⟨fun {s s' bet F v w a} q g c ta=> ?_,fun {s s' bet F v w a} q g c ta=> ?_⟩
  ·have leaf:(if cI v then some (v,s)else none)=some (w,s')->∃F',dA n0 st s bet F st s' bet F'/\VC φ st s' bet F'/\TR st.heap bet (KP s' bet φ) (FP F' φ) a w/\cI w=true:=by
    intro q
    split at q
    ·next hc=>cases q;exact⟨F,dA.refl g,c,ta,hc⟩
    ·cases q
   cases ta with
   | ow d hc=>
    rename_i k off len cap sz
    simp only[fE]at q
    split at q
    ·next o=>
     simp only[bJF,bJG]at q
     obtain⟨l,B,p,C,q⟩:=q
     cases q
     obtain⟨c1,c2⟩:=xR B
     obtain⟨blk,h1,h2,f⟩:=c k d.1 o.2 d.2
     have x:=f.length
     have r:=g.freeze d.1 o.2
     have win:bM st.heap bet (KP s bet φ) (FP F φ) ((blk.cells.drop off).take (len*sz)) l:=by rw[c2];exact(f.drop off).take _
     obtain⟨F',z,vc2,t2,t3⟩:=n (a:=(blk.cells.drop off).take (len*sz)) C r.inv (c.freeze o.2 d.1 g) (win.mono (aE4 r.sb))
     refine⟨F',r.trans z,vc2,.im ⟨z.sb.sub _ (.inr rfl),d.2⟩ ⟨h1,f.nm⟩ (by omega) t2,by simpa only[cI]using t3⟩
    ·cases q
   |ag hc=>
    simp only[fE,bJG]at q
    obtain⟨p,e,q⟩:=q
    cases q
    obtain⟨F',h1,vc,h2,f⟩:=n e g c hc
    exact⟨F',h1,vc,.ag h2,by simpa only[cI]using f⟩
   |tp hc=>
    simp only[fE,bJG]at q
    obtain⟨p,e,q⟩:=q
    cases q
    obtain⟨F',h1,vc,h2,f⟩:=n e g c hc
    exact⟨F',h1,vc,.tp h2,by simpa only[cI]using f⟩
   |b=>exact leaf q
   |i=>exact leaf q
   |m=>exact leaf q
   |str=>exact leaf q
   |lit=>exact leaf q
   |err=>exact leaf q
   |u=>exact leaf q
   |nil=>exact leaf q
   |imv=>exact leaf q
   |imse=>exact leaf q
   |im t hf x hc=>exact leaf q
   |e0 t hf x=>exact leaf q
   |po d=>exact leaf q
   |pi t hf x hc=>exact leaf q
   |fn E I=>exact leaf q
   |emv=>exact leaf q
   |emse=>exact leaf q
   |ems t hf x=>exact leaf q
  ·cases ta with
   |nil=>simp only[cY]at q;cases q;exact⟨F,dA.refl g,c,.nil,rfl⟩
   |cons E x=>
    simp only[cY,bJF,bJG]at q
    obtain⟨p,B,J,C,q⟩:=q
    cases q
    obtain⟨F1,h1,vc1,h2,f⟩:=A B g c E
    obtain⟨F2,k1,vc2,k2,H⟩:=n C h1.inv vc1 (x.mono (aE4 h1.sb))
    exact⟨F2,h1.trans k1,vc2,.cons (h2.mono (aE4 k1.sb)) k2,by simp only[dI,f,H,bKr]⟩
end
end
section
def mM(s s':VS):Prop:=s'.nxt=s.nxt/\∀k,(s'.ob k).cs=(s.ob k).cs/\((s'.ob k).how≠2->(s.ob k).how≠2)/\((s'.ob k).how=0->(s.ob k).how=0)
theorem mM.refl(s:VS):mM s s:=⟨rfl,fun _=>⟨rfl,id,id⟩⟩
theorem mM.trans{a b c:VS}(h:mM a b)(k:mM b c):mM a c:=⟨k.1.trans h.1,fun i=>⟨(k.2 i).1.trans (h.2 i).1,fun e=>(h.2 i).2.1 ((k.2 i).2.1 e),fun e=>(h.2 i).2.2 ((k.2 i).2.2 e)⟩⟩
theorem aF0:∀m:Nat,(∀ {s s':VS} {v w:TV},fE m s v=some (w,s')->mM s s')/\(∀ {s s':VS} {v w:List TV},cY m s v=some (w,s')->mM s s')
 |0=>⟨fun q=>by simp [fE]at q,fun q=>by simp [cY]at q⟩
 | m +1=>by
  obtain⟨d',J⟩:=aF0 m
  refine⟨fun {s s' v w} q=> ?_,fun {s s' v w} q=> ?_⟩
  ·have leaf:(if cI v then some (v,s)else none)=some (w,s')->mM s s':=fun q=>by
    split at q
    ·cases q;exact mM.refl s
    ·cases q
   cases v with
   | ow k off len sz=>
    simp only[fE]at q
    split at q
    ·next e'=>
     simp only[bJF,bJG]at q
     obtain⟨l,B,p,C,q⟩:=q
     cases q
     have h1:mM s (s.set k ⟨1,(s.ob k).cs⟩):=⟨rfl,fun j=>by
      by_cases e:j=k
      ·subst e;rw[VS.set_ob];exact⟨rfl,fun _=>e'.2,fun h=>by cases h⟩
      ·rw[VS.set_ne _ _ e];exact⟨rfl,id,id⟩⟩
     exact h1.trans (J C)
    ·cases q
   |ag cs=>
    simp only[fE,bJG]at q
    obtain⟨p,e,q⟩:=q
    cases q;exact J e
   |tp cs=>
    simp only[fE,bJG]at q
    obtain⟨p,e,q⟩:=q
    cases q;exact J e
   |_=>exact leaf q
  ·cases v with
   |nil=>simp only[cY]at q;cases q;exact mM.refl s
   |cons a l=>
    simp only[cY,bJF,bJG]at q
    obtain⟨p,B,p2,C,q⟩:=q
    cases q
    exact(d' B).trans (J C)
theorem aVZ{s s':VS}{v w:TV}(q:aDy s v=some (w,s')):mM s s':=by
 unfold aDy at q
 split at q
 ·simp only[bJF]at q
  obtain⟨p,B,q⟩:=q
  split at q
  ·cases q;exact(aF0 cL).1 B
  ·cases q
 ·exact(aF0 cL).1 q
theorem aM6:∀ {v w:List TV} {s s':VS},yO v s=some (w,s')->mM s s'
 | [],_,_,_,q=>by simp only[yO]at q;cases q;exact mM.refl _
 |a::l,_,_,_,q=>by
  simp only[yO,bJF,bJG]at q
  obtain⟨p,B,p2,C,q⟩:=q
  cases q
  exact(aVZ B).trans (aM6 C)
section
variable {n0:Nat}{P:bR8}{φ:Nat->Prop}
theorem aC6{st:St}{l:List (Nat×Nat)}{id:Id}(h:st.vis id)(H:∀p∈l,¬(p.1<=id.nat/\id.nat<p.2)):(dR l st).vis id:=by
 intro p hp
 have hp:p∈rE l st.hid:=hp
 rw[vP,bKy]at hp
 rcases hp with hp|hp
 ·exact H p hp
 ·exact h p hp
def aL2(n0:Nat)(φ:Nat->Prop)(st:St)(bet:Nat->Id×Nat)(F:Id->Prop)(s:VS)(aS:List AV)(vs:List TV)(s1:VS):Prop:=
 ∃F1,dA n0 st s bet F st s1 bet F1/\VC φ st s1 bet F1/\bM st.heap eF eI (FP F1 φ) aS vs/\pQ vs=true
theorem bIs{h:Tr}{bet:Nat->Id×Nat}{nx:Nat->Prop}{F:Id->Prop}{id:Id}{off len sz f':Nat}{cap:Option Nat}{cs:List TV}(q:TR h bet nx F (.sl id off len cap sz) (.im f' cs)):
  ∃blk,F id/\FC h id blk/\off+len*sz<=blk.cells.length/\bM h bet nx F ((blk.cells.drop off).take (len*sz)) cs:=by
 cases q with
 |im Q hf H hc=>exact⟨_,Q,hf,H,hc⟩
theorem aW6{st:St}{s s':VS}{bet:Nat->Id×Nat}{F:Id->Prop}{v w:TV}{a:AV}(q:aDy s v=some (w,s'))(I:VI n0 st s bet F)(z:VC φ st s bet F)(ta:TR st.heap bet (KP s bet φ) (FP F φ) a v):
  ∃F',dA n0 st s bet F st s' bet F'/\VC φ st s' bet F'/\TR st.heap eF eI (FP F' φ) a w/\oP w=true:=by
 unfold aDy at q
 split at q
 ·next k off=>
  simp only[bJF]at q
  obtain⟨p,B,q⟩:=q
  cases ta with
  |po o=>
  have S:TR st.heap bet (KP s bet φ) (FP F φ) (.sl (bet k).1 0 (s.ob k).cs.length none 1) (.ow k 0 (s.ob k).cs.length 1):= .ow o fun c h=>by cases h
  obtain⟨F',h1,h2,D,K⟩:=(aFc cL).1 B I z S
  split at q
  ·next sz cs hp=>
   cases q
   rw[hp]at D K
   have D:=D.closed (bet':=eF) (nx':=eI) K
   obtain⟨blk,Q,hf,H,hc⟩:=bIs D
   refine⟨F',h1,h2, ?_,by simpa only[oP,cI]using K⟩
   have:=TR.pi (off:=off) Q hf H hc
   rw[bKi]at this
   exact this
  ·cases q
 ·obtain⟨F',h1,h2,D,K⟩:=(aFc cL).1 q I z ta
  exact⟨F',h1,h2,D.closed K,aHW K⟩
theorem aMr{st:St}{bet:Nat->Id×Nat}:∀ {v w:List TV} {s s':VS} {F:Id->Prop} {a:List AV},yO v s=some (w,s')->VI n0 st s bet F->VC φ st s bet F->bM st.heap bet (KP s bet φ) (FP F φ) a v->aL2 n0 φ st bet F s a w s'
 | [],_,_,_,F,_,q,I,z,ta=>by
  simp only[yO]at q
  cases q
  cases ta
  exact⟨F,dA.refl I,z,.nil,rfl⟩
 |x::l,_,_,_,F,_,q,I,z,ta=>by
  simp only[yO,bJF,bJG]at q
  obtain⟨p,B,p2,C,q⟩:=q
  cases q
  cases ta with
  |cons T H=>
  obtain⟨F1,h1,vc1,h2,D⟩:=aW6 B I z T
  obtain⟨F2,k1,vc2,k2,k3⟩:=aMr C h1.inv vc1 (H.mono (aE4 h1.sb))
  exact⟨F2,h1.trans k1,vc2,.cons (h2.mono ⟨fun _ _=>rfl,fun id h=>⟨k1.sb.sub id h.1,h.2⟩,fun _ h=>h.elim,fun _ h=>h.elim⟩) k2,by simp only[pQ,D,k3,bKr]⟩
theorem aXn{st:St}{s s':VS}{bet:Nat->Id×Nat}{F:Id->Prop}{v w:List TV}{a:List AV}(q:cY cL s v=some (w,s'))(I:VI n0 st s bet F)(z:VC φ st s bet F)(ta:bM st.heap bet (KP s bet φ) (FP F φ) a v):aL2 n0 φ st bet F s a w s':=by
 obtain⟨F1,h1,vc1,h2,D⟩:=(aFc cL).2 q I z ta
 exact⟨F1,h1,vc1,h2.closed D,aD1 D⟩
theorem aYg{orc:cP}{pr:cN}(g':mR P pr orc){st:St}{s s':VS}{bet:Nat->Id×Nat}{F:Id->Prop}(I:VI n0 st s bet F)(z:VC φ st s bet F){f:bR9}{args:List TV}{aS:List AV}{v:TV}{l:List (Nat×Nat)}
  (ta:bM st.heap bet (KP s bet φ) (FP F φ) aS args) (q:vX orc f args s=some (v,s')) (H:∀p∈l,(∀x,φ x->¬(p.1<=x/\x<p.2))\/∃k,k<s.nxt/\p=((bet k).1.nat,(bet k).1.nat+1)/\(s'.ob k).how=0) (h':∀p∈l,p.2<=st.nxt.nat) (hφ:∀x,x<n0->φ x):
  ∃c d bet' F',dA n0 st s bet F (dU st d) s' bet' F'/\TR d.heap bet' (KP s' bet' (fun x=>φ x\/(st.nxt.nat<=x/\x<d.nxt.nat))) (FP F' (fun x=>φ x\/(st.nxt.nat<=x/\x<d.nxt.nat))) c v/\
   (∃N,∀n,N<=n->∀k,eN P pr f (cC P pr true n) aS (dR l st) k=k c d)/\
   (∀k,k<s.nxt->(s'.ob k).cs=(s.ob k).cs/\((s'.ob k).how≠2->(s.ob k).how≠2)/\((s'.ob k).how=0->(s.ob k).how=0))/\s.nxt<=s'.nxt/\
   (∀k,s.nxt<=k->k<s'.nxt->st.nxt.nat<=(bet' k).1.nat/\∃blk,Tr.find (bet' k).1 d.heap=some blk/\blk.cells.length=(bet' k).2/\bM d.heap bet' (KP s' bet' (fun x=>φ x\/(st.nxt.nat<=x/\x<d.nxt.nat))) (FP F' (fun x=>φ x\/(st.nxt.nat<=x/\x<d.nxt.nat))) blk.cells (s'.ob k).cs)/\
   st.nxt.nat<=d.nxt.nat/\∀id:Id,id.nat<st.nxt.nat->Tr.find id d.heap=Tr.find id st.heap:=by
 have q0:∃vs s1 R own,(aL2 n0 φ st bet F s aS vs s1/\mM s s1)/\orc f (cG vs)=some (R,own)/\(if own=true then nT R s1 else some (R,s1))=some (v,s'):=by
  unfold vX at q
  split at q
  ·simp only[dC,bJF]at q
   obtain⟨⟨vs,s1⟩,B,⟨R,own⟩,C,q⟩:=q
   exact⟨vs,s1,R,own,⟨aXn B I z ta,(aF0 cL).2 B⟩,C,q⟩
  ·simp only[aTv,bJF]at q
   obtain⟨⟨vs,s1⟩,B,⟨R,own⟩,C,q⟩:=q
   exact⟨vs,s1,R,own,⟨aMr B I z ta,aM6 B⟩,C,q⟩
 clear q
 obtain⟨vs,s1,R,own,⟨⟨F1,h1,p',h2,D⟩,g⟩,C,q⟩:=q0
 have u:=h1.inv
 have U:∀k,k<s.nxt->(s'.ob k).how=0->(s1.ob k).how=0:=fun k o hh=>by
  cases own with
  |false=>
   simp only[bJQ,if_false,bo,bp]at q
   rw[q.2];exact hh
  | true=>
   simp only[if_true]at q
   have r:s'=s1\/∃cs,s'=s1.new cs:=by
    unfold nT at q
    split at q
    ·cases q;exact .inl rfl
    ·split at q
     ·split at q
      ·cases q;exact .inr ⟨_,rfl⟩
      ·cases q
     ·split at q
      ·cases q;exact .inr ⟨_,rfl⟩
      ·cases q
     ·cases q
   rcases r with rfl|⟨cs,rfl⟩
   ·exact hh
   have L:k≠s1.nxt:=by rw[g.1];omega
   have this:∀cs,(s1.new cs).ob k=s1.ob k:=fun cs=>if_neg L
   rw[this]at hh;exact hh
 have i':=H
 have H:∀p∈l,∀id,FP F1 φ id->¬(p.1<=id.nat/\id.nat<p.2):=fun p hp id Q hh=>by
  rcases H p hp with h|⟨k,o,rfl,h0⟩
  ·exact h _ Q.2 hh
  ·have e:id=(bet k).1:=Id.nat_inj (by simp only at hh;omega)
   exact u.sep k (by rw[g.1];exact o) (U k o h0) (e ▸ Q.1)
 have V:(dR l st).ro=st.nxt.nat:=rfl
 have W:uH n0 (dR l st):=fun q hq=>by
  obtain⟨t1,t2,t3⟩:=u.tab q hq
  refine⟨t1,t2,aC6 t3 fun p hp hh=> ?_⟩
  rcases i' p hp with h|⟨k,o,rfl, -⟩
  ·exact h _ (hφ _ t1) hh
  ·have:=(I.rng k o).1
   simp only at hh;omega
 obtain⟨a,d,F',X,N,hN⟩:=g' f _ R own C (dR l st) aS (FP F1 φ) (aPU D) h2.nrm (fun id h=>u.lt id h.1) (fun id h=>aC6 (u.vis id h.1) fun p hp=>H p hp id h) (bLv V) (fun p hp=>by
  have hp:p∈rE l st.hid:=hp
  rw[vP,bKy]at hp
  rcases hp with hp|hp
  ·exact h' p hp
  ·exact bJH (u.hid p hp) u.low) (W.le u.low)
 have E:st.nxt.nat<=d.nxt.nat:=X.nx
 have hold:∀id:Id,id.nat<st.nxt.nat->Tr.find id d.heap=Tr.find id st.heap:=X.old
 have r:∀id,F' id->FP F1 φ id\/(st.nxt.nat<=id.nat/\id.nat<d.nxt.nat):=X.new
 cases own with
 | false=>
  simp only[bJQ,if_false,bo,bp]at q
  obtain⟨rfl,rfl⟩:=q
  have y:=u.call (st':=dU st d) (F':=fun id=>F1 id\/F' id) (fun id h=> .inl h) (fun id h=>h.elim .inl fun h=>(r id h).elim (fun h=> .inl h.1) .inr) hold rfl rfl E
  have A:Sb d.heap eF eI F' d.heap bet (KP s1 bet (fun x=>φ x\/(st.nxt.nat<=x/\x<d.nxt.nat))) (FP (fun id=>F1 id\/F' id) (fun x=>φ x\/(st.nxt.nat<=x/\x<d.nxt.nat))):=
   ⟨fun _ _=>rfl,fun id h=>⟨.inr h,(r id h).elim (fun h=> .inl h.2) .inr⟩,fun k o=>o.elim,fun k o=>o.elim⟩
  refine⟨a,d,bet,_,h1.trans y,(TR.mono A X.tr),⟨N,hN⟩,fun k _=>⟨(g.2 k).1,(g.2 k).2⟩,bLv g.1.symm,fun k K Y=>by rw[g.1]at Y;omega,E,hold⟩
 | true=>
  simp only[if_true]at q
  rcases X.own rfl with ⟨t,M,j'⟩|⟨M,sz,cs,id,len,cap,blk,al,tl,k',gt,g3,g4,Z,g6,g7,g8,g9,l'⟩
  ·simp only[nT,M,bo,bp]at q
   obtain⟨rfl,rfl⟩:=q
   have y:=u.call (st':=dU st d) (F':=fun id=>F1 id\/F' id) (fun id h=> .inl h) (fun id h=>h.elim .inl fun h=>(r id h).elim (fun h=> .inl h.1) .inr) hold rfl rfl E
   have A:Sb d.heap eF eI (fun i=>F' i/\(dR l st).nxt.nat<=i.nat) d.heap bet (KP s1 bet (fun x=>φ x\/(st.nxt.nat<=x/\x<d.nxt.nat))) (FP (fun id=>F1 id\/F' id) (fun x=>φ x\/(st.nxt.nat<=x/\x<d.nxt.nat))):=
    ⟨fun _ _=>rfl,fun id h=>⟨.inr h.1,(r id h.1).elim (fun h=> .inl h.2) .inr⟩,fun k o=>o.elim,fun k o=>o.elim⟩
   exact⟨a,d,bet,_,h1.trans y,j'.mono A,⟨N,hN⟩,fun k _=>⟨(g.2 k).1,(g.2 k).2⟩,bLv g.1.symm,fun k K Y=>by rw[g.1]at Y;omega,E,hold⟩
  have Z:st.nxt.nat<=id.nat:=Z
  have a':cs.length%sz=0:=by rw[←g3];exact Nat.mul_mod_left _ _
  obtain⟨rfl,b'⟩:=aOl k' M g4 a' q
  ·skip
   have y:=u.call (st':=dU st d) (F':=fun i=>F1 i\/(F' i/\i≠id)) (fun i h=> .inl h) (fun i h=>h.elim .inl fun h=>(r i h.1).elim (fun h=> .inl h.1) .inr) hold rfl rfl E
   have A:Sb d.heap eF eI (fun i=>F' i/\i≠id) d.heap bet s1.dom (fun i=>F1 i\/(F' i/\i≠id)):=⟨fun _ _=>rfl,fun i h=> .inr h,fun k o=>o.elim,fun k o=>o.elim⟩
   have O:¬(F1 id\/(F' id/\id≠id)):=fun h=>h.elim (fun h=>by have:=u.lt id h;omega) fun h=>h.2 rfl
   have m':∀k,k<s1.nxt->(bet k).1≠id:=fun k o e=>by have:=(u.rng k o).2;rw[e]at this;omega
   have n':=y.inv.adopt (id:=id) (blk:=blk) (cs:=cs) O m' (bJH u.low Z) g6 g7 (g9.mono A)
   have c':cs.length/sz=len:=by rw[←g3,bL0 _ g4]
   have G:(gS bet s1.nxt (id,blk.cells.length) s1.nxt)=(id,blk.cells.length):=iT _ _ _
   refine⟨a,d,_,_,(h1.trans y).trans n', ?_,⟨N,hN⟩,fun k o=> ?_,bJH (bLv g.1.symm) (Nat.le_succ _),fun k K Y=> ?_,E,hold⟩
   ·rw[c']at b'
    have:=TR.ow (h:=d.heap) (bet:=gS bet s1.nxt (id,blk.cells.length)) (nx:=KP (s1.new cs) (gS bet s1.nxt (id,blk.cells.length)) (fun x=>φ x\/(st.nxt.nat<=x/\x<d.nxt.nat))) (F:=FP (fun i=>F1 i\/(F' i/\i≠id)) (fun x=>φ x\/(st.nxt.nat<=x/\x<d.nxt.nat))) (k:=s1.nxt) (off:=0) (len:=len) (cap:=cap) (sz:=sz)
     ⟨bJT _,by rw[G];exact .inr ⟨Z,g6⟩⟩ (fun c hc=>by rw[G];have:=l' c hc;exact⟨this.1,by show 0+c*sz=blk.cells.length;omega⟩)
    rw[G]at this
    rcases b' with ⟨rfl,T⟩|⟨rfl,T⟩
    ·rw[T];exact this
    ·rw[T]
     exact .tp (.cons this (gt.mono ⟨fun _ _=>rfl,fun i h=>⟨.inr h,(r i h.1).elim (fun h=> .inl h.2) .inr⟩,fun k o=>o.elim,fun k o=>o.elim⟩))
   ·have L:k≠s1.nxt:=by rw[g.1];omega
    have:(s1.new cs).ob k=s1.ob k:=if_neg L
    rw[this]
    exact⟨(g.2 k).1,(g.2 k).2⟩
   ·obtain rfl:k=s1.nxt:=by rw[g.1];have:k<s1.nxt+1:=Y;rw[g.1]at this;omega
    refine⟨by rw[G];exact Z,blk,by rw[G];exact g7,by rw[G], ?_⟩
    have o':((s1.new cs).ob s1.nxt).cs=cs:=by show(if s1.nxt=s1.nxt then(⟨0,cs⟩:Ob)else s1.ob s1.nxt).cs=cs;rw[if_pos rfl]
    rw[o']
    exact g9.mono ⟨fun _ _=>rfl,fun i h=>⟨.inr h,(r i h.1).elim (fun h=> .inl h.2) .inr⟩,fun k o=>o.elim,fun k o=>o.elim⟩
end
end
theorem aML{p:Nat×Nat}:∀(us:List Bool) (rs:List dM) (b:List (Nat×Nat)),p∈cH us rs b->p∈b\/∃(k:Nat) (r:dM),us[k]? =some true/\rs[k]? =some r/\(p∈r.wr\/(p=(r.n0,r.n1)/\r.n0<r.n1))
 | [],rs,b,h=> .inl h
 |u::us,[],b,h=> .inl h
 | u ::us,r::rs,b,h=>by
  have h:p∈(Bool.rec (cH us rs b) (wW r (cH us rs b)) u:List (Nat×Nat)):=h
  have ih:=aML (p:=p) us rs b
  have lift:(p∈b\/∃(k:Nat) (r:dM),us[k]? =some true/\rs[k]? =some r/\(p∈r.wr\/(p=(r.n0,r.n1)/\r.n0<r.n1)))->p∈b\/∃(k:Nat) (a:dM),(u::us)[k]? =some true/\(r::rs)[k]? =some a/\(p∈a.wr\/(p=(a.n0,a.n1)/\a.n0<a.n1)):=by
   rintro(h|⟨k,a,h1,h2,g⟩)
   ·exact .inl h
   ·exact .inr ⟨k+1,a,by simpa using h1,by simpa using h2,g⟩
  cases u with
  |false=>exact lift (ih h)
  | true=>
   have h:p∈rE r.wr (Bool.rec ((r.n0,r.n1)::cH us rs b) (cH us rs b) (Nat.ble r.n1 r.n0)):=h
   rw[vP,bKy]at h
   rcases h with h|h
   ·exact .inr ⟨0,r,rfl,rfl,.inl h⟩
   ·cases c:Nat.ble r.n1 r.n0 with
    |true=>rw[c]at h;exact lift (ih h)
    | false=>
     rw[c]at h
     rcases bJZ.1 h with rfl|h
     ·refine .inr ⟨0,r,rfl,rfl,.inr ⟨rfl, ?_⟩⟩
      rcases bJS r.n0 r.n1 with h1|h1
      ·exact h1
      ·rw[eK h1]at c;cases c
     ·exact lift (ih h)
theorem aKp{x:Id}:∀(us:List Bool) (rs:List dM),(∀(k:Nat) (r:dM),us[k]? =some true->rs[k]? =some r->x.nat<r.n0/\r.wild=false\/r.n0<=x.nat/\r.n1<=x.nat)->oW x us rs=true
 | [],rs,_=>rfl
 |u::us,[],_=>rfl
 | u ::us,r::rs,h=>by
  have ih:=aKp us rs fun k a h1 h2=>h (k+1) a (by simpa using h1) (by simpa using h2)
  show(Bool.rec (oW x us rs) (Bool.rec false (oW x us rs) (aAP x r)) u:Bool)=true
  cases u with
  |false=>exact ih
  | true=>
   have:aAP x r=true:=by
    unfold aAP
    rcases h 0 r rfl rfl with ⟨h1,h2⟩|⟨h1,h2⟩
    ·rw[h2,eK (show Nat.succ x.nat<=r.n0 from h1)]
    ·cases c:Nat.ble (Nat.succ x.nat) r.n0 with
     |true=>have:=bJP c;omega
     |false=>exact eK h2
   rw[this];exact ih
theorem aRK{n:Nat}:∀(us:List Bool) (rs:List dM),(∀(k:Nat) (r:dM),us[k]? =some true->rs[k]? =some r->r.n0<=n\/mP n r.hid=true)->rK n us rs=true
 | [],rs,_=>rfl
 |u::us,[],_=>rfl
 | u::us,r::rs,h=>by
  have ih:=aRK us rs fun k a h1 h2=>h (k+1) a (by simpa using h1) (by simpa using h2)
  show(Bool.rec (rK n us rs) (Bool.rec (Bool.rec false (rK n us rs) (mP n r.hid)) (rK n us rs) (Nat.ble r.n0 n)) u:Bool)=true
  cases u with
  |false=>exact ih
  | true=>
   cases c:Nat.ble r.n0 n with
   |true=>exact ih
   |false=>
    rcases h 0 r rfl rfl with h1|h1
    ·rw[eK h1]at c;cases c
    ·rw[h1];exact ih
theorem aQw{h0 h1:Tr}:∀(us:List Bool) (rs:List dM),(∀(k:Nat) (r:dM),us[k]? =some true->rs[k]? =some r->r.rd=none)->lD h0 h1 us rs=true
 | [],rs,_=>rfl
 |u::us,[],_=>rfl
 |u::us,r::rs,h=>by
  have ih:=aQw (h0:=h0) (h1:=h1) us rs fun k a h1 h2=>h (k+1) a (by simpa using h1) (by simpa using h2)
  show(Bool.rec (lD h0 h1 us rs) (Bool.rec (lD h0 h1 us rs) (Option.rec (lD h0 h1 us rs) (fun x=>Bool.rec false (lD h0 h1 us rs) (sW (Tr.find x h0) (Tr.find x h1))) r.rd) true) u:Bool)=true
  cases u with
  |false=>exact ih
  |true=>rw[h 0 r rfl rfl];exact ih
theorem aAn{f:VR->Bool}:∀(us:List Bool) (l:List VR),(jL us l).all f=true->∀(k:Nat) (x:VR),us[k]? =some true->l[k]? =some x->f x=true
 | [],l,_,k,x,h1,_=>by simp at h1
 |u::us,[],_,k,x,_,h2=>by simp at h2
 | u::us,y::l,h,k,x,h1,h2=>by
  unfold jL at h
  cases k with
  |zero=>
   simp only[bMF,bo]at h1 h2
   subst h1 h2
   simp only[if_true,bKK,bJI]at h
   exact h.1
  |succ k=>
   simp only[bM7]at h1 h2
   refine aAn us l ?_ k x h1 h2
   cases u with
   |false=>simpa using h
   |true=>simp only[if_true,bKK,bJI]at h;exact h.2
theorem rZ{n:Nat}:∀ {l:List (Nat×Nat)} {p:Nat×Nat},p∈l->p.1<=n->n<p.2->mP n l=true
 | q::l,p,h,h1,h2=>by
  show(Bool.rec (mP n l) (Bool.rec true (mP n l) (Nat.ble q.2 n)) (Nat.ble q.1 n):Bool)=true
  rcases bJZ.1 h with rfl|h
  ·rw[eK h1,aBC h2]
  ·have ih:=rZ h h1 h2
   cases Nat.ble q.1 n with
   |false=>exact ih
   |true=>cases Nat.ble q.2 n with
    |false=>rfl
    |true=>exact ih
theorem aIc{V:aT}:∀(d:List Nat) (L:aT) (t:Nat),(dS d L).look V t=if d.elem t then none else L.look V t
 | [],L,t=>rfl
 |s::d,L,t=>by
  show(if s=t then none else(dS d L).look V t)=_
  rw[aIc d L t,bN5]
  by_cases e:t=s
  ·subst e;simp
  ·rw[if_neg (fun h=>e h.symm),show(t==s)=false from by simpa using e]
theorem aD4{p:Nat×Nat}:∀(us:List Bool) (rs:List dM) (b:List (Nat×Nat)),p∈b->p∈cH us rs b
 | [],rs,b,h=>h
 |u::us,[],b,h=>h
 | u::us,r::rs,b,h=>by
  have ih:=aD4 us rs b h
  show p∈(Bool.rec (cH us rs b) (wW r (cH us rs b)) u:List (Nat×Nat))
  cases u with
  |false=>exact ih
  |true=>
   show p∈rE r.wr (Bool.rec ((r.n0,r.n1)::cH us rs b) (cH us rs b) (Nat.ble r.n1 r.n0))
   rw[vP,bKy]
   right
   cases Nat.ble r.n1 r.n0 with
   |true=>exact ih
   |false=>exact .tail _ ih
section
def gE(c:List bRa)(N:Nat->Nat)(i x:Nat):Prop:=x<N 0\/∃m,nG c m i/\N m<=x/\x<N (m+1)
def FN(c:List bRa)(N:Nat->Nat)(j x:Nat):Prop:=x<N 0\/∃m,(m=j\/nG c m j)/\N m<=x/\x<N (m+1)
def jO(N:Nat->Nat)(x:Nat):Prop:=x<N 0
theorem gE.of_old{c:List bRa}{N:Nat->Nat}{i x:Nat}(h:jO N x):gE c N i x:= .inl h
theorem FN.seen{c:List bRa}(u:eS c=true){N:Nat->Nat}{i j x:Nat}(D:i<c.length)(h:nG c j i)(k:FN c N j x):gE c N i x:=
 k.imp id fun⟨m,h1,h2⟩=>⟨m,h1.elim (fun e=>e ▸ h) (aWg u D h),h2⟩
def RX(s:VS)(bet:Nat->Id×Nat)(F:Id->Prop)(R:dM):VR->Prop
 | .q=>R.wr=[]/\R.wild=false/\R.rd=none/\∀x,x<R.n0->mP x R.hid=true
 | .ld k=>R.wr=[]/\R.wild=false/\∃id:Id,R.rd=some id/\(∀l,k=some l->l<s.nxt/\id=(bet l).1)/\(k=none->F id)/\∀x,x<R.n0->x≠id.nat->mP x R.hid=true
 | .cl ad=>R.wr=[]/\R.wild=false/\R.rd=none/\∀k∈ad,mP (bet k).1.nat R.hid=true
 | .tt=>R.wr=[]/\R.rd=none
 | .st k ad=>k<s.nxt/\R.wr=[((bet k).1.nat,(bet k).1.nat+1)]/\R.rd=none/\∀k∈ad,mP (bet k).1.nat R.hid=true
def VR.within(n:Nat):VR->Prop
 | .cl ad=>∀k∈ad,k<n
 | .st _ ad=>∀k∈ad,k<n
 |_=>True
theorem RX.mono{s s':VS}{bet bet':Nat->Id×Nat}{F F':Id->Prop}{R:dM}{x:VR}(hn:s.nxt<=s'.nxt)(A:∀k,k<s.nxt->bet' k=bet k)(B:∀id,F id->F' id)(H:x.within s.nxt)(h:RX s bet F R x):RX s' bet' F' R x:=by
 cases x with
 |q=>exact h
 |tt=>exact h
 |ld k=>
  obtain⟨h1,h2,id,I,J,K,M⟩:=h
  exact⟨h1,h2,id,I,fun l e=>by obtain⟨g1,g2⟩:=J l e;exact⟨bJK g1 hn,by rw[A l g1];exact g2⟩,fun e=>B _ (K e),M⟩
 |cl ad=>exact⟨h.1,h.2.1,h.2.2.1,fun k p=>by rw[A k (H k p)];exact h.2.2.2 k p⟩
 |st k ad=>
  refine⟨bJK h.1 hn,by rw[A k h.1];exact h.2.1,h.2.2.1,fun l p=>by rw[A l (H l p)];exact h.2.2.2 l p⟩
structure OI(c:List bRa)(n0:Nat)(f:St)(w:VS)(y:Nat->Id×Nat)(F0:Id->Prop)(V:aT)(i:Nat)(N:Nat->Nat)(st:St)(s:VS)(bet:Nat->Id×Nat)(F:Id->Prop)(L:aT)(r:bB)(b:VO)(recs:List dM):Prop where
 step:dA n0 f w y F0 st s bet F
 n_0:N 0=f.nxt.nat
 low0:n0<=f.nxt.nat
 n_i:N i=st.nxt.nat
 mono:∀j,j<i->N j<=N (j+1)
 slot:∀t v,r t=some v->∃a,L.look V t=some a/\((t ∉ b.new/\TR st.heap bet (KP s bet (jO N)) (FP F (jO N)) a v)\/
  t∈b.new/\∃j,j<i/\(∃o,c[j]? =some o/\o.dst=some t)/\TR st.heap bet (KP s bet (FN c N j)) (FP F (FN c N j)) a v)
 has:sQ L (c.take i)
 cln:b.clean=true->∀k,k<s.nxt->(s.ob k).how≠2->∃φ,(((bet k).1.nat<N 0/\φ=jO N)\/∃j,j<i/\N j<=(bet k).1.nat/\(bet k).1.nat<N (j+1)/\φ=FN c N j)/\
  ∃blk,Tr.find (bet k).1 st.heap=some blk/\blk.cells.length=(bet k).2/\bM st.heap bet (KP s bet φ) (FP F φ) blk.cells (s.ob k).cs
 len:recs.length=i
 blen:b.recs.length=i
 note:∀j,j<i->∃R x,recs[i-1-j]? =some R/\b.recs[i-1-j]? =some x/\R.n0=N j/\R.n1=N (j+1)/\x.within s.nxt/\RX s bet F R x/\(b.clean=true->∀k ad,x≠ .st k ad)
section
variable {c:List bRa}{n0:Nat}{f:St}{w:VS}{y:Nat->Id×Nat}{F0:Id->Prop}{V:aT}{i:Nat}{N:Nat->Nat}{st:St}{s:VS}{bet:Nat->Id×Nat}{F:Id->Prop}{L:aT}{r:bB}{b:VO}{recs:List dM}
theorem OI.le(h:OI c n0 f w y F0 V i N st s bet F L r b recs):∀ {j m:Nat},j<=m->m<=i->N j<=N m:=by
 intro j m O T
 induction m with
 |zero=>
  have e:j=0:=by omega
  rw[e];exact bJE _
 |succ m ih=>
  by_cases e:j=m+1
  ·rw[e];exact bJE _
  ·exact bJH (ih (by omega) (by omega)) (h.mono m (by omega))
theorem mC{φ ψ:Nat->Prop}(h:∀x,φ x->ψ x)(hh:Tr):Sb hh bet (KP s bet φ) (FP F φ) hh bet (KP s bet ψ) (FP F ψ):=⟨fun _ _=>rfl,fun _ B=>⟨B.1,h _ B.2⟩,fun _ p=>⟨p.1,h _ p.2⟩,fun _ _=>rfl⟩
abbrev bJ(c:List bRa)(i:Nat):gQ:=iD true c (dL c []) i
theorem OI.seen(h:OI c n0 f w y F0 V i N st s bet F L r b recs)(u:eS c=true)(D:i<c.length):ER st.heap bet (KP s bet (gE c N i)) (FP F (gE c N i)) (dS (bJ c i).del L) V (dY (bJ c i).del r):=by
 intro t v g
 unfold dY at g
 split at g
 ·cases g
 ·next C=>
  obtain⟨a,h1,h2⟩:=h.slot t v g
  refine⟨a,by rw[aIc,if_neg C];exact h1, ?_⟩
  rcases h2 with ⟨_,h2⟩|⟨_,j,P,⟨o,Q,z⟩,h2⟩
  ·exact h2.mono (mC (fun x hx=>gE.of_old hx) _)
  ·have E:nG c j i:=by
    rw[←aMq P]
    cases S:gC (dL c []) j i with
    |true=>rfl
    |false=>exact absurd (bKL.2 (aJw (ext:=true) Q (by omega) S z)) C
   exact h2.mono (mC (fun x hx=>FN.seen u D E hx) _)
theorem OI.olds(h:OI c n0 f w y F0 V i N st s bet F L r b recs)(d:List Nat):ER st.heap bet (KP s bet (jO N)) (FP F (jO N)) (dS d L) V (dY b.new (dY d r)):=by
 intro t v g
 unfold dY at g
 split at g
 ·cases g
 ·next hn=>
  split at g
  ·cases g
  ·next C=>
   obtain⟨a,h1,h2⟩:=h.slot t v g
   refine⟨a,by rw[aIc,if_neg C];exact h1, ?_⟩
   rcases h2 with ⟨_,h2⟩|⟨G,_⟩
   ·exact h2
   ·exact absurd (bKL.2 G) hn
end
end
section
def Nx(N:Nat->Nat)(i n:Nat):Nat->Nat:=fun j=>if j<=i then N j else n
theorem lP{N:Nat->Nat}{i n j:Nat}(h:j<=i):Nx N i n j=N j:=if_pos h
theorem aDF{N:Nat->Nat}{i n:Nat}:Nx N i n (i+1)=n:=if_neg (by omega)
section
variable {f:List bRa}{n0:Nat}{K:St}{s0:VS}{b0:Nat->Id×Nat}{F0:Id->Prop}{V:aT}{i:Nat}{N:Nat->Nat}{st st':St}{s s':VS}{bet bet':Nat->Id×Nat}{F F':Id->Prop}{L:aT}{r:bB}{b b':VO}{recs:List dM}
theorem aAo{n x:Nat}(h:jO N x):jO (Nx N i n) x:=by unfold jO;rw[lP (bJJ _)];exact h
theorem aR2(u:eS f=true){n j x:Nat}(J:j<i)(U:i<=f.length)(h:FN f N j x):FN f (Nx N i n) j x:=by
 rcases h with h|⟨m,hm,h1,h2⟩
 ·exact .inl (aAo h)
 ·have W:m<=j:=by
   rcases hm with rfl|hm
   ·exact bJE _
   ·exact bKb (aFB u (by omega) hm)
  exact .inr ⟨m,hm,by rw[lP (by omega)];exact h1,by rw[lP (by omega)];exact h2⟩
theorem aDh(u:eS f=true){n x:Nat}(U:i<f.length)(h:gE f N i x):FN f (Nx N i n) i x:=by
 rcases h with h|⟨m,hm,h1,h2⟩
 ·exact .inl (aAo h)
 ·have W:=aFB u U hm
  exact .inr ⟨m,.inr hm,by rw[lP (by omega)];exact h1,by rw[lP (by omega)];exact h2⟩
theorem aIK{n x:Nat}(h1:N i<=x)(h2:x<n):FN f (Nx N i n) i x:= .inr ⟨i,.inl rfl,by rw[lP (bJE _)];exact h1,by rw[aDF];exact h2⟩
theorem aCy{φ ψ:Nat->Prop}(h:dA n0 st s bet F st' s' bet' F')(hφ:∀x,φ x->ψ x):Sb st.heap bet (KP s bet φ) (FP F φ) st'.heap bet' (KP s' bet' ψ) (FP F' ψ):=
 ⟨fun id Q=>h.sb.fix id Q.1,fun id Q=>⟨h.sb.sub id Q.1,hφ _ Q.2⟩,fun k z=>⟨h.sb.nle k z.1,by rw[h.sb.beq k z.1];exact hφ _ z.2⟩,fun k z=>h.sb.beq k z.1⟩
def aHk(φ:Nat->Prop)(st st':St)(s s':VS)(bet':Nat->Id×Nat)(F':Id->Prop):Prop:=
 ∀k,s.nxt<=k->k<s'.nxt->(s'.ob k).how≠2->st.nxt.nat<=(bet' k).1.nat/\∃blk,Tr.find (bet' k).1 st'.heap=some blk/\blk.cells.length=(bet' k).2/\bM st'.heap bet' (KP s' bet' φ) (FP F' φ) blk.cells (s'.ob k).cs
def aHd(st st':St)(s s':VS)(bet:Nat->Id×Nat):Prop:=
 ∀k,k<s.nxt->(s'.ob k).how≠2->(s.ob k).how≠2/\(s'.ob k).cs=(s.ob k).cs/\Tr.find (bet k).1 st'.heap=Tr.find (bet k).1 st.heap
theorem OI.next(h:OI f n0 K s0 b0 F0 V i N st s bet F L r b recs)(u:eS f=true){o:bRa}(X:f[i]? =some o){v:TV}{a:AV}{R:dM}{x:VR}(g:dA n0 st s bet F st' s' bet' F')
  (hv:(b'.new=b.new/\TR st'.heap bet' (KP s' bet' (jO N)) (FP F' (jO N)) a v)\/(b'.new=o.dst.toList++b.new/\TR st'.heap bet' (KP s' bet' (FN f (Nx N i st'.nxt.nat) i)) (FP F' (FN f (Nx N i st'.nxt.nat) i)) a v))
  (Y:b'.clean=true->b.clean=true/\aHd st st' s s' bet/\aHk (FN f (Nx N i st'.nxt.nat) i) st st' s s' bet' F')
  (A:b'.recs=x::b.recs) (h0:R.n0=st.nxt.nat) (h1:R.n1=st'.nxt.nat) (Z:x.within s'.nxt) (hx:RX s' bet' F' R x) (a':b'.clean=true->∀k ad,x≠ .st k ad) (M:b'.clean=true->b.clean=true):
  OI f n0 K s0 b0 F0 V (i+1) (Nx N i st'.nxt.nat) st' s' bet' F' (gA o.dst a L) (iR o.dst v r) b' (R::recs):=by
 have U:i<f.length:=(bKv.1 X).1
 refine⟨h.step.trans g,by rw[lP (bJJ _)];exact h.n_0,h.low0,aDF,fun j J=> ?_,fun t w B=> ?_, ?_,fun hc k z hh=> ?_,by simp [h.len],by rw[A];simp [h.blen],fun j J=> ?_⟩
 ·by_cases e:j=i
  ·subst e;rw[lP (bJE _),aDF,h.n_i];exact g.nx
  ·rw[lP (by omega),lP (by omega)];exact h.mono j (by omega)
 ·by_cases e:o.dst=some t
  ·rw[e]at B ⊢
   have Z:w=v:=by simp only[iR,bB.upd,if_true,bo]at B;exact B.symm
   subst Z
   refine⟨a,by show(if t=t then some a else L.look V t)=some a;rw[if_pos rfl], ?_⟩
   have O:∀ {φ:Nat->Prop},(∀y,φ y->FN f (Nx N i st'.nxt.nat) i y)->TR st'.heap bet' (KP s' bet' φ) (FP F' φ) a w->∃j,j<i+1/\(∃o,f[j]? =some o/\o.dst=some t)/\TR st'.heap bet' (KP s' bet' (FN f (Nx N i st'.nxt.nat) j)) (FP F' (FN f (Nx N i st'.nxt.nat) j)) a w:=fun p ha=>⟨i,by omega,⟨o,X,e⟩,ha.mono (mC p _)⟩
   rcases hv with ⟨l,h2⟩|⟨l,h2⟩
   ·by_cases P:t∈b.new
    ·exact .inr ⟨by rw[l];exact P,O (fun y p=> .inl (aAo p)) h2⟩
    ·exact .inl ⟨by rw[l];exact P,h2.mono (mC (fun y p=>aAo p) _)⟩
   ·exact .inr ⟨by rw[l,e];simp,O (fun y p=>p) h2⟩
  ·have B:r t=some w:=by
    cases D:o.dst with
    |none=>rw[D]at B;exact B
    |some d=>
     rw[D]at B e
     have e:t≠d:=fun h=>e (by rw[h])
     simpa only[iR,bB.upd,if_neg e]using B
   obtain⟨c,g1,g2⟩:=h.slot t w B
   refine⟨c, ?_, ?_⟩
   ·cases D:o.dst with
    |none=>exact g1
    |some d=>
     rw[D]at e
     have e:d≠t:=fun h=>e (by rw[h])
     show(if d=t then some a else L.look V t)=some c
     rw[if_neg e];exact g1
   ·have E:t∈b'.new↔t∈b.new:=by
     rcases hv with ⟨l,_⟩|⟨l,_⟩
     ·rw[l]
     ·rw[l]
      cases D:o.dst with
      |none=>simp
      |some d=>
       rw[D]at e
       have e:t≠d:=fun h=>e (by rw[h])
       simp [e]
    rcases g2 with ⟨k1,k2⟩|⟨k1,j,J,k2,k3⟩
    ·exact .inl ⟨fun h=>k1 (E.1 h),k2.mono (aCy g fun y p=>aAo p)⟩
    ·exact .inr ⟨E.2 k1,j,by omega,k2,k3.mono (aCy g fun y p=>aR2 u J (by omega) p)⟩
 ·have:=h.has.put o a
  intro o' G d D
  refine this o' ?_ d D
  rw[List.take_add_one,X]at G
  simp only[Option.toList_some,bKy,bKF]at G
  rcases G with h|h
  ·exact .tail _ h
  ·rw[h];exact .head _
 ·obtain⟨c1,c2,c3⟩:=Y hc
  by_cases H:k<s.nxt
  ·obtain⟨d1,d2,d3⟩:=c2 k H hh
   obtain⟨φ,hφ,blk,l,S,T⟩:=h.cln c1 k H d1
   have hb:bet' k=bet k:=g.sb.beq k H
   rw[hb,d2]
   rcases hφ with ⟨f1,rfl⟩|⟨j,J,f1,f2,rfl⟩
   ·refine⟨_,.inl ⟨by rw[lP (bJJ _)];exact f1,rfl⟩,blk,d3.trans l,S,T.mono (aCy g fun y p=>aAo p)⟩
   ·refine⟨_,.inr ⟨j,by omega,by rw[lP (by omega)];exact f1,by rw[lP (by omega)];exact f2,rfl⟩,blk,d3.trans l,S,T.mono (aCy g fun y p=>aR2 u J (by omega) p)⟩
  ·obtain⟨d1,blk,l,S,T⟩:=c3 k (by omega) z hh
   have:=(g.inv.rng k z).2
   exact⟨_,.inr ⟨i,by omega,by rw[lP (bJE _),h.n_i];exact d1,by rw[aDF];exact this,rfl⟩,blk,l,S,T⟩
 ·by_cases e:j=i
  ·subst e
   refine⟨R,x,by simp,by rw[A];simp,by rw[lP (bJE _),h.n_i,h0],by rw[aDF,h1],Z,hx,a'⟩
  ·obtain⟨R',x',g1,g2,g3,g4,g5,g6,g7⟩:=h.note j (by omega)
   have l:i+1-1-j=(i-1-j)+1:=by omega
   have c':x'.within s'.nxt:=by
    have C:s.nxt<=s'.nxt:=bLG fun I=>by
     have:=g.sb.nle s'.nxt I
     exact bKl _ this
    cases x' with
    |cl ad=>exact fun k z=>bJK (g5 k z) C
    |st _ ad=>exact fun k z=>bJK (g5 k z) C
    |q=>trivial
    |ld _=>trivial
    |tt=>trivial
   have C:s.nxt<=s'.nxt:=bLG fun I=>by
    have:=g.sb.nle s'.nxt I
    exact bKl _ this
   refine⟨R',x',by rw[l,bM7];exact g1,by rw[A,l,bM7];exact g2,by rw[g3,lP (by omega)],by rw[g4,lP (by omega)],c',RX.mono C g.sb.beq g.sb.sub g5 g6,fun hc=>g7 (M hc)⟩
end
end
section
theorem aIl(st:St)(l:List (Nat×Nat)):dU st (dR l st)=st:=by cases st;rfl
theorem aZx(st:St)(l:List (Nat×Nat)):dU st (eB l st)=st:=by cases st;rfl
theorem aXv(st:St)(l:List (Nat×Nat))(b:cK):dU st ((dR l st).new b)=st.new b:=by cases st;rfl
theorem aXi(st:St)(l:List (Nat×Nat))(b:cK):dU st ((eB l st).new b)=st.new b:=by cases st;rfl
theorem aC9(st:St)(l:List (Nat×Nat)):(dR l st).nxt=st.nxt:=by cases st;rfl
theorem aDB(st:St)(l:List (Nat×Nat)):(eB l st).nxt=st.nxt:=by cases st;rfl
theorem aIW(st:St)(l:List (Nat×Nat)):(dR l st).heap=st.heap:=by cases st;rfl
theorem aBI(st:St)(l:List (Nat×Nat)):(eB l st).heap=st.heap:=by cases st;rfl
theorem bI3{c:List bRa}{i k:Nat}(w:(bJ c i).un[k]? =some true):k<i/\gC (dL c []) (i-1-k) i=false:=by
 have w:((bKj i).reverse.map fun j=> !gC (dL c []) j i)[k]? =some true:=w
 rw[List.getElem?_map,bJG]at w
 obtain⟨j,h1,h2⟩:=w
 obtain⟨d,g⟩:=bKv.1 h1
 rw[List.length_reverse,bMB]at d
 rw[List.getElem_reverse,List.getElem_range,bMB]at g
 subst g
 exact⟨d,by simpa using h2⟩
section
variable {c:List bRa}{n0:Nat}{n:St}{z:VS}{A:Nat->Id×Nat}{F0:Id->Prop}{V:aT}{i:Nat}{N:Nat->Nat}{st st':St}{s s':VS}{bet bet':Nat->Id×Nat}{F F':Id->Prop}{L:aT}{r:bB}{b b':VO}{recs:List dM}
theorem OI.at(h:OI c n0 n z A F0 V i N st s bet F L r b recs){k:Nat}{R:dM}(w:(bJ c i).un[k]? =some true)(O:recs[k]? =some R):
  ∃(j:Nat) (x:VR),j<i/\k=i-1-j/\¬nG c j i/\b.recs[k]? =some x/\R.n0=N j/\R.n1=N (j+1)/\x.within s.nxt/\RX s bet F R x/\(b.clean=true->∀k ad,x≠ .st k ad):=by
 obtain⟨hk,H⟩:=bI3 w
 obtain⟨R',x,g1,g2,g3⟩:=h.note (i-1-k) (by omega)
 have e:i-1-(i-1-k)=k:=by omega
 rw[e]at g1 g2
 rw[O]at g1
 cases g1
 exact⟨i-1-k,x,by omega,e.symm,fun B=>(by rw[(aMq (by omega)).2 B]at H;cases H),g2,g3⟩
theorem aIA(h:OI c n0 n z A F0 V i N st s bet F L r b recs)(f:eS c=true)(o:i<c.length){j x:Nat}(Y:j<i)(B:¬nG c j i)(hs:gE c N i x):¬(N j<=x/\x<N (j+1)):=by
 rintro⟨h1,h2⟩
 rcases hs with hs|⟨m,I,d,g⟩
 ·have:=h.le (bJJ j) (by omega)
  omega
 ·have P:=aFB f o I
  rcases Nat.lt_trichotomy m j with e|e|e
  ·have:=h.le (show m+1<=j from e) (by omega)
   omega
  ·subst e;exact B I
  ·have:=h.le (show j+1<=m from e) (by omega)
   omega
theorem OI.hidden(h:OI c n0 n z A F0 V i N st s bet F L r b recs)(f:eS c=true)(o:i<c.length){ah:List (Nat×Nat)}{p:Nat×Nat}(hp:p∈cH (bJ c i).un recs ah):
  p∈ah\/(∀x,gE c N i x->¬(p.1<=x/\x<p.2))\/∃(k:Nat) (R:dM) (x:VR),(bJ c i).un[k]? =some true/\recs[k]? =some R/\b.recs[k]? =some x/\p∈R.wr/\RX s bet F R x/\(b.clean=true->∀k ad,x≠ .st k ad):=by
 rcases aML _ _ _ hp with hp|⟨k,R,h1,h2,d⟩
 ·exact .inl hp
 ·obtain⟨j,x,g1,g2,g3,g4,J,u,Q,S,T⟩:=h.at h1 h2
  rcases d with d|⟨rfl,d⟩
  ·exact .inr (.inr ⟨k,R,x,h1,h2,g4,d,S,T⟩)
  ·exact .inr (.inl fun x hx=>by simp only[J,u];exact aIA h f o g1 g3 hx)
theorem aPH{R:dM}{x:VR}(h:RX s bet F R x)(hc:∀k ad,x≠ .st k ad):R.wr=[]:=by
 cases x with
 |st k ad=>exact absurd rfl (hc k ad)
 |q=>exact h.1
 |ld k=>exact h.1
 |cl ad=>exact h.1
 |tt=>exact h.1
theorem OI.hid_clean(h:OI c n0 n z A F0 V i N st s bet F L r b recs)(f:eS c=true)(o:i<c.length)(hc:b.clean=true){ah:List (Nat×Nat)}{p:Nat×Nat}(hp:p∈cH (bJ c i).un recs ah):
  p∈ah\/(∀x,gE c N i x->¬(p.1<=x/\x<p.2)):=by
 rcases h.hidden f o hp with hp|hp|⟨k,R,x,h1,h2,d,g,C,K⟩
 ·exact .inl hp
 ·exact .inr hp
 ·rw[aPH C (K hc)]at g;cases g
theorem OI.hid_q(h:OI c n0 n z A F0 V i N st s bet F L r b recs)(f:eS c=true)(o:i<c.length)(hq:(jL (bJ c i).un b.recs).all VR.isQ=true){ah:List (Nat×Nat)}{p:Nat×Nat}(hp:p∈cH (bJ c i).un recs ah):
  p∈ah\/(∀x,gE c N i x->¬(p.1<=x/\x<p.2)):=by
 rcases h.hidden f o hp with hp|hp|⟨k,R,x,h1,h2,d,g,C,K⟩
 ·exact .inl hp
 ·exact .inr hp
 ·have:=aAn _ _ hq k x h1 d
  rw[aPH C (fun k ad e=>by rw[e]at this;cases this)]at g;cases g
theorem OI.hid_bound(h:OI c n0 n z A F0 V i N st s bet F L r b recs){ah:List (Nat×Nat)}(D:∀p∈ah,p.2<=st.nxt.nat):∀p∈cH (bJ c i).un recs ah,p.2<=st.nxt.nat:=by
 refine aLY _ _ _ (fun R U=> ?_) D
 obtain⟨k,hk,e⟩:=List.getElem_of_mem U
 obtain⟨R',x,g1,g2,g3,g4,J,u,Q⟩:=h.note (i-1-k) (by have:=h.len;omega)
 have W:i-1-(i-1-k)=k:=by have:=h.len;omega
 rw[W,List.getElem?_eq_getElem hk,e]at g1
 cases g1
 have E:N (i-1-k+1)<=st.nxt.nat:=by rw[←h.n_i];exact h.le (by have:=h.len;omega) (bJE _)
 refine⟨by rw[g4];exact E,fun p hp=> ?_⟩
 cases x with
 |st X ad=>
  obtain⟨k1,k2,_⟩:=u
  rw[k2]at hp
  rw[bKF.1 hp]
  exact(h.step.inv.rng X k1).2
 |q=>rw[u.1]at hp;cases hp
 |ld k=>rw[u.1]at hp;cases hp
 |cl ad=>rw[u.1]at hp;cases hp
 |tt=>rw[u.1]at hp;cases hp
theorem aEb{e:bB}(M:ER st.heap bet s.dom F .nil V e):∀ {l:List Nat} {ad:List Nat},uS e s l=some ad->∃ah,(∀k,rM l V k=k ah)/\(∀p∈ah,∃k∈ad,p=((bet k).1.nat,(bet k).1.nat+1))/\(∀k∈ad,k<s.nxt/\(s.ob k).how=0/\((bet k).1.nat,(bet k).1.nat+1)∈ah)
 | [],ad,q=>by cases q;exact⟨[],fun k=>rfl,fun p hp=>(by cases hp),fun k hk=>(by cases hk)⟩
 | t::l,ad,q=>by
  simp only[uS,bJF]at q
  obtain⟨v,h1,q⟩:=q
  obtain⟨a,B,ta⟩:=M t v h1
  cases ta<;>simp only at q<;>try (cases q;done)
  rename_i G off hk
  split at q
  ·next hc=>
   rw[bJG]at q
   obtain⟨ad',q,rfl⟩:=q
   obtain⟨ah,g1,g2,g3⟩:=aEb M q
   refine⟨((bet G).1.nat,(bet G).1.nat+1)::ah,fun k=> ?_,fun p hp=> ?_,fun k hk=> ?_⟩
   ·show V.vget t (fun y=>lE y fun id _=>rM l V fun l=>k ((id.nat,Nat.succ id.nat)::l))=_
    rw[aT.vget_eq B]
    show rM l V _=_
    rw[g1]
   ·rcases bJZ.1 hp with rfl|hp
    ·exact⟨G,.head _,rfl⟩
    ·obtain⟨k,d,g⟩:=g2 p hp;exact⟨k,.tail _ d,g⟩
   ·rcases bJZ.1 hk with rfl|hk
    ·exact⟨hc.1,hc.2,.head _⟩
    ·obtain⟨d,g,C⟩:=g3 k hk;exact⟨d,g,.tail _ C⟩
  ·cases q
end
end
section
section
variable {d:List bRa}{n0:Nat}{z:St}{G:VS}{H:Nat->Id×Nat}{F0:Id->Prop}{V:aT}{i:Nat}{N:Nat->Nat}{st st':St}{s s':VS}{bet bet':Nat->Id×Nat}{F F':Id->Prop}{L:aT}{r:bB}{b b':VO}{recs:List dM}{P:bR8}{pr:cN}{orc:cP}
theorem dA.nle(A:dA n0 st s bet F st' s' bet' F'):s.nxt<=s'.nxt:=bLG fun K=>bKl _ (A.sb.nle s'.nxt K)
theorem aXJ{n m:Nat}{x:VR}(h:x.within n)(hn:n<=m):x.within m:=by
 cases x with
 |cl ad=>exact fun k O=>bJK (h k O) hn
 |st _ ad=>exact fun k O=>bJK (h k O) hn
 |q=>trivial
 |ld _=>trivial
 |tt=>trivial
theorem OI.next2(h:OI d n0 z G H F0 V i N st s bet F L r b recs)(u:eS d=true){o:bRa}(C:d[i]? =some o){v:TV}{a:AV}{R:dM}{x:VR}(A:dA n0 st s bet F st' s' bet' F')
  (Q:(b'.new=b.new/\TR st'.heap bet' (KP s' bet' (jO N)) (FP F' (jO N)) a v)\/(b'.new=o.dst.toList++b.new/\TR st'.heap bet' (KP s' bet' (FN d (Nx N i st'.nxt.nat) i)) (FP F' (FN d (Nx N i st'.nxt.nat) i)) a v))
  (T:b'.clean=true->b.clean=true/\aHd st st' s s' bet/\aHk (FN d (Nx N i st'.nxt.nat) i) st st' s s' bet' F')
  (J:b'.recs=x::b.recs) (h0:R.n0=st.nxt.nat) (h1:R.n1=st'.nxt.nat) (B:x.within s.nxt) (hx:RX s bet F R x) (D:b'.clean=true->∀k ad,x≠ .st k ad):
  OI d n0 z G H F0 V (i+1) (Nx N i st'.nxt.nat) st' s' bet' F' (gA o.dst a L) (iR o.dst v r) b' (R::recs):=
 h.next u C A Q T J h0 h1 (aXJ B A.nle) (RX.mono A.nle A.sb.beq A.sb.sub B hx) D fun hc=>(T hc).1
theorem aXg{op:Op}{rr:bB}{v:TV}(hq:lM op=true)(hm:aAN op=false)(q:bK P (dC orc) op rr s=some (v,s')):s'=s:=by
 cases op<;>first|(cases hq;done)|(cases hm;done)|skip
 case call c=>
  obtain⟨callee,args,l'⟩:=c
  cases callee with
  |invoke _ _=>cases hq
  |value g=>cases hq
  | builtin b=>
   simp only[bK,bJF]at q
   obtain⟨l,Z,q⟩:=q
   cases b<;>first|(cases hq;done)|skip
   all_goals
    simp only[jM,bJG]at q
    obtain⟨y,e2,q⟩:=q
    cases q;rfl
 all_goals simp only[bK]at q
 case pick=>
  simp only[bJF]at q
  obtain⟨_,_,_,_,_,_,_,_,q⟩:=q
  cases q;rfl
 case makeFunc f a c=>
  cases f<;>first|(cases q;done)|skip
  simp only[bJF]at q
  obtain⟨_,_,_,_,q⟩:=q
  cases q;rfl
 case nilCheck=>
  simp only[bJF]at q
  obtain⟨_,_,q⟩:=q
  split at q<;>cases q<;>rfl
 case index=>
  simp only[bJF]at q
  obtain⟨_,_,_,_,_,_,q⟩:=q
  split at q
  ·split at q
   ·simp only[bJG]at q
    obtain⟨_,_,q⟩:=q
    cases q;rfl
   ·cases q
  ·cases q
 case extract=>
  simp only[bJF]at q
  obtain⟨_,_,q⟩:=q
  split at q
  ·simp only[bJG]at q
   obtain⟨_,_,q⟩:=q
   cases q;rfl
  ·cases q
 all_goals (try split at q)<;>(try (cases q;done))<;>simp only[bJF,bJG]at q
 all_goals first
  | (obtain⟨_,_,q⟩:=q;cases q;rfl)
  | (obtain⟨_,_,_,_,q⟩:=q;cases q;rfl)
  | (obtain⟨_,_,_,_,_,_,q⟩:=q;cases q;rfl)
  | (obtain⟨_,_,_,_,_,_,_,_,q⟩:=q;cases q;rfl)
  | (obtain⟨_,_,_,_,q⟩:=q;split at q<;>cases q;rfl)
  | (obtain⟨_,_,q⟩:=q;split at q<;>(try (cases q;done))<;>simp only[bJF]at q;obtain⟨_,_,q⟩:=q;split at q<;>(try (cases q;done))<;>simp only[bJG]at q;obtain⟨_,_,q⟩:=q;cases q;rfl)
theorem OI.quiet(h:OI d n0 z G H F0 V i N st s bet F L r b recs)(u:eS d=true){o:bRa}(C:d[i]? =some o){φ:Nat->Prop}{rr:bB}{v:TV}{x:VR}(he:ER st.heap bet (KP s bet φ) (FP F φ) (dS (bJ d i).del L) V rr)
  (hq:lM o.op=true) (q:bK P (dC orc) o.op rr s=some (v,s')) (hb:(b'.new=b.new/\(∀y,φ y->jO N y)/\aAN o.op=false)\/(b'.new=o.dst.toList++b.new/\∀y,φ y->gE d N i y)) (T:b'.clean=b.clean) (J:b'.recs=x::b.recs) (B:x.within s.nxt) (D:∀k ad,x≠ .st k ad):
  ∃(bet':Nat->Id×Nat) (a:AV) (st':St),(∀R:dM,R.n0=st.nxt.nat->R.n1=st'.nxt.nat->RX s bet F R x->OI d n0 z G H F0 V (i+1) (Nx N i st'.nxt.nat) st' s' bet' F (gA o.dst a L) (iR o.dst v r) b' (R::recs))/\
   ∃f:St->St,(∀ih stX k,stX.nxt=st.nxt->dD P pr o.op ih (dS (bJ d i).del L) V stX k=k a (f stX))/\(∀l,dU st (f (dR l st))=st'/\dU st (f (eB l st))=st'/\(f (dR l st)).nxt=st'.nxt/\(f (eB l st)).nxt=st'.nxt/\(f (eB l st)).heap=st'.heap):=by
 have hi:i<d.length:=(bKv.1 C).1
 have Q:=h.step.inv
 have up:∀ {y:Nat},φ y->FN d (Nx N i st.nxt.nat) i y:=fun {y} E=>by
  rcases hb with ⟨_,h1,_⟩|⟨_,h1⟩
  ·exact .inl (aAo (h1 y E))
  ·exact aDh u hi (h1 y E)
 rcases aOG (pr:=pr) hq he q with ⟨rfl,a,ta,ea⟩|⟨cs,blk,mk,rfl,tc,ec,tm⟩
 ·refine⟨bet,a,st,fun R h0 h1 hx=> ?_,id,fun ih stX k _=>ea ih stX k,fun l=>⟨aIl _ _,aZx _ _,aC9 _ _,aDB _ _,aBI _ _⟩⟩
  refine h.next2 u C (dA.refl Q) ?_ (fun hc=>⟨T ▸ hc,fun k _ hh=>⟨hh,rfl,rfl⟩,fun k h1 h2=>absurd h1 (by omega)⟩) J h0 h1 B hx (fun _=>D)
  rcases hb with ⟨Z,h1,_⟩|⟨Z,h1⟩
  ·exact .inl ⟨Z,ta.mono (mC h1 _)⟩
  ·exact .inr ⟨Z,ta.mono (mC (fun y E=>up E) _)⟩
 ·rcases hb with ⟨_,_,hm⟩|⟨Z,h1⟩
  ·have:=aXg hq hm q
   have:(s.new cs).nxt=s.nxt:=by rw[this]
   exact absurd this (by show s.nxt+1≠s.nxt;omega)
  have tcd:bM st.heap bet s.dom F blk.cells cs:=tc.mono ⟨fun _ _=>rfl,fun _ h=>h.1,fun _ h=>h.1,fun _ _=>rfl⟩
  have A:=Q.new tcd
  have m':(st.new blk).nxt.nat=st.nxt.nat+1:=mE _ _
  have I:gS bet s.nxt (st.nxt,blk.cells.length) s.nxt=(st.nxt,blk.cells.length):=iT _ _ _
  have g':FN d (Nx N i (st.new blk).nxt.nat) i st.nxt.nat:=aIK (by rw[h.n_i];exact bJE _) (by omega)
  refine⟨gS bet s.nxt (st.nxt,blk.cells.length),mk st.nxt,st.new blk,fun R h0 h' hx=> ?_,fun stX=>stX.new blk,fun ih stX k hn=>by rw[ec,hn],fun l=>⟨aXv _ _ _,aXi _ _ _,by cases st;rfl,by cases st;rfl,by cases st;rfl⟩⟩
  refine h.next2 u C A (.inr ⟨Z,tm _ _ _ _ _ I ⟨bJT _,by rw[I];exact g'⟩⟩) (fun hc=>⟨T ▸ hc,fun k O hh=> ?_,fun k h2 X hh=> ?_⟩) J h0 h' B hx (fun _=>D)
  ·have:(s.new cs).ob k=s.ob k:=if_neg (by omega)
   rw[this]at hh ⊢
   exact⟨hh,rfl,vM st blk (Q.rng k O).2⟩
  ·obtain rfl:k=s.nxt:=by have:k<s.nxt+1:=X;omega
   have:(s.new cs).ob s.nxt=⟨0,cs⟩:=if_pos rfl
   rw[this,I]
   exact⟨bJE _,blk,aIS st blk,rfl,tc.mono (aCy A fun y E=>aDh u hi (h1 y E))⟩
theorem OI.vquiet(h:OI d n0 z G H F0 V i N st s bet F L r b recs)(u:eS d=true){o:bRa}(C:d[i]? =some o){v:TV}{x:VR}(hq:lM o.op=true)(q:uE P orc o b x (dY (bJ d i).del r) s=some (v,s',b'))(B:x.within s.nxt)(D:∀k ad,x≠ .st k ad):
  ∃(bet':Nat->Id×Nat) (a:AV) (st':St),(∀R:dM,R.n0=st.nxt.nat->R.n1=st'.nxt.nat->RX s bet F R x->OI d n0 z G H F0 V (i+1) (Nx N i st'.nxt.nat) st' s' bet' F (gA o.dst a L) (iR o.dst v r) b' (R::recs))/\
   ∃f:St->St,(∀ih stX k,stX.nxt=st.nxt->dD P pr o.op ih (dS (bJ d i).del L) V stX k=k a (f stX))/\(∀l,dU st (f (dR l st))=st'/\dU st (f (eB l st))=st'/\(f (dR l st)).nxt=st'.nxt/\(f (eB l st)).nxt=st'.nxt/\(f (eB l st)).heap=st'.heap):=by
 have hi:i<d.length:=(bKv.1 C).1
 unfold Ev.uE at q
 split at q
 ·next p S=>
  obtain⟨w,s1⟩:=p
  simp only[bo,bp]at q
  obtain⟨rfl,rfl,rfl⟩:=q
  cases hm:aAN o.op with
  |true=>
   simp only[if_true]
   exact h.quiet u C (φ:=jO N) (h.olds _) hq S (.inr ⟨rfl,fun y E=>gE.of_old E⟩) rfl rfl B D
  |false=>
   simp only[bJQ,if_false]
   exact h.quiet u C (φ:=jO N) (h.olds _) hq S (.inl ⟨rfl,fun y E=>E,hm⟩) rfl rfl B D
 ·next S=>
  rw[bJG]at q
  obtain⟨⟨w,s1⟩,S,q⟩:=q
  simp only[bp]at q
  obtain⟨rfl,rfl,rfl⟩:=q
  exact h.quiet u C (φ:=gE d N i) (h.seen u hi) hq S (.inr ⟨rfl,fun y E=>E⟩) rfl rfl B D
theorem aJL{o:bRa}{p:gQ}{f:dT}{rest:gG}{x:Option bR7}(h:eT o.op=some x):nU P o p f rest=goX o p f rest x:=by unfold nU;rw[h]
theorem aDC{o:bRa}{p:gQ}{f:dT}{rest:gG}(h:eT o.op=none)(U:p.tot=true):nU P o p f rest=goT o p f rest:=by unfold nU;rw[h,U]
theorem aJs{o:bRa}{p:gQ}{f:dT}{rest:gG}(h:eT o.op=none)(U:p.tot=false)(hs:tE o.op=none):nU P o p f rest=goE o p f rest:=by unfold nU;rw[h,U,hs]
theorem bFq{o:bRa}{p:gQ}{f:dT}{rest:gG}{q:bR5×bR7×bR7}(h:eT o.op=none)(U:p.tot=false)(hs:tE o.op=some q):nU P o p f rest=goS P o p q rest:=by unfold nU;rw[h,U,hs]
def sE(P:bR8)(pr:cN)(d:List bRa)(n0:Nat)(z:St)(G:VS)(H:Nat->Id×Nat)(F0:Id->Prop)(V:aT)(i:Nat)(o:bRa)(L:aT)(r:bB)(recs:List dM)(st:St)(v:TV)(s':VS)(b':VO):Prop:=
 ∃N' st' bet' F' L' recs',OI d n0 z G H F0 V (i+1) N' st' s' bet' F' L' (iR o.dst v r) b' recs'/\∃M,∀n,M<=n->∀(rest:gG) k,nU P o (bJ d i) (dD P pr o.op (cC P pr true n)) rest recs L V st k=rest recs' L' V st' k
theorem bA6(h:OI d n0 z G H F0 V i N st s bet F L r b recs)(u:eS d=true){o:bRa}(C:d[i]? =some o){v:TV}(hs:eT o.op=some none)(hq:lM o.op=true)(q:uE P orc o b .q (dY (bJ d i).del r) s=some (v,s',b')):
  sE P pr d n0 z G H F0 V i o L r recs st v s' b':=by
 obtain⟨bet',a,st',h1,f,h2,X⟩:=h.vquiet (pr:=pr) u C hq q trivial (fun k ad e=>by cases e)
 refine⟨_,st',bet',F,_,_,h1 ⟨st.nxt.nat,(f (dR (eM st.nxt.nat none) st)).nxt.nat,eM st.nxt.nat none,[],none,st.heap,(f (dR (eM st.nxt.nat none) st)).heap,false⟩ rfl (by rw[(X _).2.2.1]) ⟨rfl,rfl,rfl,fun y E=>rZ (p:=(0,st.nxt.nat)) (.head _) (bJJ _) E⟩,0,fun n _ rest k=> ?_⟩
 rw[aJL hs]
 show vA o (bJ d i) (dD P pr o.op (cC P pr true n)) rest none recs L V st k=_
 unfold vA
 show lY (dD P pr o.op (cC P pr true n) (dS (bJ d i).del L) V (dR (eM st.nxt.nat none) st) fW) _=_
 rw[h2 _ _ _ (aC9 _ _)]
 show rest _ (gA o.dst a L) V (dU st (f (dR (eM st.nxt.nat none) st))) k=_
 rw[(X _).1]
theorem aDY(h:OI d n0 z G H F0 V i N st s bet F L r b recs)(hq:(jL (bJ d i).un b.recs).all VR.isQ=true){h0 h1:Tr}:lD h0 h1 (bJ d i).un recs=true:=
 aQw _ _ fun k R hu hr=>by
  obtain⟨j,x,_,_,_,g4,_,_,_,g8,_⟩:=h.at hu hr
  have:=aAn _ _ hq k x hu g4
  cases x with
  |q=>exact g8.2.2.1
  |ld _=>cases this
  |cl _=>cases this
  |tt=>cases this
  |st _ _=>cases this
theorem aZV(Q:VI n0 st s bet F){ad:List Nat}{ah:List (Nat×Nat)}(h1:∀p∈ah,∃k∈ad,p=((bet k).1.nat,(bet k).1.nat+1))(h2:∀k∈ad,k<s.nxt/\(s.ob k).how=0/\((bet k).1.nat,(bet k).1.nat+1)∈ah):∀p∈ah,p.2<=st.nxt.nat:=fun p S=>by
 obtain⟨k,O,rfl⟩:=h1 p S
 exact(Q.rng k (h2 k O).1).2
theorem bBc(h:OI d n0 z G H F0 V i N st s bet F L r b recs)(u:eS d=true){o:bRa}(C:d[i]? =some o){e:bB}(he:ER st.heap bet s.dom F .nil V e){v:TV}{x:VR}(hs:eT o.op=none)(hn:tE o.op=none)(hq:lM o.op=true)(B:wP e s (bJ d i) b=some x)(q:uE P orc o b x (dY (bJ d i).del r) s=some (v,s',b')):
  sE P pr d n0 z G H F0 V i o L r recs st v s' b':=by
 unfold wP at B
 split at B
 ·next U=>
  split at B
  ·next W=>
   cases B
   obtain⟨bet',a,st',h1,f,h2,X⟩:=h.vquiet (pr:=pr) u C hq q trivial (fun k ad e=>by cases e)
   refine⟨_,st',bet',F,_,_,h1 ⟨st.nxt.nat,(f (eB (cH (bJ d i).un recs []) st)).nxt.nat,cH (bJ d i).un recs [],[],none,st.heap,(f (eB (cH (bJ d i).un recs []) st)).heap,true⟩ rfl (by rw[(X _).2.2.2.1]) ⟨rfl,rfl⟩,0,fun n _ rest k=> ?_⟩
   rw[aDC hs U]
   show lY (dD P pr o.op (cC P pr true n) (dS (bJ d i).del L) V (eB (cH (bJ d i).un recs []) st) fW) _=_
   rw[h2 _ _ _ (aDB _ _)]
   show bQ (lD _ _ (bJ d i).un recs) (rest _ (gA o.dst a L) V (dU st (f (eB (cH (bJ d i).un recs []) st))) k) none=_
   rw[dK (aDY h W),(X _).2.1]
  ·cases B
 ·next U=>
  have U:(bJ d i).tot=false:=by simpa using U
  rw[bJG]at B
  obtain⟨ad,B,rfl⟩:=B
  obtain⟨ah,g1,g2,g3⟩:=aEb he B
  obtain⟨bet',a,st',h1,f,h2,X⟩:=h.vquiet (pr:=pr) u C hq q (fun k O=>(g3 k O).1) (fun k ad e=>by cases e)
  refine⟨_,st',bet',F,_,_,h1 ⟨st.nxt.nat,(f (dR (cH (bJ d i).un recs ah) st)).nxt.nat,cH (bJ d i).un recs ah,[],none,st.heap,(f (dR (cH (bJ d i).un recs ah) st)).heap,false⟩ rfl (by rw[(X _).2.2.1]) ⟨rfl,rfl,rfl,fun k O=>rZ (aD4 _ _ _ (g3 k O).2.2) (bJE _) (bJT _)⟩,0,fun n _ rest k=> ?_⟩
  rw[aJs hs U hn]
  show rM (bJ d i).adr V (fun ah=>lY (dD P pr o.op (cC P pr true n) (dS (bJ d i).del L) V (dR (cH (bJ d i).un recs ah) st) fW) _)=_
  rw[g1,h2 _ _ _ (aC9 _ _)]
  show rest _ (gA o.dst a L) V (dU st (f (dR (cH (bJ d i).un recs ah) st))) k=_
  rw[(X _).1]
theorem aZp(h:OI d n0 z G H F0 V i N st s bet F L r b recs)(u:eS d=true){o:bRa}(C:d[i]? =some o){t:bR5}{x:bR7}(a':o.op= .load t x)(hc:b.clean=true)(W:(jL (bJ d i).un b.recs).all VR.tame=true){av v:TV}
  (qa:dW (dY b.new (dY (bJ d i).del r)) x=some av) (q:bK P (dC orc) o.op (dY b.new (dY (bJ d i).del r)) s=some (v,s')):
  sE P pr d n0 z G H F0 V i o L r recs st v s' (b.note (.ld av.blk)):=by
 have hi:i<d.length:=(bKv.1 C).1
 have Q:=h.step.inv
 obtain⟨a,ta,ea⟩:=fD (h.olds (bJ d i).del) qa
 rw[a']at q
 simp only[bK]at q
 split at q
 case isFalse=>cases q
 case isTrue O=>
 simp only[bJF,bJG]at q
 obtain⟨av',qa',w,ql,q⟩:=q
 rw[qa]at qa'
 cases qa'
 cases q
 obtain⟨id,off,c,rfl,K,tc,ec,hx⟩:∃(id:Id) (off:Nat) (c:AV),a= .ptr id off/\jO N id.nat/\TR st.heap bet (KP s bet (jO N)) (FP F (jO N)) c v/\(∃blk,FC st.heap id blk/\∀k,oQ P t off blk.cells k=k c)/\
   (∀k',av.blk=some k'->k'<s.nxt/\id=(bet k').1)/\(av.blk=none->F id):=by
  unfold kP at ql
  cases ta<;>simp only at ql<;>try (cases ql;done)
  ·rename_i k0 off Y
   split at ql
   ·next i'=>
    obtain⟨φ,hφ,blk,Z,e2,e3⟩:=h.cln hc k0 Y.1 i'.2
    have hold:φ=jO N:=by
     rcases hφ with ⟨_,e⟩|⟨j,hj,f1,f2,e⟩
     ·exact e
     ·have h1:(bet k0).1.nat<N 0:=Y.2
      have:=h.le (bJJ j) (by omega)
      omega
    subst hold
    obtain⟨c,tc,ec⟩:=aGt ql e3
    exact⟨_,_,c,rfl,Y.2,tc,⟨blk,⟨Z,e3.nm⟩,ec⟩,(fun k' e=>by cases e;exact⟨Y.1,rfl⟩),(fun e=>by cases e)⟩
   ·cases ql
  ·rename_i id o m off blk cs hF hf hl hc
   obtain⟨c,tc,ec⟩:=aJY hl hc ql
   exact⟨_,_,c,rfl,hF.2,tc,⟨blk,hf,ec⟩,(fun k' e=>by cases e),(fun _=>hF.1)⟩
 obtain⟨blk,hf,ec⟩:=ec
 have d':(dR (eM st.nxt.nat (some id)) st).vis id:=aC6 (by
  cases e':av.blk with
  |none=>exact Q.vis id (hx.2 e')
  |some k'=>obtain⟨g1,g2⟩:=hx.1 k' e';rw[g2];exact lL Q (Q.rng k' g1).1) (fun p S=>by
  have S:p∈ [(0,id.nat),(id.nat+1,st.nxt.nat)]:=S
  simp only[bJZ,bLj,or_false]at S
  rcases S with rfl|rfl<;>simp<;>omega)
 have j':N 0<=st.nxt.nat:=by rw[←h.n_i];exact h.le (bJJ i) (bJE _)
 have c':id.nat<st.nxt.nat:=bJK K j'
 refine⟨_,st,bet,F,_,_,h.next2 (R:=⟨st.nxt.nat,st.nxt.nat,eM st.nxt.nat (some id),[],some id,st.heap,(dR (eM st.nxt.nat (some id)) st).heap,false⟩) (b':=b.note _) u C (dA.refl Q) (.inl ⟨rfl,tc⟩) (fun hc=>⟨hc,fun k _ hh=>⟨hh,rfl,rfl⟩,fun k h1 h2=>absurd h1 (by omega)⟩) rfl rfl rfl trivial
  ⟨rfl,rfl,id,rfl,hx.1,hx.2,fun y E n'=> ?_⟩ (fun _ k ad e=>by cases e),0,fun n _ rest k=> ?_⟩
 ·rcases bJS y id.nat with K|hge
  ·exact rZ (p:=(0,id.nat)) (.head _) (bJJ _) K
  ·exact rZ (p:=(id.nat+1,st.nxt.nat)) (.tail _ (.head _)) (by show id.nat+1<=y;omega) E
 ·rw[aJL (show eT o.op=some (some x) by rw[a'];rfl)]
  show cF x (dS (bJ d i).del L) V (fun y=>lE y fun id _=>bQ (Nat.ble id.nat st.nxt.nat) (bQ (oW id (bJ d i).un recs) (vA o (bJ d i) (dD P pr o.op (cC P pr true n)) rest (some id) recs L V st k) none) none)=_
  rw[ea]
  show bQ (Nat.ble id.nat st.nxt.nat) (bQ (oW id (bJ d i).un recs) (vA o (bJ d i) (dD P pr o.op (cC P pr true n)) rest (some id) recs L V st k) none) none=_
  rw[dK (eK (bKb c')),dK (aKp _ _ fun kk R hu hr=> ?_)]
  ·show lY (dD P pr o.op (cC P pr true n) (dS (bJ d i).del L) V (dR (eM st.nxt.nat (some id)) st) fW) _=_
   have:dD P pr o.op (cC P pr true n) (dS (bJ d i).del L) V (dR (eM st.nxt.nat (some id)) st) fW=some (c,dR (eM st.nxt.nat (some id)) st):=by
    rw[a']
    show yW P t x (dS (bJ d i).del L) V _ fW=_
    unfold yW
    rw[O]
    show cF x _ V _=_
    rw[ea]
    show eQ (dR (eM st.nxt.nat (some id)) st) id _=_
    rw[iC d' (by rw[aIW];exact hf),ec]
    rfl
   rw[this]
   show rest (⟨st.nxt.nat,(dR (eM st.nxt.nat (some id)) st).nxt.nat,eM st.nxt.nat (some id),[],some id,st.heap,(dR (eM st.nxt.nat (some id)) st).heap,false⟩::recs) (gA o.dst c L) V (dU st (dR (eM st.nxt.nat (some id)) st)) k=_
   rw[aIl,aC9]
  ·obtain⟨j,x,j1,_,_,g4,g5,_,_,g8,_⟩:=h.at hu hr
   have f':=aAn _ _ W kk x hu g4
   refine .inl ⟨?_, ?_⟩
   ·rw[g5]
    exact bJK K (h.le (bJJ j) (by omega))
   ·cases x with
    |q=>exact g8.2.1
    |ld _=>exact g8.2.1
    |cl _=>exact g8.2.1
    |tt=>cases f'
    |st _ _=>cases f'
end
end
section
theorem nD(st X:St):dU st X=⟨X.heap,X.nxt,st.ro,st.hid⟩:=by cases st;cases X;rfl
theorem tU{st:St}{l:List (Nat×Nat)}{id:Id}(h:st.vis id)(hl:∀p∈l,¬(p.1<=id.nat/\id.nat<p.2)):(eB l st).vis id:=by
 intro p hp
 have hp:p∈rE l st.hid:=hp
 rw[vP,bKy]at hp
 rcases hp with hp|hp
 ·exact hl p hp
 ·exact h p hp
section
variable {d:List bRa}{n0:Nat}{K:St}{U:VS}{W:Nat->Id×Nat}{F0:Id->Prop}{V:aT}{i:Nat}{N:Nat->Nat}{st st':St}{s s':VS}{bet bet':Nat->Id×Nat}{F F':Id->Prop}{L:aT}{r:bB}{b b':VO}{recs:List dM}{P:bR8}{pr:cN}{orc:cP}
theorem aGf(D:VI n0 st s bet F){k z:Nat}(h1:k<s.nxt)(h2:z<s.nxt)(c':k≠z):(bet k).1.nat≠(bet z).1.nat:=fun e=>c' (D.inj k z h1 h2 (Id.nat_inj e))
theorem aWU(h:OI d n0 K U W F0 V i N st s bet F L r b recs)(u:eS d=true){o:bRa}(T:d[i]? =some o){e:bB}(he:ER st.heap bet s.dom F .nil V e){t:bR5}{xa xv:bR7}(A:o.op= .store t xa xv)(ht:(bJ d i).tot=false){k off:Nat}{ad:List Nat}{v:TV}
  (qa:dW (dY (bJ d i).del r) xa=some (.po k off)) (qad:uS e s (bJ d i).adr=some ad) (d':ad.elem k=false) (O:(jL (bJ d i).un b.recs).all (VR.okSt k)=true) (q:bK P (dC orc) o.op (dY (bJ d i).del r) s=some (v,s')):
  sE P pr d n0 K U W F0 V i o L r recs st v s' (b.turned (.st k ad) o.dst):=by
 have J:i<d.length:=(bKv.1 T).1
 have D:=h.step.inv
 have H:=h.seen u J
 obtain⟨a,ta,ea⟩:=fD H qa
 obtain⟨ah,g1,g2,g3⟩:=aEb he qad
 rw[A]at q
 simp only[bK]at q
 split at q
 case isFalse=>cases q
 case isTrue n'=>
 simp only[bJF,bJG]at q
 obtain⟨av',qa',w,qw,s1,qs,q⟩:=q
 rw[qa]at qa'
 cases qa'
 simp only[bp]at q
 obtain⟨rfl,rfl⟩:=q
 obtain⟨c,tc,ec⟩:=fD H qw
 have ha:a= .ptr (bet k).1 off/\KP s bet (gE d N i) k:=by
  cases ta with |po C=>exact⟨rfl,C⟩
 obtain⟨rfl,C⟩:=ha
 simp only[aAO]at qs
 split at qs
 case isFalse=>cases qs
 case isTrue I=>
 rw[bJG]at qs
 obtain⟨cs,e1,rfl⟩:=qs
 obtain⟨p1,p2⟩:=aAj e1
 obtain⟨blk,h1,h2,h3⟩:=D.obj k C.1 (by rw[I.2.1];decide)
 have tcd:TR st.heap bet s.dom F c w:=tc.mono ⟨fun _ _=>rfl,fun _ h=>h.1,fun _ h=>h.1,fun _ _=>rfl⟩
 have tcc:=tcd.cells (fun l e=>by subst e;cases I.2.2.2)
 have e':=tcc.length
 have v':=h3.length
 have o':bM st.heap bet s.dom F (blk.cells.take off++c.cells++blk.cells.drop (off+c.cells.length)) cs:=by
  rw[p2,e'];exact((h3.take off).app tcc).app (h3.drop _)
 have Y:dA n0 st s bet F (st.withH (Tr.put (some ⟨blk.cells.take off++c.cells++blk.cells.drop (off+c.cells.length),blk.exact⟩) (bet k).1 st.heap)) (s.set k ⟨0,cs⟩) bet F:=D.put C.1 I.2.1 (.inl rfl) (fun _=>⟨_,rfl,by
  show(blk.cells.take off++c.cells++blk.cells.drop (off+c.cells.length)).length=_
  rw[←h2];simp only[bJW,bJO,bK3];omega,o'⟩)
 have f':∀z∈ad,z≠k:=fun z B e=>by
  subst e
  rw[bKL.2 B]at d';cases d'
 have Q:(eB (cH (bJ d i).un recs ah) st).vis (bet k).1:=tU (lL D (D.rng k C.1).1) fun p hp hh=>by
  rcases h.hidden u J hp with hp|hp|⟨kk,R,x,f1,f2,f3,f4,f5,f6⟩
  ·obtain⟨z,B,rfl⟩:=g2 p hp
   have:=aGf D (g3 z B).1 C.1 (f' z B)
   simp only at hh
   omega
  ·exact hp _ C.2 hh
  ·have hx:=aAn _ _ O kk x f1 f3
   cases x with
   |st z ad'=>
    simp only[VR.okSt,bJI,bne_iff_ne,ne_eq]at hx
    rw[f5.2.1,bKF]at f4
    have:=aGf D f5.1 C.1 hx.1
    rw[f4]at hh
    simp only at hh
    omega
   |q=>rw[f5.1]at f4;cases f4
   |ld k=>rw[f5.1]at f4;cases f4
   |cl ad=>rw[f5.1]at f4;cases f4
   |tt=>rw[f5.1]at f4;cases f4
 have g':rK (bet k).1.nat (bJ d i).un recs=true:=aRK _ _ fun kk R hu hr=>by
  obtain⟨j,x,j1,_,_,f3,f4,_,_,f5,_⟩:=h.at hu hr
  have hx:=aAn _ _ O kk x hu f3
  by_cases E:(bet k).1.nat<R.n0
  ·right
   cases x with
   |q=>exact f5.2.2.2 _ E
   | ld z=>
    obtain⟨_,_,id,_,d1,d2,d3⟩:=f5
    refine d3 _ E fun e=> ?_
    cases z with
    |none=>
     have:(bet k).1=id:=Id.nat_inj e
     exact D.sep k C.1 I.2.1 (this ▸ d2 rfl)
    |some z=>
     obtain⟨d4,rfl⟩:=d1 z rfl
     simp only[VR.okSt,bne_iff_ne,ne_eq]at hx
     exact aGf D C.1 d4 (fun e=>hx e.symm) e
   |cl ad'=>
    simp only[VR.okSt]at hx
    exact f5.2.2.2 k (bKL.1 hx)
   |tt=>cases hx
   |st z ad'=>
    simp only[VR.okSt,bJI]at hx
    exact f5.2.2.2 k (bKL.1 hx.2)
  ·exact .inl (by omega)
 refine⟨_,_,bet,F,_,_,h.next2 (b':=b.turned (.st k ad) o.dst) (a:= .u) (R:=⟨st.nxt.nat,st.nxt.nat,cH (bJ d i).un recs ah,[((bet k).1.nat,(bet k).1.nat+1)],none,st.heap,Tr.put (some ⟨blk.cells.take off++c.cells++blk.cells.drop (off+c.cells.length),blk.exact⟩) (bet k).1 st.heap,true⟩) u T Y (.inr ⟨rfl,.u⟩) (fun hc=>by cases hc) rfl rfl rfl (fun z B=>(g3 z B).1)
  ⟨C.1,rfl,rfl,fun z B=>rZ (aD4 _ _ _ (g3 z B).2.2) (bJE _) (bJT _)⟩ (fun hc=>by cases hc),0,fun n _ rest kk=> ?_⟩
 rw[bFq (q:=(t,xa,xv)) (show eT o.op=none by rw[A];rfl) ht (by rw[A];rfl)]
 show rM (bJ d i).adr V (fun ah=>cF xa (dS (bJ d i).del L) V fun y=>cF xv (dS (bJ d i).del L) V fun v=>lE y fun id off=>bQ (dG P t) (aH5 P st t (cH (bJ d i).un recs ah) (bJ d i).un recs id off v _) none)=_
 rw[g1,ea,ec]
 show bQ (dG P t) (aH5 P st t (cH (bJ d i).un recs ah) (bJ d i).un recs (bet k).1 off c _) none=_
 rw[dK n']
 unfold aH5
 rw[dK g',iC Q ⟨by rw[aBI];exact h1,h3.nm⟩,dK (beq_true (by rw[xX,e'];exact I.2.2.1)),dK (vO tcc I.2.2.2),aAx _ _ _ _ (by omega)]
 unfold nO
 rw[aAU (show(eB (cH (bJ d i).un recs ah) st).ro<=_ from bJH (show st.ro<=n0 from D.ro) (D.rng k C.1).1)]
 rfl
theorem OI.vc(h:OI d n0 K U W F0 V i N st s bet F L r b recs)(u:eS d=true)(J:i<d.length)(hc:b.clean=true):VC (gE d N i) st s bet F:=by
 intro k C hh hs
 obtain⟨φ,hφ,blk,e1,e2,e3⟩:=h.cln hc k C hh
 refine⟨blk,e1,e2,e3.mono (mC (fun y hy=> ?_) _)⟩
 rcases hφ with ⟨_,rfl⟩|⟨j,hj,f1,f2,rfl⟩
 ·exact gE.of_old hy
 ·refine FN.seen u J ?_ hy
  refine Classical.byContradiction fun ha=> ?_
  exact aIA h u J hj ha hs ⟨f1,f2⟩
theorem aYF(p':mR P pr orc)(h:OI d n0 K U W F0 V i N st s bet F L r b recs)(u:eS d=true){o:bRa}(T:d[i]? =some o){e:bB}(he:ER st.heap bet s.dom F .nil V e){g:bR7}{args:Array bR7}{q':Array bR5}(A:o.op= .call ⟨.value g,args,q'⟩)(hc:b.clean=true)(ht:(bJ d i).tot=false){ad:List Nat}{v:TV}
  (qad:uS e s (bJ d i).adr=some ad) (q:bK P (vX orc) o.op (dY (bJ d i).del r) s=some (v,s')) (r':ad.all (fun k=>(s'.ob k).how==0)=true):
  sE P pr d n0 K U W F0 V i o L r recs st v s' (b.made (.cl ad) o.dst):=by
 have J:i<d.length:=(bKv.1 T).1
 have D:=h.step.inv
 have H:=h.seen u J
 obtain⟨ah,g1,g2,g3⟩:=aEb he qad
 rw[A]at q
 simp only[bK,bJF]at q
 obtain⟨gv,q1,aa,q2,q⟩:=q
 obtain⟨ag,tg,eg⟩:=fD H q1
 obtain⟨aS,ta,ea⟩:=tJ H q2
 cases tg<;>simp only at q<;>try (cases q;done)
 rename_i f a b1 va vb ha hb
 obtain⟨c,G,bet',F',Y,tc,⟨M,hM⟩,hold,w',h',x',i'⟩:=aYg p' D (h.vc u J hc) ((ha.app ta).app hb) q (l:=cH (bJ d i).un recs ah) (fun p hp=>by
   rcases h.hid_clean u J hc hp with hp|hp
   ·obtain⟨k,C,rfl⟩:=g2 p hp
    refine .inr ⟨k,(g3 k C).1,rfl, ?_⟩
    have:=bKq.1 r' k C
    simpa using this
   ·exact .inl hp) (h.hid_bound (aZV D g2 g3)) (fun x hx=> .of_old (by show x<N 0;rw[h.n_0];exact bJK hx h.low0))
 have j':(dU st G).nxt=G.nxt:=by rw[nD]
 have Z:(dU st G).heap=G.heap:=by rw[nD]
 have up:∀y,(gE d N i y\/(st.nxt.nat<=y/\y<G.nxt.nat))->FN d (Nx N i (dU st G).nxt.nat) i y:=fun y hy=>by
  rw[j']
  rcases hy with hy|hy
  ·exact aDh u J hy
  ·exact aIK (by rw[h.n_i];exact hy.1) hy.2
 refine⟨_,dU st G,bet',F',_,_,h.next2 (b':=b.made (.cl ad) o.dst) (a:=c) (R:=⟨st.nxt.nat,G.nxt.nat,cH (bJ d i).un recs ah,[],none,st.heap,G.heap,false⟩) u T Y (.inr ⟨rfl,by rw[Z];exact tc.mono (mC up _)⟩) (fun _=>⟨hc,fun k C hh=> ?_,fun k h1 h2 hh=> ?_⟩) rfl rfl (by rw[j']) (fun z B=>(g3 z B).1)
  ⟨rfl,rfl,rfl,fun z B=>rZ (aD4 _ _ _ (g3 z B).2.2) (bJE _) (bJT _)⟩ (fun _ k ad e=>by cases e),M,fun n hn rest kk=> ?_⟩
 ·obtain⟨d1,d2,d3⟩:=hold k C
  exact⟨d2 hh,d1,by rw[Z];exact i' _ (D.rng k C).2⟩
 ·obtain⟨d1,blk,d2,d3,d4⟩:=h' k h1 h2
  rw[Z]
  exact⟨d1,blk,d2,d3,d4.mono (mC up _)⟩
 ·rw[aJs (show eT o.op=none by rw[A];rfl) ht (by rw[A];rfl)]
  show rM (bJ d i).adr V (fun ah=>lY (dD P pr o.op (cC P pr true n) (dS (bJ d i).del L) V (dR (cH (bJ d i).un recs ah) st) fW) _)=_
  rw[g1]
  have:dD P pr o.op (cC P pr true n) (dS (bJ d i).del L) V (dR (cH (bJ d i).un recs ah) st) fW=some (c,G):=by
   rw[A]
   show cF g _ V (fun g=>jH args.toList _ V fun aa=>asF g fun f first cap=>eN P pr f (cC P pr true n) (lU (lU first aa) cap) (dR (cH (bJ d i).un recs ah) st) fW)=_
   rw[eg,ea]
   show eN P pr f (cC P pr true n) (lU (lU a aS) b1) _ _=_
   rw[tG,tG]
   exact hM n hn fW
  rw[this]
  rfl
theorem aXD(h:OI d n0 K U W F0 V i N st s bet F L r b recs)(u:eS d=true){o:bRa}(T:d[i]? =some o){t:bR5}{x:bR7}(A:o.op= .load t x)(hc:b.clean=true)(O:(jL (bJ d i).un b.recs).all VR.tame=true){av v:TV}
  (qa:dW (dY (bJ d i).del r) x=some av) (q:bK P (dC orc) o.op (dY (bJ d i).del r) s=some (v,s')):
  sE P pr d n0 K U W F0 V i o L r recs st v s' (b.made (.ld av.blk) o.dst):=by
 have J:i<d.length:=(bKv.1 T).1
 have D:=h.step.inv
 obtain⟨a,ta,ea⟩:=fD (h.seen u J) qa
 rw[A]at q
 simp only[bK]at q
 split at q
 case isFalse=>cases q
 case isTrue C=>
 simp only[bJF,bJG]at q
 obtain⟨av',qa',w,ql,q⟩:=q
 rw[qa]at qa'
 cases qa'
 cases q
 obtain⟨id,off,c,rfl,E,tc,ec,hx⟩:∃(id:Id) (off:Nat) (c:AV),a= .ptr id off/\gE d N i id.nat/\TR st.heap bet (KP s bet (gE d N i)) (FP F (gE d N i)) c v/\(∃blk,FC st.heap id blk/\∀k,oQ P t off blk.cells k=k c)/\
   (∀z,av.blk=some z->z<s.nxt/\id=(bet z).1)/\(av.blk=none->F id):=by
  unfold kP at ql
  cases ta<;>simp only at ql<;>try (cases ql;done)
  ·rename_i k0 off S
   split at ql
   ·next I=>
    obtain⟨blk,e1,e2,e3⟩:=h.vc u J hc k0 S.1 I.2 S.2
    obtain⟨c,tc,ec⟩:=aGt ql e3
    exact⟨_,_,c,rfl,S.2,tc,⟨blk,⟨e1,e3.nm⟩,ec⟩,(fun z e=>by cases e;exact⟨S.1,rfl⟩),(fun e=>by cases e)⟩
   ·cases ql
  ·rename_i id o m off blk cs hF hf hl hc
   obtain⟨c,tc,ec⟩:=aJY hl hc ql
   exact⟨_,_,c,rfl,hF.2,tc,⟨blk,hf,ec⟩,(fun z e=>by cases e),(fun _=>hF.1)⟩
 obtain⟨blk,hf,ec⟩:=ec
 have Q:(dR (eM st.nxt.nat (some id)) st).vis id:=aC6 (by
  cases l':av.blk with
  |none=>exact D.vis id (hx.2 l')
  |some z=>obtain⟨g1,g2⟩:=hx.1 z l';rw[g2];exact lL D (D.rng z g1).1) (fun p hp=>by
  have hp:p∈ [(0,id.nat),(id.nat+1,st.nxt.nat)]:=hp
  simp only[bJZ,bLj,or_false]at hp
  rcases hp with rfl|rfl<;>simp<;>omega)
 have t':N 0<=st.nxt.nat:=by rw[←h.n_i];exact h.le (bJJ i) (bJE _)
 have a':id.nat<st.nxt.nat:=by
  rcases E with E|⟨m,hm,_,E⟩
  ·exact bJK E t'
  ·have u':=aFB u J hm
   have:=h.le (show m+1<=i from u') (bJE _)
   rw[h.n_i]at this;omega
 refine⟨_,st,bet,F,_,_,h.next2 (R:=⟨st.nxt.nat,st.nxt.nat,eM st.nxt.nat (some id),[],some id,st.heap,(dR (eM st.nxt.nat (some id)) st).heap,false⟩) (b':=b.made _ _) u T (dA.refl D) (.inr ⟨rfl,tc.mono (mC (fun y hy=>aDh u J hy) _)⟩) (fun hc=>⟨hc,fun k _ hh=>⟨hh,rfl,rfl⟩,fun k h1 h2=>absurd h1 (by omega)⟩) rfl rfl rfl trivial
  ⟨rfl,rfl,id,rfl,hx.1,hx.2,fun y hy c'=> ?_⟩ (fun _ k ad e=>by cases e),0,fun n _ rest k=> ?_⟩
 ·rcases bJS y id.nat with E|hge
  ·exact rZ (p:=(0,id.nat)) (.head _) (bJJ _) E
  ·exact rZ (p:=(id.nat+1,st.nxt.nat)) (.tail _ (.head _)) (by show id.nat+1<=y;omega) hy
 ·rw[aJL (show eT o.op=some (some x) by rw[A];rfl)]
  show cF x (dS (bJ d i).del L) V (fun y=>lE y fun id _=>bQ (Nat.ble id.nat st.nxt.nat) (bQ (oW id (bJ d i).un recs) (vA o (bJ d i) (dD P pr o.op (cC P pr true n)) rest (some id) recs L V st k) none) none)=_
  rw[ea]
  show bQ (Nat.ble id.nat st.nxt.nat) (bQ (oW id (bJ d i).un recs) (vA o (bJ d i) (dD P pr o.op (cC P pr true n)) rest (some id) recs L V st k) none) none=_
  rw[dK (eK (bKb a')),dK (aKp _ _ fun kk R hu hr=> ?_)]
  ·show lY (dD P pr o.op (cC P pr true n) (dS (bJ d i).del L) V (dR (eM st.nxt.nat (some id)) st) fW) _=_
   have:dD P pr o.op (cC P pr true n) (dS (bJ d i).del L) V (dR (eM st.nxt.nat (some id)) st) fW=some (c,dR (eM st.nxt.nat (some id)) st):=by
    rw[A]
    show yW P t x (dS (bJ d i).del L) V _ fW=_
    unfold yW
    rw[C]
    show cF x _ V _=_
    rw[ea]
    show eQ (dR (eM st.nxt.nat (some id)) st) id _=_
    rw[iC Q (by rw[aIW];exact hf),ec]
    rfl
   rw[this]
   show rest (⟨st.nxt.nat,(dR (eM st.nxt.nat (some id)) st).nxt.nat,eM st.nxt.nat (some id),[],some id,st.heap,(dR (eM st.nxt.nat (some id)) st).heap,false⟩::recs) (gA o.dst c L) V (dU st (dR (eM st.nxt.nat (some id)) st)) k=_
   rw[aIl,aC9]
  ·obtain⟨j,x,j1,_,g3,g4,g5,g6,_,g8,_⟩:=h.at hu hr
   have m':=aAn _ _ O kk x hu g4
   have hd:=aIA h u J j1 g3 E
   have hw:R.wild=false:=by
    cases x with
    |q=>exact g8.2.1
    |ld _=>exact g8.2.1
    |cl _=>exact g8.2.1
    |tt=>cases m'
    |st _ _=>cases m'
   rw[g5,g6]
   rcases bJS id.nat (N j)with h1|h1
   ·exact .inl ⟨h1,hw⟩
   ·refine .inr ⟨h1, ?_⟩
    rcases bJS id.nat (N (j+1))with h2|h2
    ·exact absurd ⟨h1,h2⟩ hd
    ·exact h2
end
end
section
section
variable {n0:Nat}{st:St}{P:bR8}{s s':VS}{bet:Nat->Id×Nat}{F:Id->Prop}{φ:Nat->Prop}{stX:St}
structure aCL(st stX:St):Prop where
 heap:stX.heap=st.heap
 nxt:stX.nxt=st.nxt
theorem aFW{h:Tr}{v:TV}{a:AV}(t:TR h bet (KP s bet φ) (FP F φ) a v):TR h bet s.dom F a v:=t.mono ⟨fun _ _=>rfl,fun _ h=>h.1,fun _ h=>h.1,fun _ _=>rfl⟩
theorem aPc{h:Tr}{v:List TV}{a:List AV}(t:bM h bet (KP s bet φ) (FP F φ) a v):bM h bet s.dom F a v:=t.mono ⟨fun _ _=>rfl,fun _ h=>h.1,fun _ h=>h.1,fun _ _=>rfl⟩
theorem aXx(A:VI n0 st s bet F)(f:aCL st stX){sz m:Nat}{v:TV}{a:AV}{cs:List TV}(ta:TR st.heap bet (KP s bet φ) (FP F φ) a v)(j:∀id,FP F φ id->stX.vis id)(Q:∀k off len sz,v= .ow k off len sz->KP s bet φ k->stX.vis (bet k).1)(q:jC s sz v=some (cs,m)):
  ∃aS,bM st.heap bet s.dom F aS cs/\(VC φ st s bet F->bM st.heap bet (KP s bet φ) (FP F φ) aS cs)/\∀k,aHj stX sz a k=k aS m:=by
 cases ta<;>simp only[jC]at q<;>try (cases q;done)
 ·cases q;exact⟨[],.nil,fun _=> .nil,fun k=>rfl⟩
 ·split at q
  ·cases q;exact⟨[],.nil,fun _=> .nil,fun k=>by simp;rfl⟩
  ·cases q
 ·split at q
  ·cases q;exact⟨[],.nil,fun _=> .nil,fun k=>by simp;rfl⟩
  ·cases q
 ·rename_i id off len cap i blk cs' K hf V hc
  split at q
  ·next hs=>
   cases q
   have r:cs.length=len*i:=by rw[←hc.length];simp only[bJO,bK3];omega
   refine⟨_,aPc hc,fun _=>hc,fun k=> ?_⟩
   show eQ stX id (fun b=>fT (Nat.mul len sz) off b.cells fun cs=>k cs len)=_
   rw[iC (j id K) (by rw[f.heap];exact hf),←hs.1]
   show fT (len*i) off blk.cells _=_
   rw[jY _ _ _ _ V,r,hs.1,bL0 _ hs.2]
  ·cases q
 ·rename_i id off i blk K hf V
  cases q
  refine⟨[],.nil,fun _=> .nil,fun k=> ?_⟩
  show eQ stX id (fun b=>fT (Nat.mul 0 sz) off b.cells fun cs=>k cs 0)=_
  rw[iC (j id K) (by rw[f.heap];exact hf),show Nat.mul 0 sz=0 from bL8 sz,jY _ _ _ _ (by omega)];rfl
 ·rename_i g off len cap i u hc
  split at q
  ·next hs=>
   rw[bJG]at q
   obtain⟨l,e,q⟩:=q
   cases q
   obtain⟨c1,c2⟩:=xR e
   obtain⟨blk,h1,h2,w⟩:=A.obj g u.1 hs.2.2
   refine⟨_,c2 ▸ (w.drop off).take (m*sz),fun H=> ?_,fun k=> ?_⟩
   ·obtain⟨blk',g1,g2,g3⟩:=H g u.1 hs.2.2 u.2
    rw[h1]at g1
    cases g1
    exact c2 ▸ (g3.drop off).take (m*sz)
   ·show eQ stX (bet g).1 (fun b=>fT (Nat.mul m sz) off b.cells fun cs=>k cs m)=_
    rw[iC (Q _ _ _ _ rfl u) ⟨by rw[f.heap];exact h1,w.nm⟩]
    show fT (m*sz) off blk.cells _=_
    rw[jY _ _ _ _ (by rw[w.length];exact c1)]
  ·cases q
 ·cases q;exact⟨[],.nil,fun _=> .nil,fun k=>rfl⟩
 ·cases q;exact⟨[],.nil,fun _=> .nil,fun k=>rfl⟩
 ·rename_i id off i cap blk K hf V
  cases q
  refine⟨[],.nil,fun _=> .nil,fun k=> ?_⟩
  show eQ stX id (fun b=>fT (Nat.mul 0 sz) off b.cells fun cs=>k cs 0)=_
  rw[iC (j id K) (by rw[f.heap];exact hf),show Nat.mul 0 sz=0 from bL8 sz,jY _ _ _ _ (by omega)];rfl
def sX(φ:Nat->Prop)(st d:St):Nat->Prop:=fun y=>φ y\/(st.nxt.nat<=y/\y<d.nxt.nat)
theorem tH(f:aCL st stX)(blk:cK):dU st (stX.new blk)=st.new blk/\(stX.new blk).nxt=(st.new blk).nxt/\(stX.new blk).heap=(st.new blk).heap:=by
 have R:(stX.new blk).heap=(st.new blk).heap:=by rw[aQ5,aQ5,f.heap,f.nxt]
 have Z:(stX.new blk).nxt=(st.new blk).nxt:=by show Id.succ stX.nxt=Id.succ st.nxt;rw[f.nxt]
 refine⟨?_,Z,R⟩
 rw[nD,R,Z];rfl
theorem aIM(A:VI n0 st s bet F)(f:aCL st stX){t e:bR5}{x y v:TV}{ax ay:AV}(he:cW P t=some e)(tx:TR st.heap bet (KP s bet φ) (FP F φ) ax x)(ty:TR st.heap bet (KP s bet φ) (FP F φ) ay y)(j:∀id,FP F φ id->stX.vis id)
  (S:∀k off len sz,y= .ow k off len sz->KP s bet φ k->stX.vis (bet k).1) (T:∀k off len sz,x= .ow k off len sz->KP s bet φ k->stX.vis (bet k).1/\stX.ro<=(bet k).1.nat) (q:gT P e s x y=some (v,s')):
  ∃c d bet',dA n0 st s bet F (dU st d) s' bet' F/\TR d.heap bet' (KP s' bet' (sX φ st d)) (FP F (sX φ st d)) c v/\(∀k,pU P t ax ay stX k=k c d)/\((∀k off len sz,x≠ .ow k off len sz)->VC φ st s bet F->aHd st (dU st d) s s' bet/\aHk (sX φ st d) st (dU st d) s s' bet' F):=by
 unfold gT at q
 split at q
 case isFalse=>cases q
 case isTrue hc=>
 simp only[bJF]at q
 obtain⟨⟨cs,n⟩,R,q⟩:=q
 obtain⟨aS,ta,taC,ea⟩:=aXx A f ty j S R
 simp only at q
 have red:∀k,pU P t ax ay stX k=bQ (Nat.beq n 0) (iG ax (k ax stX) (k ax stX) fun _ _ _ _ _=>k ax stX) (bQ (Nat.ble n 10000000&&jG aS) (iG ax (uY stX (aY P e) aS n k) none fun id off len cap i=>
   bQ (Nat.beq i (aY P e)&&Nat.ble len 10000000) (Option.rec (uP stX (aY P e) id off len n aS k) (fun c=>oN stX (aY P e) id off len n c aS k) cap) none) none):=fun k=>by
  rw[aOr he hc]
  unfold wH
  rw[ea]
 have sz0:=aNR hc
 have L:dU st stX=st:=by rw[nD,f.heap,f.nxt]
 have fresh:∀ {len:Nat} {cells:List AV} {tcs:List TV} {s1:VS},dA n0 st s bet F ((st.new ⟨cells,false⟩)) (s1.new tcs) (gS bet s1.nxt (st.nxt,cells.length)) F->s1.nxt=s.nxt->TR (st.new ⟨cells,false⟩).heap (gS bet s1.nxt (st.nxt,cells.length)) (KP (s1.new tcs) (gS bet s1.nxt (st.nxt,cells.length)) (sX φ st (stX.new ⟨cells,false⟩))) (FP F (sX φ st (stX.new ⟨cells,false⟩))) (.sl st.nxt 0 len none (aY P e)) (.ow s.nxt 0 len (aY P e)):=fun {len cells tcs s1} p hn=>by
  have M:gS bet s1.nxt (st.nxt,cells.length) s1.nxt=(st.nxt,cells.length):=iT _ _ _
  have:=TR.ow (h:=(st.new ⟨cells,false⟩).heap) (bet:=gS bet s1.nxt (st.nxt,cells.length)) (nx:=KP (s1.new tcs) (gS bet s1.nxt (st.nxt,cells.length)) (sX φ st (stX.new ⟨cells,false⟩))) (F:=FP F (sX φ st (stX.new ⟨cells,false⟩))) (k:=s1.nxt) (off:=0) (len:=len) (cap:=none) (sz:=aY P e) ⟨bJT _,by
   rw[M];right;refine⟨bJE _, ?_⟩;rw[(tH f _).2.1,mE];exact bJT _⟩ (fun c hc=>by cases hc)
  rw[M,hn]at this
  rw[hn]
  exact this
 have freshC:∀ {cells:List AV} {tcs:List TV},dA n0 st s bet F (st.new ⟨cells,false⟩) (s.new tcs) (gS bet s.nxt (st.nxt,cells.length)) F->bM st.heap bet (KP s bet φ) (FP F φ) cells tcs->
   aHd st (st.new ⟨cells,false⟩) s (s.new tcs) bet/\aHk (sX φ st (stX.new ⟨cells,false⟩)) st (st.new ⟨cells,false⟩) s (s.new tcs) (gS bet s.nxt (st.nxt,cells.length)) F:=fun {cells tcs} p a'=>by
  refine⟨fun k u hh=> ?_,fun k h2 w hh=> ?_⟩
  ·have:(s.new tcs).ob k=s.ob k:=if_neg (by omega)
   rw[this]at hh ⊢
   exact⟨hh,rfl,vM st _ (A.rng k u).2⟩
  ·obtain rfl:k=s.nxt:=by have:k<s.nxt+1:=w;omega
   have:(s.new tcs).ob s.nxt=⟨0,tcs⟩:=if_pos rfl
   rw[this,iT]
   exact⟨bJE _,⟨cells,false⟩,aIS st _,rfl,a'.mono (aCy p fun y hy=> .inl hy)⟩
 split at q
 ·next h0=>
  have:v=x/\s'=s/\∀k:KS,iG ax (k ax stX) (k ax stX) (fun _ _ _ _ _=>k ax stX)=k ax stX:=by
   cases tx<;>simp only at q<;>try (cases q;done)
   all_goals (cases q;exact⟨rfl,rfl,fun k=>rfl⟩)
  obtain⟨rfl,rfl,u⟩:=this
  refine⟨ax,stX,bet,by rw[L];exact dA.refl A,by rw[f.heap];exact tx.mono (mC (fun y hy=> .inl hy) _),fun k=> ?_,fun _ _=>by rw[L];exact⟨fun k _ hh=>⟨hh,rfl,rfl⟩,fun k h1 h2=>absurd h1 (by omega)⟩⟩
  rw[red,dK (beq_true h0),u]
 ·next h0=>
  split at q
  case isFalse=>cases q
  case isTrue hn=>
  have red2:∀k,pU P t ax ay stX k=iG ax (uY stX (aY P e) aS n k) none fun id off len cap i=>
   bQ (Nat.beq i (aY P e)&&Nat.ble len 10000000) (Option.rec (uP stX (aY P e) id off len n aS k) (fun c=>oN stX (aY P e) id off len n c aS k) cap) none:=fun k=>by
   rw[red,beq_false h0]
   show bQ (Nat.ble n 10000000&&jG aS) _ none=_
   rw[dK (by rw[eK hn.1,vO ta hn.2];rfl)]
  cases tx<;>simp only at q<;>try (cases q;done)
  ·-- onto nothing
   cases q
   have p:=A.new (blk:=⟨aS,false⟩) ta
   refine⟨.sl st.nxt 0 n none (aY P e),stX.new ⟨aS,false⟩,_,by rw[(tH f _).1];exact p,by rw[(tH f _).2.2];exact fresh p rfl,fun k=> ?_,fun _ H=>by rw[(tH f _).1];exact freshC p (taC H)⟩
   rw[red2]
   show k (.sl stX.nxt 0 n none (aY P e)) (stX.new ⟨aS,false⟩)=_
   rw[f.nxt]
  ·-- onto what has no room
   rename_i id off sz blk K hf V
   split at q
   ·next hs=>
    cases q
    subst hs
    have p:=A.new (blk:=⟨aS,false⟩) ta
    refine⟨.sl st.nxt 0 n none (aY P e),stX.new ⟨aS,false⟩,_,by rw[(tH f _).1];exact p,by rw[(tH f _).2.2];exact fresh p rfl,fun k=> ?_,fun _ H=>by rw[(tH f _).1];exact freshC p (taC H)⟩
    rw[red2]
    show bQ (Nat.beq (aY P e) (aY P e)&&Nat.ble 0 10000000) (oN stX (aY P e) id off 0 n 0 aS k) none=_
    rw[dK (by rw[beq_true rfl];rfl)]
    unfold oN
    rw[show Nat.ble (Nat.add 0 n) 0=false from aBC (by show 0<0+n;omega)]
    show uR stX (aY P e) id off 0 n aS k=_
    unfold uR
    rw[iC (j id K) (by rw[f.heap];exact hf),show Nat.mul 0 (aY P e)=0 from bL8 _,jY _ _ _ _ (by omega)]
    unfold uY
    rw[tG]
    show k (.sl stX.nxt 0 (0+n) none (aY P e)) (stX.new ⟨[]++aS,false⟩)=_
    rw[bKi,bKA,f.nxt]
   ·cases q
  ·-- onto one's own
   rename_i g off len cap sz u O
   split at q
   case isFalse=>cases q
   case isTrue U=>
   obtain⟨rfl,hs,_,E,B,r⟩:=U
   subst hs
   cases q
   obtain⟨blk,h1,h2,w⟩:=A.obj g u.1 (by rw[E];decide)
   have I:=w.length
   obtain⟨C,J⟩:=T _ _ _ _ rfl u
   have W:Tr.find (bet g).1 stX.heap=some blk:=by rw[f.heap];exact h1
   cases cap with
   | none=>
    have d:=A.put u.1 E (ob:=none) (o:=⟨2,[]⟩) (.inr rfl) (fun h=>by cases h)
    have D:=d.inv.new (blk:=⟨blk.cells++aS,false⟩) (cs:=(s.ob g).cs++cs) ((w.mono d.sb).app (ta.mono d.sb))
    have b':aCL (st.withH (Tr.put none (bet g).1 st.heap)) (stX.withH (Tr.put none (bet g).1 stX.heap)):=⟨by show Tr.put none (bet g).1 stX.heap=Tr.put none (bet g).1 st.heap;rw[f.heap],f.nxt⟩
    obtain⟨l1,l2,l3⟩:=tH b' ⟨blk.cells++aS,false⟩
    have c':dU st ((stX.withH (Tr.put none (bet g).1 stX.heap)).new ⟨blk.cells++aS,false⟩)=(st.withH (Tr.put none (bet g).1 st.heap)).new ⟨blk.cells++aS,false⟩:=by
     rw[←l1,nD,nD];rfl
    refine⟨.sl st.nxt 0 (len+n) none (aY P e),(stX.withH (Tr.put none (bet g).1 stX.heap)).new ⟨blk.cells++aS,false⟩,_,by rw[c'];exact d.trans D, ?_,fun k=> ?_,fun hx=>absurd rfl (hx _ _ _ _)⟩
    ·rw[l3]
     have M:gS bet s.nxt (st.nxt,(blk.cells++aS).length) s.nxt=(st.nxt,(blk.cells++aS).length):=iT _ _ _
     have:=TR.ow (h:=((st.withH (Tr.put none (bet g).1 st.heap)).new ⟨blk.cells++aS,false⟩).heap) (bet:=gS bet s.nxt (st.nxt,(blk.cells++aS).length)) (nx:=KP ((s.set g ⟨2,[]⟩).new ((s.ob g).cs++cs)) (gS bet s.nxt (st.nxt,(blk.cells++aS).length)) (sX φ st ((stX.withH (Tr.put none (bet g).1 stX.heap)).new ⟨blk.cells++aS,false⟩))) (F:=FP F (sX φ st ((stX.withH (Tr.put none (bet g).1 stX.heap)).new ⟨blk.cells++aS,false⟩))) (k:=s.nxt) (off:=0) (len:=len+n) (cap:=none) (sz:=aY P e) ⟨bJT _,by
      rw[M];right;refine⟨bJE _, ?_⟩;rw[mE];show st.nxt.nat<stX.nxt.nat+1;rw[f.nxt];exact bJT _⟩ (fun c hc=>by cases hc)
     rw[M]at this
     exact this
    ·rw[red2]
     show bQ (Nat.beq (aY P e) (aY P e)&&Nat.ble len 10000000) (uP stX (aY P e) (bet g).1 0 len n aS k) none=_
     rw[dK (by rw[beq_true rfl,eK r];rfl)]
     unfold uP
     show eQ stX (bet g).1 _=_
     rw[iC C ⟨W,w.nm⟩]
     show fT (len*aY P e) 0 blk.cells _=_
     rw[jY _ _ _ _ (by rw[I,B];omega),aAU J]
     rw[bJV,bJU (by rw[I,B];omega),tG]
     rw[show st.nxt=stX.nxt from f.nxt.symm]
     rfl
   | some c=>
    obtain⟨g1,g2⟩:=O c rfl
    have g':c=len:=by
     have:c*aY P e=len*aY P e:=by omega
     exact Nat.eq_of_mul_eq_mul_right sz0 this
    have d:=A.dead u.1 E
    have D:=d.inv.new (blk:=⟨blk.cells++aS,false⟩) (cs:=(s.ob g).cs++cs) ((w.mono d.sb).app (ta.mono d.sb))
    refine⟨.sl st.nxt 0 (len+n) none (aY P e),stX.new ⟨blk.cells++aS,false⟩,_,by rw[(tH f _).1];exact d.trans D,by rw[(tH f _).2.2];exact fresh (s1:=s.set g ⟨2,[]⟩) (d.trans D) rfl,fun k=> ?_,fun hx=>absurd rfl (hx _ _ _ _)⟩
    rw[red2]
    show bQ (Nat.beq (aY P e) (aY P e)&&Nat.ble len 10000000) (oN stX (aY P e) (bet g).1 0 len n c aS k) none=_
    rw[dK (by rw[beq_true rfl,eK r];rfl)]
    unfold oN
    rw[show Nat.ble (Nat.add len n) c=false from aBC (by show c<len+n;omega)]
    show uR stX (aY P e) (bet g).1 0 len n aS k=_
    unfold uR
    rw[iC C ⟨W,w.nm⟩]
    show fT (len*aY P e) 0 blk.cells _=_
    rw[jY _ _ _ _ (by rw[I,B];omega)]
    rw[bJV,bJU (by rw[I,B];omega),tG]
    rw[show st.nxt=stX.nxt from f.nxt.symm]
    rfl
theorem bA0(A:VI n0 st s bet F)(f:aCL st stX){sz m n:Nat}{v:TV}{a:AV}{cs:List TV}(ta:TR st.heap bet (KP s bet φ) (FP F φ) a v)(j:∀id,FP F φ id->stX.vis id)(Q:∀k off len sz,v= .ow k off len sz->KP s bet φ k->stX.vis (bet k).1)(q:jC s sz v=some (cs,m))(hn:n<=m)(h0:0<n):∃is os c z b,a= .sl is os m c z/\stX.vis is/\FC stX.heap is b/\os+n*sz<=b.cells.length/\bM st.heap bet s.dom F ((b.cells.drop os).take (n*sz)) (cs.take (n*sz)):=by
 have G:=bK8 sz hn
 cases ta<;>simp only[jC]at q<;>try (cases q;done)
 ·cases q;omega
 ·split at q
  ·cases q;simp at hn;omega
  ·cases q
 ·split at q
  ·cases q;simp at hn;omega
  ·cases q
 ·rename_i id off len cap i blk cs' K hf V hc
  split at q
  ·next hs=>
   cases q
   have r:cs.length=len*i:=by rw[←hc.length];simp only[bJO,bK3];omega
   have e:cs.length/sz=len:=by rw[r,hs.1,bL0 _ hs.2]
   rw[e]at G
   rw[hs.1]at V hc
   refine⟨id,off,cap,i,blk,by rw[e],j id K,by rw[f.heap];exact hf,by omega, ?_⟩
   have:=(aPc hc).take (n*sz)
   rw[bKC,bK7 G]at this
   exact this
  ·cases q
 ·cases q;omega
 ·rename_i g off len cap i u hc
  split at q
  ·next hs=>
   rw[bJG]at q
   obtain⟨l,e,q⟩:=q
   cases q
   obtain⟨c1,c2⟩:=xR e
   obtain⟨blk,h1,h2,w⟩:=A.obj g u.1 hs.2.2
   refine⟨(bet g).1,off,cap,i,blk,rfl,Q _ _ _ _ rfl u,⟨by rw[f.heap];exact h1,w.nm⟩,by rw[w.length];omega, ?_⟩
   rw[c2,bKC,bK7 G]
   exact(w.drop off).take (n*sz)
  ·cases q
 ·cases q;omega
 ·cases q;omega
 ·cases q;omega
theorem bA7(A:VI n0 st s bet F)(f:aCL st stX){t e:bR5}{x y v:TV}{ax ay:AV}(he:cW P t=some e)(tx:TR st.heap bet (KP s bet φ) (FP F φ) ax x)(ty:TR st.heap bet (KP s bet φ) (FP F φ) ay y)(j:∀id,FP F φ id->stX.vis id)
  (S:∀k off len sz,y= .ow k off len sz->KP s bet φ k->stX.vis (bet k).1) (T:∀k off len sz,x= .ow k off len sz->KP s bet φ k->stX.vis (bet k).1/\stX.ro<=(bet k).1.nat) (q:uZ P e s x y=some (v,s')):
  ∃c d,dA n0 st s bet F (dU st d) s' bet F/\d.nxt=st.nxt/\(∀(h':Tr) (bet':Nat->Id×Nat) (nx:Nat->Prop) (F':Id->Prop),TR h' bet' nx F' c v)/\∀k,pZ P t ax ay stX k=k c d:=by
 unfold uZ at q
 split at q
 case isFalse=>cases q
 case isTrue hc=>
 have L:dU st stX=st:=by rw[nD,f.heap,f.nxt]
 cases tx<;>simp only at q<;>try (cases q;done)
 rename_i g off len cap sz u O
 split at q
 case isFalse=>cases q
 case isTrue U=>
 obtain⟨hs,_,E⟩:=U
 simp only[bJF]at q
 obtain⟨⟨cs,m⟩,R,q⟩:=q
 simp only at q
 have X:(Bool.rec (motive:=fun _=>Nat) len m (Nat.ble m len))=min m len:=by
  cases M:Nat.ble m len with
  |true=>exact(bK7 (bJP M)).symm
  |false=>
   have:¬m<=len:=fun h=>by rw[Nat.ble_eq_true_of_le h]at M;cases M
   have h2:len<=m:=by omega
   exact(Nat.min_eq_right h2).symm
 have red:∀k,pZ P t (.sl (bet g).1 off len cap sz) ay stX k=aBd (aY P e) (min m len) (.sl (bet g).1 off len cap sz) ay stX k:=fun k=>by
  rw[aOx he hc]
  show aCB ay (fun ls=>aBd (aY P e) (Bool.rec len ls (Nat.ble ls len)) _ ay stX k)=_
  rw[aMe (aFW ty) R,X]
 split at q
 ·next h0=>
  cases q
  refine⟨_,stX,by rw[L];exact dA.refl A,f.nxt,fun _ _ _ _=> .i _ _,fun k=> ?_⟩
  rw[red,h0]
  rfl
 ·next h0=>
  split at q
  case isFalse=>cases q
  case isTrue hn=>
  rw[bJG]at q
  obtain⟨cs',Z,q⟩:=q
  cases q
  generalize hN:min m len=N at*
  have d':N<=m:=by rw[←hN];exact Nat.min_le_left _ _
  obtain⟨is,os,c,z,b,rfl,C,hf,G,hT⟩:=bA0 A f ty j S R d' (by omega)
  obtain⟨p1,p2⟩:=aAj Z
  obtain⟨blk,h1,h2,w⟩:=A.obj g u.1 (by rw[E];decide)
  obtain⟨e',J⟩:=T _ _ _ _ rfl u
  have B:=hT.length
  rw[←hs]at G hT B
  have I:=w.length
  have f':bM st.heap bet s.dom F (blk.cells.take off++(b.cells.drop os).take (N*sz)++blk.cells.drop (off+((b.cells.drop os).take (N*sz)).length)) cs':=by
   rw[p2,B];exact((w.take off).app hT).app (w.drop _)
  have Y:=A.put (ob:=some ⟨blk.cells.take off++(b.cells.drop os).take (N*sz)++blk.cells.drop (off+((b.cells.drop os).take (N*sz)).length),blk.exact⟩) (o:=⟨0,cs'⟩) u.1 E (.inl rfl) (fun _=>⟨_,rfl,by
   show(blk.cells.take off++(b.cells.drop os).take (N*sz)++blk.cells.drop (off+((b.cells.drop os).take (N*sz)).length)).length=_
   rw[←h2];simp only[bJW,bJO,bK3]at*;omega,f'⟩)
  refine⟨.i .i64 N,stX.withH (Tr.put (some ⟨blk.cells.take off++(b.cells.drop os).take (N*sz)++blk.cells.drop (off+((b.cells.drop os).take (N*sz)).length),blk.exact⟩) (bet g).1 stX.heap), ?_,f.nxt,fun _ _ _ _=> .i _ _,fun k=> ?_⟩
  ·have:dU st (stX.withH (Tr.put (some ⟨blk.cells.take off++(b.cells.drop os).take (N*sz)++blk.cells.drop (off+((b.cells.drop os).take (N*sz)).length),blk.exact⟩) (bet g).1 stX.heap))=st.withH (Tr.put (some ⟨blk.cells.take off++(b.cells.drop os).take (N*sz)++blk.cells.drop (off+((b.cells.drop os).take (N*sz)).length),blk.exact⟩) (bet g).1 st.heap):=by
    rw[nD,f.heap]
    show(⟨_,stX.nxt,st.ro,st.hid⟩:St)=⟨_,st.nxt,st.ro,st.hid⟩
    rw[f.nxt]
    rfl
   rw[this]
   exact Y
  ·rw[red]
   unfold aBd
   rw[beq_false h0]
   show bQ (Nat.ble N 10000000) (eQ stX is fun b=>fT (Nat.mul N (aY P e)) os b.cells fun new=>bQ (jG new) (eQ stX (bet g).1 fun b2=>nM new off b2.cells fun cs=>nO stX (bet g).1 ⟨cs,b2.exact⟩ fun st=>k (.i .i64 N) st) none) none=_
   rw[dK (eK hn.1),iC C hf,←hs]
   show fT (N*sz) os b.cells _=_
   rw[jY _ _ _ _ G,dK (vO hT hn.2),iC e' ⟨by rw[f.heap];exact h1,w.nm⟩,aAx _ _ _ _ (by omega)]
   unfold nO
   rw[aAU J]
   rfl
end
end
section
section
variable {f:List bRa}{n0:Nat}{O:St}{s0:VS}{b0:Nat->Id×Nat}{F0:Id->Prop}{V:aT}{i:Nat}{N:Nat->Nat}{st st':St}{s s':VS}{bet bet':Nat->Id×Nat}{F F':Id->Prop}{L:aT}{r:bB}{b b':VO}{recs:List dM}{P:bR8}{pr:cN}{orc:cP}
theorem aNS{E:List bR5}{l:List TV}{v:TV}(q:aK P E l s=some (v,s')):∃t t' x y e e',E=[t,t']/\l=[x,y]/\cW P t'=some e'/\cW P t=some e/\gT P e s x y=some (v,s'):=by
 unfold aK at q
 split at q
 ·rename_i t t' x y
  split at q
  ·next hs=>
   simp only[bJF]at q
   obtain⟨e,e2,q⟩:=q
   obtain⟨e',hs⟩:=bMw.1 hs
   exact⟨t,t',x,y,e,e',rfl,rfl,hs,e2,q⟩
  ·cases q
 ·cases q
theorem aJv{args:Array bR7}{E:Array bR5}{t t' e':bR5}{D:aT}{ax ay:AV}(X:E.toList=[t,t'])(f':cW P t'=some e')(ha:∀k,jH args.toList D V k=k [ax,ay])(ih:IH)(stX:St)(k:KS):dD P pr (.call ⟨.builtin .append,args,E⟩) ih D V stX k=pU P t ax ay stX k:=by
 show jH args.toList D V (fun l=>wN l fun s x=>aHh P E.toList s x stX k)=_
 rw[ha,X]
 show(Option.rec (motive:=fun _=>AV->AV->St->KS->OR) (Bool.rec (fun _ _ _ _=>none) (aEr P t) (yT P t')) (fun _=>pU P t) (cW P t')) ax ay stX k=_
 rw[f']
theorem aE5(h:OI f n0 O s0 b0 F0 V i N st s bet F L r b recs)(u:eS f=true)(W:i<f.length){A:St}{n:Nat}(hn:n=A.nxt.nat):∀y,sX (gE f N i) st A y->FN f (Nx N i n) i y:=fun y hy=>by
 rcases hy with hy|hy
 ·exact aDh u W hy
 ·exact aIK (by rw[h.n_i];exact hy.1) (by rw[hn];exact hy.2)
theorem bM.two{h:Tr}{nx:Nat->Prop}{aS:List AV}{x y:TV}(t:bM h bet nx F aS [x,y]):∃ax ay,aS=[ax,ay]/\TR h bet nx F ax x/\TR h bet nx F ay y:=by
 cases t with |cons h1 t=>cases t with |cons h2 t=>cases t with |nil=>exact⟨_,_,rfl,h1,h2⟩
theorem aW1(h:OI f n0 O s0 b0 F0 V i N st s bet F L r b recs)(u:eS f=true){o:bRa}(Q:f[i]? =some o){args:Array bR7}{E:Array bR5}(B:o.op= .call ⟨.builtin .append,args,E⟩)(Y:(bJ f i).tot=true)(G:(jL (bJ f i).un b.recs).all VR.isQ=true){v:TV}
  (q:bK P (dC orc) o.op (dY (bJ f i).del r) s=some (v,s')):sE P pr f n0 O s0 b0 F0 V i o L r recs st v s' (b.turned .tt o.dst):=by
 have W:i<f.length:=(bKv.1 Q).1
 have H:=h.step.inv
 have K:=h.seen u W
 rw[B]at q
 simp only[bK,bJF]at q
 obtain⟨l,q1,q⟩:=q
 simp only[jM]at q
 obtain⟨t,t',x,y,e,e',X,rfl,f',he,q⟩:=aNS q
 obtain⟨aS,ta,ea⟩:=tJ K q1
 obtain⟨ax,ay,rfl,tx,ty⟩:=ta.two
 have I:∀p∈cH (bJ f i).un recs [],∀z,gE f N i z->¬(p.1<=z/\z<p.2):=fun p hp=>by
  rcases h.hid_q u W G hp with hp|hp
  ·cases hp
  ·exact hp
 obtain⟨c,A,bet',Z,tc,a',_⟩:=aIM (φ:=gE f N i) (stX:=eB (cH (bJ f i).un recs []) st) H ⟨aBI _ _,aDB _ _⟩ he tx ty (fun id hF=>tU (H.vis id hF.1) fun p hp=>I p hp _ hF.2)
  (fun k _ _ _ _ J=>tU (lL H (H.rng k J.1).1) fun p hp=>I p hp _ J.2) (fun k _ _ _ _ J=>⟨tU (lL H (H.rng k J.1).1) fun p hp=>I p hp _ J.2,bJH (show(eB (cH (bJ f i).un recs []) st).ro<=n0 from H.ro) (H.rng k J.1).1⟩) q
 have T:(dU st A).nxt=A.nxt:=by rw[nD]
 have j':(dU st A).heap=A.heap:=by rw[nD]
 refine⟨_,dU st A,bet',F,_,_,h.next2 (b':=b.turned .tt o.dst) (a:=c) (R:=⟨st.nxt.nat,A.nxt.nat,cH (bJ f i).un recs [],[],none,st.heap,A.heap,true⟩) u Q Z (.inr ⟨rfl,by rw[j'];exact tc.mono (mC (aE5 h u W (by rw[T])) _)⟩) (fun hc=>by cases hc) rfl rfl (by rw[T]) trivial ⟨rfl,rfl⟩ (fun hc=>by cases hc),0,fun n _ rest kk=> ?_⟩
 rw[aDC (show eT o.op=none by rw[B];rfl) Y]
 show lY (dD P pr o.op (cC P pr true n) (dS (bJ f i).del L) V (eB (cH (bJ f i).un recs []) st) fW) _=_
 have:dD P pr o.op (cC P pr true n) (dS (bJ f i).del L) V (eB (cH (bJ f i).un recs []) st) fW=some (c,A):=by
  rw[B,aJv X f' ea,a']
  rfl
 rw[this]
 show bQ (lD _ _ (bJ f i).un recs) (rest _ (gA o.dst c L) V (dU st A) kk) none=_
 rw[dK (aDY h G)]
theorem aYf{E:List bR5}{l:List TV}{v:TV}(q:aCq P E l s=some (v,s')):∃t tl x y e,E=t::tl/\l=[x,y]/\cW P t=some e/\uZ P e s x y=some (v,s'):=by
 unfold aCq at q
 split at q
 ·rename_i t tl x y
  simp only[bJF]at q
  obtain⟨e,e2,q⟩:=q
  exact⟨t,tl,x,y,e,rfl,rfl,e2,q⟩
 ·cases q
theorem bFJ{args:Array bR7}{E:Array bR5}{t:bR5}{tl:List bR5}{D:aT}{ax ay:AV}(X:E.toList=t::tl)(ha:∀k,jH args.toList D V k=k [ax,ay])(ih:IH)(stX:St)(k:KS):dD P pr (.call ⟨.builtin .copy,args,E⟩) ih D V stX k=pZ P t ax ay stX k:=by
 show jH args.toList D V (fun l=>(Option.rec (motive:=fun _=>List AV->St->KS->OR) (fun _ _ _=>none) (fun t l st k=>wN l fun d s=>pZ P t d s st k) (E[0]?)) l stX k)=_
 rw[ha,show E[0]? =some t by rw[←bLD,X];rfl]
 rfl
theorem bAM(h:OI f n0 O s0 b0 F0 V i N st s bet F L r b recs)(u:eS f=true){o:bRa}(Q:f[i]? =some o){args:Array bR7}{E:Array bR5}(B:o.op= .call ⟨.builtin .copy,args,E⟩)(Y:(bJ f i).tot=true)(G:(jL (bJ f i).un b.recs).all VR.isQ=true){v:TV}
  (q:bK P (dC orc) o.op (dY (bJ f i).del r) s=some (v,s')):sE P pr f n0 O s0 b0 F0 V i o L r recs st v s' (b.turned .tt o.dst):=by
 have W:i<f.length:=(bKv.1 Q).1
 have H:=h.step.inv
 have K:=h.seen u W
 rw[B]at q
 simp only[bK,bJF]at q
 obtain⟨l,q1,q⟩:=q
 simp only[jM]at q
 obtain⟨t,tl,x,y,e,X,rfl,he,q⟩:=aYf q
 obtain⟨aS,ta,ea⟩:=tJ K q1
 obtain⟨ax,ay,rfl,tx,ty⟩:=ta.two
 have I:∀p∈cH (bJ f i).un recs [],∀z,gE f N i z->¬(p.1<=z/\z<p.2):=fun p hp=>by
  rcases h.hid_q u W G hp with hp|hp
  ·cases hp
  ·exact hp
 obtain⟨c,A,Z,a9,tc,a'⟩:=bA7 (φ:=gE f N i) (stX:=eB (cH (bJ f i).un recs []) st) H ⟨aBI _ _,aDB _ _⟩ he tx ty (fun id hF=>tU (H.vis id hF.1) fun p hp=>I p hp _ hF.2)
  (fun k _ _ _ _ J=>tU (lL H (H.rng k J.1).1) fun p hp=>I p hp _ J.2) (fun k _ _ _ _ J=>⟨tU (lL H (H.rng k J.1).1) fun p hp=>I p hp _ J.2,bJH (show(eB (cH (bJ f i).un recs []) st).ro<=n0 from H.ro) (H.rng k J.1).1⟩) q
 have T:(dU st A).nxt=A.nxt:=by rw[nD]
 refine⟨_,dU st A,bet,F,_,_,h.next2 (b':=b.turned .tt o.dst) (a:=c) (R:=⟨st.nxt.nat,A.nxt.nat,cH (bJ f i).un recs [],[],none,st.heap,A.heap,true⟩) u Q Z (.inr ⟨rfl,tc _ _ _ _⟩) (fun hc=>by cases hc) rfl rfl (by rw[T]) trivial ⟨rfl,rfl⟩ (fun hc=>by cases hc),0,fun n _ rest kk=> ?_⟩
 rw[aDC (show eT o.op=none by rw[B];rfl) Y]
 show lY (dD P pr o.op (cC P pr true n) (dS (bJ f i).del L) V (eB (cH (bJ f i).un recs []) st) fW) _=_
 have:dD P pr o.op (cC P pr true n) (dS (bJ f i).del L) V (eB (cH (bJ f i).un recs []) st) fW=some (c,A):=by
  rw[B,bFJ X ea,a']
  rfl
 rw[this]
 show bQ (lD _ _ (bJ f i).un recs) (rest _ (gA o.dst c L) V (dU st A) kk) none=_
 rw[dK (aDY h G)]
theorem aVR(h:OI f n0 O s0 b0 F0 V i N st s bet F L r b recs)(u:eS f=true){o:bRa}(Q:f[i]? =some o){ee:bB}(y':ER st.heap bet s.dom F .nil V ee){args:Array bR7}{E:Array bR5}(B:o.op= .call ⟨.builtin .append,args,E⟩)(hc:b.clean=true){x:VR}{l:List TV}{v:TV}
  (hw:wP ee s (bJ f i) b=some x) (hl:lQ (dY (bJ f i).del r) args.toList=some l) (c':∀k off len sz m,l≠ .ow k off len sz::m) (d':aGM x l=true) (q:bK P (dC orc) o.op (dY (bJ f i).del r) s=some (v,s')):sE P pr f n0 O s0 b0 F0 V i o L r recs st v s' (b.made x o.dst):=by
 have W:i<f.length:=(bKv.1 Q).1
 have H:=h.step.inv
 have K:=h.seen u W
 have p':eT o.op=none:=by rw[B];rfl
 rw[B]at q
 simp only[bK,bJF]at q
 obtain⟨l',q1,q⟩:=q
 rw[hl]at q1
 cases q1
 simp only[jM]at q
 obtain⟨t,t',x',y,e,e',X,rfl,f',he,q⟩:=aNS q
 obtain⟨aS,ta,ea⟩:=tJ K hl
 obtain⟨ax,ay,rfl,tx,ty⟩:=ta.two
 have c':∀k off len sz,x'≠ .ow k off len sz:=fun k off len sz e=>c' k off len sz [y] (by rw[e])
 unfold wP at hw
 split at hw
 ·next Y=>
  split at hw
  case isFalse=>cases hw
  case isTrue G=>
  cases hw
  have I:∀p∈cH (bJ f i).un recs [],∀z,gE f N i z->¬(p.1<=z/\z<p.2):=fun p hp=>by
   rcases h.hid_q u W G hp with hp|hp
   ·cases hp
   ·exact hp
  obtain⟨c,A,bet',Z,tc,a',g'⟩:=aIM (φ:=gE f N i) (stX:=eB (cH (bJ f i).un recs []) st) H ⟨aBI _ _,aDB _ _⟩ he tx ty (fun id hF=>tU (H.vis id hF.1) fun p hp=>I p hp _ hF.2)
   (fun k _ _ _ _ J=>tU (lL H (H.rng k J.1).1) fun p hp=>I p hp _ J.2) (fun k _ _ _ e _=>absurd e (c' _ _ _ _)) q
  have T:(dU st A).nxt=A.nxt:=by rw[nD]
  have j':(dU st A).heap=A.heap:=by rw[nD]
  obtain⟨c1,c2⟩:=g' c' (h.vc u W hc)
  refine⟨_,dU st A,bet',F,_,_,h.next2 (b':=b.made .tt o.dst) (a:=c) (R:=⟨st.nxt.nat,A.nxt.nat,cH (bJ f i).un recs [],[],none,st.heap,A.heap,true⟩) u Q Z (.inr ⟨rfl,by rw[j'];exact tc.mono (mC (aE5 h u W (by rw[T])) _)⟩)
   (fun _=>⟨hc,c1,fun k h1 h2 h3=>by obtain⟨d1,blk,d2,d3,d4⟩:=c2 k h1 h2 h3;exact⟨d1,blk,d2,d3,d4.mono (mC (aE5 h u W (by rw[T])) _)⟩⟩) rfl rfl (by rw[T]) trivial ⟨rfl,rfl⟩ (fun _ k ad e=>by cases e),0,fun n _ rest kk=> ?_⟩
  rw[aDC p' Y]
  show lY (dD P pr o.op (cC P pr true n) (dS (bJ f i).del L) V (eB (cH (bJ f i).un recs []) st) fW) _=_
  have:dD P pr o.op (cC P pr true n) (dS (bJ f i).del L) V (eB (cH (bJ f i).un recs []) st) fW=some (c,A):=by
   rw[B,aJv X f' ea,a']
   rfl
  rw[this]
  show bQ (lD _ _ (bJ f i).un recs) (rest _ (gA o.dst c L) V (dU st A) kk) none=_
  rw[dK (aDY h G)]
 ·next Y=>
  have Y:(bJ f i).tot=false:=by simpa using Y
  rw[bJG]at hw
  obtain⟨ad,hw,rfl⟩:=hw
  obtain⟨ah,g1,g2,g3⟩:=aEb y' hw
  have I:∀p∈cH (bJ f i).un recs ah,(∃k∈ad,p=((bet k).1.nat,(bet k).1.nat+1))\/∀z,gE f N i z->¬(p.1<=z/\z<p.2):=fun p hp=>by
   rcases h.hid_clean u W hc hp with hp|hp
   ·exact .inl (g2 p hp)
   ·exact .inr hp
  obtain⟨c,A,bet',Z,tc,a',g'⟩:=aIM (φ:=gE f N i) (stX:=dR (cH (bJ f i).un recs ah) st) H ⟨aIW _ _,aC9 _ _⟩ he tx ty
   (fun id hF=>aC6 (H.vis id hF.1) fun p hp hh=>by
    rcases I p hp with ⟨k,J,rfl⟩|hd
    ·have:id=(bet k).1:=Id.nat_inj (by simp only at hh;omega)
     exact H.sep k (g3 k J).1 (g3 k J).2.1 (this ▸ hF.1)
    ·exact hd _ hF.2 hh)
   (fun k off len sz hy J=>aC6 (lL H (H.rng k J.1).1) fun p hp hh=>by
    rcases I p hp with ⟨k',i',rfl⟩|hd
    ·have z':k'≠k:=fun e=>by
      subst e
      rw[hy]at d'
      simp only[aGM]at d'
      rw[bKL.2 i']at d'
      cases d'
     have:=aGf H (g3 k' i').1 J.1 z'
     simp only at hh
     omega
    ·exact hd _ J.2 hh) (fun k _ _ _ e _=>absurd e (c' _ _ _ _)) q
  have T:(dU st A).nxt=A.nxt:=by rw[nD]
  have j':(dU st A).heap=A.heap:=by rw[nD]
  obtain⟨c1,c2⟩:=g' c' (h.vc u W hc)
  refine⟨_,dU st A,bet',F,_,_,h.next2 (b':=b.made (.cl ad) o.dst) (a:=c) (R:=⟨st.nxt.nat,A.nxt.nat,cH (bJ f i).un recs ah,[],none,st.heap,A.heap,false⟩) u Q Z (.inr ⟨rfl,by rw[j'];exact tc.mono (mC (aE5 h u W (by rw[T])) _)⟩)
   (fun _=>⟨hc,c1,fun k h1 h2 h3=>by obtain⟨d1,blk,d2,d3,d4⟩:=c2 k h1 h2 h3;exact⟨d1,blk,d2,d3,d4.mono (mC (aE5 h u W (by rw[T])) _)⟩⟩) rfl rfl (by rw[T]) (fun k' i'=>(g3 k' i').1) ⟨rfl,rfl,rfl,fun k' i'=>rZ (aD4 _ _ _ (g3 k' i').2.2) (bJE _) (bJT _)⟩ (fun _ k ad e=>by cases e),0,fun n _ rest kk=> ?_⟩
  rw[aJs p' Y (by rw[B];rfl)]
  show rM (bJ f i).adr V (fun ah=>lY (dD P pr o.op (cC P pr true n) (dS (bJ f i).del L) V (dR (cH (bJ f i).un recs ah) st) fW) _)=_
  rw[g1]
  have:dD P pr o.op (cC P pr true n) (dS (bJ f i).del L) V (dR (cH (bJ f i).un recs ah) st) fW=some (c,A):=by
   rw[B,aJv X f' ea,a']
   rfl
  rw[this]
  rfl
theorem aVK(h:OI f n0 O s0 b0 F0 V i N st s bet F L r b recs)(u:eS f=true){o:bRa}(Q:f[i]? =some o){t:bR5}{xa xv:bR7}(B:o.op= .store t xa xv)(Y:(bJ f i).tot=true)(G:(jL (bJ f i).un b.recs).all VR.isQ=true){v:TV}
  (q:bK P (dC orc) o.op (dY (bJ f i).del r) s=some (v,s')):sE P pr f n0 O s0 b0 F0 V i o L r recs st v s' (b.turned .tt o.dst):=by
 have W:i<f.length:=(bKv.1 Q).1
 have H:=h.step.inv
 have K:=h.seen u W
 rw[B]at q
 simp only[bK]at q
 split at q
 case isFalse=>cases q
 case isTrue a0=>
 simp only[bJF,bJG]at q
 obtain⟨av,qa,w,qw,s1,qs,q⟩:=q
 simp only[bp]at q
 obtain⟨rfl,rfl⟩:=q
 obtain⟨a,ta,ea⟩:=fD K qa
 obtain⟨c,tc,ec⟩:=fD K qw
 unfold aAO at qs
 split at qs
 case h_2=>cases qs
 case h_1 k off=>
 have ha:a= .ptr (bet k).1 off/\KP s bet (gE f N i) k:=by
  cases ta with |po J=>exact⟨rfl,J⟩
 obtain⟨rfl,J⟩:=ha
 split at qs
 case isFalse=>cases qs
 case isTrue C=>
 rw[bJG]at qs
 obtain⟨cs,e1,rfl⟩:=qs
 obtain⟨p1,p2⟩:=aAj e1
 obtain⟨blk,h1,h2,h3⟩:=H.obj k J.1 (by rw[C.2.1];decide)
 have tcd:=aFW tc
 have tcc:=tcd.cells (fun l e=>by subst e;cases C.2.2.2)
 have g':=tcc.length
 have b2:=h3.length
 have a2:bM st.heap bet s.dom F (blk.cells.take off++c.cells++blk.cells.drop (off+c.cells.length)) cs:=by
  rw[p2,g'];exact((h3.take off).app tcc).app (h3.drop _)
 have Z:dA n0 st s bet F (st.withH (Tr.put (some ⟨blk.cells.take off++c.cells++blk.cells.drop (off+c.cells.length),blk.exact⟩) (bet k).1 st.heap)) (s.set k ⟨0,cs⟩) bet F:=H.put J.1 C.2.1 (.inl rfl) (fun _=>⟨_,rfl,by
  show(blk.cells.take off++c.cells++blk.cells.drop (off+c.cells.length)).length=_
  rw[←h2];simp only[bJW,bJO,bK3];omega,a2⟩)
 have u':(eB (cH (bJ f i).un recs []) st).vis (bet k).1:=tU (lL H (H.rng k J.1).1) fun p hp=>by
  rcases h.hid_q u W G hp with hp|hp
  ·cases hp
  ·exact hp _ J.2
 refine⟨_,_,bet,F,_,_,h.next2 (b':=b.turned .tt o.dst) (a:= .u) (R:=⟨st.nxt.nat,st.nxt.nat,cH (bJ f i).un recs [],[],none,st.heap,Tr.put (some ⟨blk.cells.take off++c.cells++blk.cells.drop (off+c.cells.length),blk.exact⟩) (bet k).1 st.heap,true⟩) u Q Z (.inr ⟨rfl,.u⟩) (fun hc=>by cases hc) rfl rfl rfl trivial
  ⟨rfl,rfl⟩ (fun hc=>by cases hc),0,fun n _ rest kk=> ?_⟩
 rw[aDC (show eT o.op=none by rw[B];rfl) Y]
 show lY (dD P pr o.op (cC P pr true n) (dS (bJ f i).del L) V (eB (cH (bJ f i).un recs []) st) fW) _=_
 have:dD P pr o.op (cC P pr true n) (dS (bJ f i).del L) V (eB (cH (bJ f i).un recs []) st) fW=some (.u,⟨Tr.put (some ⟨blk.cells.take off++c.cells++blk.cells.drop (off+c.cells.length),blk.exact⟩) (bet k).1 st.heap,st.nxt,st.ro,(eB (cH (bJ f i).un recs []) st).hid⟩):=by
  rw[B]
  show aCc P t xa xv _ V _ fW=_
  unfold aCc
  rw[a0]
  show cF xa _ V _=_
  rw[ea,ec]
  show eQ (eB (cH (bJ f i).un recs []) st) (bet k).1 _=_
  rw[iC u' ⟨by rw[aBI];exact h1,h3.nm⟩,dK (beq_true (by rw[xX,g'];exact C.2.2.1)),dK (vO tcc C.2.2.2),aAx _ _ _ _ (by omega)]
  unfold nO
  rw[aAU (show(eB (cH (bJ f i).un recs []) st).ro<=_ from bJH (show st.ro<=n0 from H.ro) (H.rng k J.1).1)]
  rfl
 rw[this]
 show bQ (lD _ _ (bJ f i).un recs) (rest _ (gA o.dst .u L) V _ kk) none=_
 rw[dK (aDY h G)]
 rfl
theorem aZE(m':mR P pr orc)(h:OI f n0 O s0 b0 F0 V i N st s bet F L r b recs)(u:eS f=true){o:bRa}(Q:f[i]? =some o){e:bB}(he:ER st.heap bet s.dom F .nil V e){v:TV}(q:iJ P orc e o (bJ f i) b (dY (bJ f i).del r) s=some (v,s',b')):
  sE P pr f n0 O s0 b0 F0 V i o L r recs st v s' b':=by
 unfold iJ at q
 split at q
 ·next hs=>
  split at q
  ·next hq=>exact bA6 h u Q hs hq q
  ·cases q
 ·next a hs=>
  split at q
  ·next C=>
   rw[bJI]at C
   have B:∃t,o.op= .load t a:=by
    generalize o.op=op at hs
    unfold eT at hs
    split at hs<;>first|(cases hs;done)|(cases hs;exact⟨_,rfl⟩)
   obtain⟨t,B⟩:=B
   split at q
   ·next y hy=>
    cases q
    simp only[bJF,bJG]at hy
    obtain⟨av,qa,⟨w,s1⟩,qo,q⟩:=hy
    simp only[bp]at q
    obtain⟨rfl,rfl,rfl⟩:=q
    exact aZp h u Q B C.1 C.2 qa qo
   ·simp only[bJF,bJG]at q
    obtain⟨av,qa,⟨w,s1⟩,qo,q⟩:=q
    simp only[bp]at q
    obtain⟨rfl,rfl,rfl⟩:=q
    exact aXD h u Q B C.1 C.2 qa qo
  ·cases q
 ·next hs=>
  split at q
  ·next t xa xv B=>
   have S:o.op= .store t xa xv:=B
   split at q
   ·next Y=>
    split at q
    ·next G=>
     rw[bJG]at q
     obtain⟨⟨w,s1⟩,qo,q⟩:=q
     simp only[bp]at q
     obtain⟨rfl,rfl,rfl⟩:=q
     exact aVK h u Q S Y G qo
    ·cases q
   ·next Y=>
    have Y:(bJ f i).tot=false:=by simpa using Y
    simp only[bJF]at q
    obtain⟨av,qa,q⟩:=q
    split at q
    ·next k off=>
     simp only[bJF]at q
     obtain⟨ad,qad,q⟩:=q
     split at q
     ·next C=>
      simp only[bJI,bKd]at C
      rw[bJG]at q
      obtain⟨⟨w,s1⟩,qo,q⟩:=q
      simp only[bp]at q
      obtain⟨rfl,rfl,rfl⟩:=q
      exact aWU h u Q he S Y qa qad C.1 C.2 qo
     ·cases q
    ·cases q
  ·next g args E B=>
   split at q
   ·next C=>
    simp only[bJI,bKd]at C
    simp only[bJF]at q
    obtain⟨ad,qad,⟨w,s1⟩,qo,q⟩:=q
    split at q
    ·next a3=>
     simp only[bo,bp]at q
     obtain⟨rfl,rfl,rfl⟩:=q
     have S:o.op= .call ⟨.value g,args,E⟩:=B
     exact aYF m' h u Q he S C.1 C.2 qad qo a3
    ·cases q
   ·cases q
  ·next args E B=>
   have S:o.op= .call ⟨.builtin .append,args,E⟩:=B
   simp only[bJF]at q
   obtain⟨l,ql,q⟩:=q
   split at q
   ·next k off len sz m=>
    split at q
    ·next C=>
     rw[bJI]at C
     rw[bJG]at q
     obtain⟨⟨w,s1⟩,qo,q⟩:=q
     simp only[bp]at q
     obtain⟨rfl,rfl,rfl⟩:=q
     exact aW1 h u Q S C.1 C.2 qo
    ·cases q
   ·next c'=>
    split at q
    ·next hc=>
     simp only[bJF]at q
     obtain⟨x,qx,q⟩:=q
     split at q
     ·next a'=>
      rw[bJG]at q
      obtain⟨⟨w,s1⟩,qo,q⟩:=q
      simp only[bp]at q
      obtain⟨rfl,rfl,rfl⟩:=q
      exact aVR h u Q he S hc qx ql (fun k off len sz m e=>c' k off len sz m e) a' qo
     ·cases q
    ·cases q
  ·next args E B=>
   have S:o.op= .call ⟨.builtin .copy,args,E⟩:=B
   split at q
   ·next C=>
    rw[bJI]at C
    rw[bJG]at q
    obtain⟨⟨w,s1⟩,qo,q⟩:=q
    simp only[bp]at q
    obtain⟨rfl,rfl,rfl⟩:=q
    exact bAM h u Q S C.1 C.2 qo
   ·cases q
  ·next a4 b3 b4 b5=>
   split at q
   ·next hq=>
    simp only[bJF]at q
    obtain⟨x,qx,q⟩:=q
    refine bBc h u Q he hs ?_ hq qx q
    cases B:o.op<;>first|rfl|(exact absurd B (a4 _ _ _))
   ·cases q
theorem bB1(m':mR P pr orc){all:Array bRa}(_:all.toList=f)(u:eS f=true){e:bB}(he:ER O.heap b0 s0.dom F0 .nil V e):∀(m:Nat) {i:Nat} {N:Nat->Nat} {st:St} {s:VS} {bet:Nat->Id×Nat} {F:Id->Prop} {L:aT} {r:bB} {b:VO} {recs:List dM} {r':bB} {s':VS},i+m=f.length->
  OI f n0 O s0 b0 F0 V i N st s bet F L r b recs->mQ P orc all e ((gP true f).drop i) b r s=some (r',s')->
  ∃L' st' bet' F',dA n0 O s0 b0 F0 st' s' bet' F'/\ER st'.heap bet' s'.dom F' L' V r'/\sQ L' f/\∃M,∀n,M<=n->∀k,rB P pr all (cC P pr true n) ((gP true f).drop i) recs L V st k=k L' st':=by
 intro m
 induction m with
 | zero=>
  intro i N st s bet F L r b recs r' s' W h q
  have e1:(gP true f).drop i=[]:=bN7 (by rw[aLZ];omega)
  rw[e1]at q
  simp only[mQ,bo,bp]at q
  obtain⟨rfl,rfl⟩:=q
  refine⟨L,st,bet,F,h.step,fun t v Y=> ?_, ?_,0,fun n _ k=>by rw[e1];rfl⟩
  ·obtain⟨a,h1,h2⟩:=h.slot t v Y
   rcases h2 with ⟨_,h2⟩|⟨_,j,_,_,h2⟩
   ·exact⟨a,h1,aFW h2⟩
   ·exact⟨a,h1,aFW h2⟩
  ·have:=h.has
   rwa [bJU (by omega)]at this
 | succ m ih=>
  intro i N st s bet F L r b recs r' s' W h q
  have v':i<f.length:=by omega
  have Q:f[i]? =some f[i]:=by simp [v']
  have hg:=aLU (ext:=true) Q
  obtain⟨a5,a6⟩:=bKv.1 hg
  have e1:(gP true f).drop i=(f[i],bJ f i)::(gP true f).drop (i+1):=by
   rw[bLx a5,a6]
  rw[e1]at q ⊢
  simp only[mQ,bJF]at q
  obtain⟨g,qg,q⟩:=q
  have a7:ER st.heap bet s.dom F .nil V e:=ER.mono h.step.sb he
  have K:=h.seen u v'
  have unf:∀n k,rB P pr all (cC P pr true n) ((f[i],bJ f i)::(gP true f).drop (i+1)) recs L V st k=aCt P all f[i] (bJ f i) (dD P pr f[i].op (cC P pr true n)) (rB P pr all (cC P pr true n) ((gP true f).drop (i+1))) recs L V st k:=fun n k=>rfl
  have stp:∀n k,aCt P all f[i] (bJ f i) (dD P pr f[i].op (cC P pr true n)) (rB P pr all (cC P pr true n) ((gP true f).drop (i+1))) recs L V st k=if g then nU P f[i] (bJ f i) (dD P pr f[i].op (cC P pr true n)) (rB P pr all (cC P pr true n) ((gP true f).drop (i+1))) recs L V st k else aKP f[i] (rB P pr all (cC P pr true n) ((gP true f).drop (i+1))) recs L V st k:=fun n k=>by
   unfold aCt
   cases w':(f[i]).guard with
   |none=>
    rw[w']at qg
    simp only[zS,bo]at qg
    subst qg
    rfl
   |some gg=>
    rw[w']at qg
    exact aJm K qg _ _
  cases g with
  |true=>
   simp only[if_true,bJF]at q
   obtain⟨⟨v,s1,b1⟩,q1,q⟩:=q
   obtain⟨N',st',bet',F',L',recs',h',M1,a8⟩:=aZE (pr:=pr) m' h u Q a7 q1
   obtain⟨L2,n',bet2,F2,k1,k2,k3,M2,o'⟩:=ih (by omega) h' q
   refine⟨L2,n',bet2,F2,k1,k2,k3,max M1 M2,fun n hn k=> ?_⟩
   rw[unf,stp,if_pos rfl,a8 n (by omega)]
   exact o' n (by omega) k
  | false=>
   simp only[bJQ,if_false]at q
   have h':=h.next2 (o:=f[i]) (v:= .u) (a:= .u) (b':=b.note .q) (R:=⟨st.nxt.nat,st.nxt.nat,[(0,st.nxt.nat)],[],none,st.heap,st.heap,false⟩) u Q (dA.refl h.step.inv) (.inl ⟨rfl,.u⟩) (fun hc=>⟨hc,fun k _ hh=>⟨hh,rfl,rfl⟩,fun k h1 h2=>absurd h1 (by omega)⟩) rfl rfl rfl trivial
    ⟨rfl,rfl,rfl,fun y hy=>rZ (p:=(0,st.nxt.nat)) (.head _) (bJJ _) hy⟩ (fun _ k ad e=>by cases e)
   obtain⟨L2,n',bet2,F2,k1,k2,k3,M2,o'⟩:=ih (by omega) h' q
   refine⟨L2,n',bet2,F2,k1,k2,k3,M2,fun n hn k=> ?_⟩
   rw[unf,stp,if_neg (by decide)]
   exact o' n hn k
theorem aDx(m':mR P pr orc):aAJ P pr orc:=by
 intro n0 U f V st s s' bet F e r' H he B b6 q
 have h:OI f.toList n0 st s bet F V 0 (fun _=>st.nxt.nat) st s bet F .nil e ⟨[],true,[]⟩ []:=by
  have allOld:∀id:Id,id.nat<st.nxt.nat->jO (fun _=>st.nxt.nat) id.nat:=fun id h=>h
  have up:Sb st.heap bet s.dom F st.heap bet (KP s bet (jO fun _=>st.nxt.nat)) (FP F (jO fun _=>st.nxt.nat)):=⟨fun _ _=>rfl,fun id h=>⟨h,H.lt id h⟩,fun k J=>⟨J,(H.rng k J).2⟩,fun _ _=>rfl⟩
  refine⟨dA.refl H,rfl,H.low,rfl,fun j hj=>absurd hj (by omega),fun t v Y=> ?_,fun o Q=>(by simp at Q),fun _ k J hh=> ?_,rfl,rfl,fun j hj=>absurd hj (by omega)⟩
  ·obtain⟨a,h1,h2⟩:=he t v Y
   exact⟨a,h1,.inl ⟨by simp,h2.mono up⟩⟩
  ·obtain⟨blk,h1,h2,h3⟩:=H.obj k J hh
   exact⟨_,.inl ⟨(H.rng k J).2,rfl⟩,blk,h1,h2,h3.mono up⟩
 have q':mQ P orc f e ((gP true f.toList).drop 0) ⟨[],true,[]⟩ e s=some (r',s'):=q
 obtain⟨L',st',bet',F',k1,k2,k3,M,hM⟩:=bB1 m' rfl B he f.toList.length (by omega) h q'
 exact⟨L',st',bet',F',k1,k2,k3,M,hM⟩
end
end
section
open Go Go.RowKit
mutual
inductive WT(w:bR3):bR4->TV->Prop
 |b (x:Bool):WT w (.bool x) (.b x)
 |int (k:bR6) (z:Int):WT w (.int k z) (.int k z)
 |str (x:ByteArray):WT w (.string x) (.str x)
 |lit {x:bR4} (h:aGE x):WT w x (.lit x)
 |err (t:bR5) (v:bR4):WT w (.iface t v) .err
 |u:WT w undef .u
 |nil:WT w (.slice none 0 0) .nil
 |imn (sz:Nat):WT w (.slice none 0 0) (.im sz [])
 |im0 (a:Addr) (c sz:Nat):WT w (.slice (some a) 0 c) (.im sz [])
 |im {p off len c sz:Nat} {cs:Array bR4} {el:bR5} {fr:Nat×Nat} {ts:List TV} (d:w.heap[p]? =some (.cells cs el fr)) (j:len<=c) (hs:off+c*sz<=cs.size) (hc:dF w ((cs.toList.drop off).take (len*sz)) ts):WT w (.slice (some ⟨p,off,none⟩) len c) (.im sz ts)
 |e0 {p off sz:Nat} {cs:Array bR4} {el:bR5} {fr:Nat×Nat} (d:w.heap[p]? =some (.cells cs el fr)) (hs:off<=cs.size):WT w (.slice (some ⟨p,off,none⟩) 0 0) (.e0 sz)
 |fn {f:Nat} {a b:List bR4} {va vb:List TV} (A:dF w a va) (B:dF w b vb):WT w (.func (.func f) a.toArray b.toArray) (.fn f va vb)
 |ag {vs:List bR4} {ts:List TV} (h:dF w vs ts):WT w (.agg vs.toArray) (.ag ts)
 |tp {vs:List bR4} {ts:List TV} (h:dF w vs ts):WT w (.tuple vs.toArray) (.tp ts)
 |emn:WT w (.slice none 0 0) .em
 |ems (a:Addr) (c:Nat):WT w (.slice (some a) 0 c) .em
inductive dF(w:bR3):List bR4->List TV->Prop
 |nil:dF w [] []
 |cons {v:bR4} {t:TV} {vs:List bR4} {ts:List TV} (h:WT w v t) (j:dF w vs ts):dF w (v::vs) (t::ts)
end
mutual
theorem WT.closed{w:bR3}{v:bR4}{t:TV}(h:WT w v t):cI t=true:=by
 cases h with
 |im d j hs hc=>simpa only[cI]using dF.closed hc
 |fn A B=>simp only[cI,dF.closed A,dF.closed B,bKr]
 |ag h=>simpa only[cI]using dF.closed h
 |tp h=>simpa only[cI]using dF.closed h
 |_=>rfl
theorem dF.closed{w:bR3}{v:List bR4}{t:List TV}(h:dF w v t):dI t=true:=by
 cases h with
 |nil=>rfl
 |cons h j=>simp only[dI,WT.closed h,dF.closed j,bKr]
end
mutual
theorem WT.ext{w w':bR3}(hx:∀p,p<w.heap.size->w'.heap[p]? =w.heap[p]?){v:bR4}{t:TV}(h:WT w v t):WT w' v t:=by
 cases h with
 |b x=>exact .b x
 |int k z=>exact .int k z
 |str x=>exact .str x
 |lit h=>exact .lit h
 |err t v=>exact .err t v
 |u=>exact .u
 |nil=>exact .nil
 |imn=>exact .imn _
 |im0=>exact .im0 _ _ _
 |im d j hs hc=>exact .im (by rw[hx _ (by rcases bJS _ w.heap.size with h|h;exact h;rw[bMk h]at d;cases d)];exact d) j hs (dF.ext hx hc)
 |e0 d hs=>exact .e0 (by rw[hx _ (by rcases bJS _ w.heap.size with h|h;exact h;rw[bMk h]at d;cases d)];exact d) hs
 |fn A B=>exact .fn (dF.ext hx A) (dF.ext hx B)
 |ag h=>exact .ag (dF.ext hx h)
 |tp h=>exact .tp (dF.ext hx h)
 |emn=>exact .emn
 |ems=>exact .ems _ _
theorem dF.ext{w w':bR3}(hx:∀p,p<w.heap.size->w'.heap[p]? =w.heap[p]?){v:List bR4}{t:List TV}(h:dF w v t):dF w' v t:=by
 cases h with
 |nil=>exact .nil
 |cons h j=>exact .cons (WT.ext hx h) (dF.ext hx j)
end
structure Pre(h:Tr)(n:Id)(Γ:aP)(F:Id->Prop)(w:bR3):Prop where
 blk:∀id b,Tr.find id h=some b->∃p s,Γ id=some (p,s)/\p<w.heap.size/\BR Γ b s (aCD w.heap[p]?)
 fresh:∀id:Id,n.nat<=id.nat->Γ id=none
 top:∀id:Id,n.nat<=id.nat->Tr.find id h=none
 glob:pT Γ
 lt:∀id,F id->id.nat<n.nat
structure uN(h:Tr)(n:Id)(Γ:aP)(F:Id->Prop)(h':Tr)(n':Id)(Γ':aP)(F':Id->Prop)(w:bR3):Prop where
 pre:Pre h' n' Γ' F' w
 le:aP.le Γ Γ'
 sub:∀id,F id->F' id
 fix:∀id:Id,id.nat<n.nat->Tr.find id h'=Tr.find id h
 nx:n.nat<=n'.nat
theorem uN.trans{w:bR3}{h1 h2 h3:Tr}{n1 I n3:Id}{G1 G2 G3:aP}{F1 F2 F3:Id->Prop}(a:uN h1 n1 G1 F1 h2 I G2 F2 w)(b:uN h2 I G2 F2 h3 n3 G3 F3 w):uN h1 n1 G1 F1 h3 n3 G3 F3 w:=
 ⟨b.pre,aP.le_trans a.le b.le,fun id h=>b.sub id (a.sub id h),fun id h=>(b.fix id (bJK h a.nx)).trans (a.fix id h),bJH a.nx b.nx⟩
theorem uN.sb{w:bR3}{h1 h2:Tr}{n1 I:Id}{G1 G2:aP}{F1 F2:Id->Prop}(d:Pre h1 n1 G1 F1 w)(a:uN h1 n1 G1 F1 h2 I G2 F2 w):Sb h1 eF eI F1 h2 eF eI F2:=
 ⟨fun id h=>a.fix id (d.lt id h),a.sub,fun _ h=>h,fun _ _=>rfl⟩
theorem bCc(v:bR4):∃a:AV,∀Γ,CR Γ a v:=by
 have main:∀n (v:bR4),SizeOf.sizeOf v<n->∃a:AV,∀Γ,CR Γ a v:=by
  intro n
  induction n with
  |zero=>intro v h;omega
  | succ n ih=>
   intro v C
   have many:∀l:List bR4,(∀x∈l,SizeOf.sizeOf x<n)->∃aS:List AV,∀Γ,bW Γ aS l:=by
    intro l
    induction l with
    |nil=>intro _;exact⟨[],fun _=> .nil⟩
    |cons x l Z=>
     intro j
     obtain⟨a,A⟩:=ih x (j x (.head _))
     obtain⟨aS,has⟩:=Z fun y hy=>j y (.tail _ hy)
     exact⟨a::aS,fun Γ=> .cons (A Γ) (has Γ)⟩
   by_cases h1:∃cs,v= .agg cs
   ·obtain⟨cs,rfl⟩:=h1
    obtain⟨aS,has⟩:=many cs.toList fun x hx=>by
     have:=Array.sizeOf_lt_of_mem (Array.mem_toList_iff.1 hx)
     simp only[Value.agg.sizeOf_spec]at C
     omega
    exact⟨.agg aS,fun Γ=> .agg (has Γ)⟩
   ·by_cases h2:∃cs,v= .tuple cs
    ·obtain⟨cs,rfl⟩:=h2
     obtain⟨aS,has⟩:=many cs.toList fun x hx=>by
      have:=Array.sizeOf_lt_of_mem (Array.mem_toList_iff.1 hx)
      simp only[Value.tuple.sizeOf_spec]at C
      omega
     exact⟨.tup aS,fun Γ=> .tup (has Γ)⟩
    ·exact⟨.v v,fun Γ=> .v ⟨fun cs e=>h1 ⟨cs,e⟩,fun cs e=>h2 ⟨cs,e⟩⟩⟩
 exact main _ v (bJT _)
theorem aNH:∀l:List bR4,∃aS:List AV,∀Γ,bW Γ aS l
 | []=>⟨[],fun _=> .nil⟩
 |v::l=>by
  obtain⟨a,A⟩:=bCc v
  obtain⟨aS,has⟩:=aNH l
  exact⟨a::aS,fun Γ=> .cons (A Γ) (has Γ)⟩
theorem bW.nm{Γ:aP}{l:List AV}{m:List bR4}(q:bW Γ l m):mS l=false:=by
 cases q with
 |nil=>rfl
 | cons A j=>cases A with
  |v hx=>
   rename_i x _ _
   show aE7 x=false
   unfold aE7
   split
   ·exact absurd rfl (hx.1 _)
   ·rfl
  |_=>rfl
section
variable {w:bR3}
theorem aDE{p:Nat}{o:Obj}(d:w.heap[p]? =some o):p<w.heap.size:=by
 rcases bJS p w.heap.size with h|h
 ·exact h
 ·rw[bMk h]at d;cases d
theorem Pre.add{h:Tr}{n:Id}{Γ:aP}{F:Id->Prop}(d:Pre h n Γ F w){p off:Nat}{cs:Array bR4}{el:bR5}{fr:Nat×Nat}(H:w.heap[p]? =some (.cells cs el fr)){m:Nat}{aS:List AV}(A:bW Γ aS ((cs.toList.drop off).take m))(hs:off+m<=cs.size):
  ∃b:cK,uN h n Γ F (Tr.put (some b) n h) (Id.succ n) (Γ.add n p cs.size) (fun id=>F id\/id=n) w/\FC (Tr.put (some b) n h) n b/\b.cells.length=off+m/\(b.cells.drop off).take m=aS:=by
 obtain⟨pre,J⟩:=aNH (cs.toList.take off)
 have hn:Γ n=none:=d.fresh _ (bJE _)
 have r:aP.le Γ (Γ.add n p cs.size):=aP.add_le hn _ _
 have a':pre.length=off:=by rw[(J Γ).length];simp;omega
 have c':aS.length=m:=by rw[A.length];simp;omega
 have K:bW Γ (pre++aS) (cs.toList.take (off+m)):=by
  have:cs.toList.take (off+m)=cs.toList.take off++(cs.toList.drop off).take m:=by rw[List.take_add]
  rw[this]
  exact(J Γ).app A
 have L:(pre++aS).length=off+m:=by simp [a',c']
 refine⟨⟨pre++aS,false⟩,⟨⟨fun id b B=> ?_,fun id hid=> ?_,fun id hid=> ?_,d.glob.mono r, ?_⟩,r,fun _ h=> .inl h,fun id hid=>Tr.put_other _ _ _ _ (fun e=>by rw[e]at hid;omega),by rw[Id.nat_succ];omega⟩,⟨Tr.put_same _ _ _,K.nm⟩,L, ?_⟩
 ·by_cases e:id=n
  ·subst e
   rw[Tr.put_same]at B
   cases B
   exact⟨p,cs.size,aP.add_self _ _ _ _,aDE H,BR.of (by rw[H];rfl) rfl (by show(pre++aS).length<=_;omega) (by show bW _ (pre++aS) (cs.toList.take (pre++aS).length);rw[L];exact K.mono r) (fun h=>by cases h)⟩
  ·rw[Tr.put_other _ _ _ _ (fun e'=>e e'.symm)]at B
   obtain⟨q,s,h1,h2,h3⟩:=d.blk id b B
   exact⟨q,s,r _ _ h1,h2,h3.mono r⟩
 ·rw[Id.nat_succ]at hid
  rw[aP.add_ne _ (fun e=>by rw[e]at hid;omega)]
  exact d.fresh id (by omega)
 ·rw[Id.nat_succ]at hid
  rw[Tr.put_other _ _ _ _ (fun e=>by rw[←e]at hid;omega)]
  exact d.top id (by omega)
 ·rintro id (M|rfl)
  ·rw[Id.nat_succ];have:=d.lt id M;omega
  ·rw[Id.nat_succ];omega
 ·show((pre++aS).drop off).take m=aS
  rw[List.drop_append_of_le_length (by omega),bN7 (by omega),bKA,bJU (by omega)]
mutual
theorem WT.build{v:bR4}{t:TV}(q:WT w v t){h:Tr}{n:Id}{Γ:aP}{F:Id->Prop}(d:Pre h n Γ F w):∃h' n' Γ' F' a,uN h n Γ F h' n' Γ' F' w/\CR Γ' a v/\TR h' eF eI F' a t:=by
 have rf:uN h n Γ F h n Γ F w:=⟨d,aP.le_refl _,fun _ h=>h,fun _ _=>rfl,bJE _⟩
 cases q with
 |b x=>exact⟨h,n,Γ,F,.b x,rf,.b x,.b x⟩
 |int k z=>cases z with
  |ofNat m=>exact⟨h,n,Γ,F,.i k m,rf,.i k m,.i k m⟩
  |negSucc m=>exact⟨h,n,Γ,F,.m k m,rf,.m k m,.m k m⟩
 |str x=>exact⟨h,n,Γ,F,.v (.string x),rf,.v ⟨fun _ e=>(by cases e),fun _ e=>(by cases e)⟩,.str x⟩
 |lit hx=>exact⟨h,n,Γ,F,.v v,rf,.v hx,.lit v hx⟩
 |err t u=>exact⟨h,n,Γ,F,.fn (.yield 2) [] [],rf,.anyE t u,.err⟩
 |u=>exact⟨h,n,Γ,F,.u,rf,.u,.u⟩
 |nil=>exact⟨h,n,Γ,F,.v (.slice none 0 0),rf,.v ⟨fun _ e=>(by cases e),fun _ e=>(by cases e)⟩,.nil⟩
 |imn sz=>exact⟨h,n,Γ,F,.v (.slice none 0 0),rf,.v ⟨fun _ e=>(by cases e),fun _ e=>(by cases e)⟩,.imv sz⟩
 |im0 a c sz=>exact⟨h,n,Γ,F,.se,rf,.se a c,.imse sz⟩
 |im H j hs hc=>
  rename_i p off len c sz cs el fr ts
  obtain⟨h1,n1,Γ1,F1,aS,s1,c1,t1⟩:=dF.build hc d
  have r:off+len*sz<=cs.size:=bJH (Nat.add_le_add_left (bK8 _ j) _) hs
  obtain⟨b,E,hf,d',O⟩:=s1.pre.add H c1 r
  refine⟨_,_,_,_,.sl n1 off len none sz,s1.trans E,.sl (aP.add_self _ _ _ _) j (fun k e=>by cases e) hs,.im (.inr rfl) hf (by omega) ?_⟩
  rw[O]
  exact t1.mono (E.sb s1.pre)
 |e0 H hs=>
  rename_i p off sz cs el fr
  obtain⟨b,E,hf,d',O⟩:=d.add (off:=off) (m:=0) (aS:=[]) H (by simpa using(bW.nil:bW Γ [] [])) (by omega)
  exact⟨_,_,_,_,.sl n off 0 (some 0) sz,E,.sl (aP.add_self _ _ _ _) (bJE _) (fun k e=>by cases e;rfl) (by omega),.e0 (.inr rfl) hf (by omega)⟩
 |fn A B=>
  obtain⟨h1,n1,Γ1,F1,a1,s1,c1,t1⟩:=dF.build A d
  obtain⟨h2,I,Γ2,F2,a2,E,c2,t2⟩:=dF.build B s1.pre
  exact⟨h2,I,Γ2,F2,.fn (.func _) a1 a2,s1.trans E,.fn (c1.mono E.le) c2,.fn (t1.mono (E.sb s1.pre)) t2⟩
 |ag j=>
  obtain⟨h1,n1,Γ1,F1,a1,s1,c1,t1⟩:=dF.build j d
  exact⟨h1,n1,Γ1,F1,.agg a1,s1,.agg c1,.ag t1⟩
 |tp j=>
  obtain⟨h1,n1,Γ1,F1,a1,s1,c1,t1⟩:=dF.build j d
  exact⟨h1,n1,Γ1,F1,.tup a1,s1,.tup c1,.tp t1⟩
 |emn=>exact⟨h,n,Γ,F,.v (.slice none 0 0),rf,.v ⟨fun _ e=>(by cases e),fun _ e=>(by cases e)⟩,.emv⟩
 |ems a c=>exact⟨h,n,Γ,F,.se,rf,.se a c,.emse⟩
theorem dF.build{v:List bR4}{t:List TV}(q:dF w v t){h:Tr}{n:Id}{Γ:aP}{F:Id->Prop}(d:Pre h n Γ F w):∃h' n' Γ' F' a,uN h n Γ F h' n' Γ' F' w/\bW Γ' a v/\bM h' eF eI F' a t:=by
 cases q with
 |nil=>exact⟨h,n,Γ,F,[],⟨d,aP.le_refl _,fun _ h=>h,fun _ _=>rfl,bJE _⟩,.nil,.nil⟩
 |cons C j=>
  obtain⟨h1,n1,Γ1,F1,a1,s1,c1,t1⟩:=WT.build C d
  obtain⟨h2,I,Γ2,F2,a2,E,c2,t2⟩:=dF.build j s1.pre
  exact⟨h2,I,Γ2,F2,a1::a2,s1.trans E,.cons (c1.mono E.le) c2,.cons (t1.mono (E.sb s1.pre)) t2⟩
end
mutual
theorem TR.world{st:St}{Γ:aP}{F:Id->Prop}(hs:dQ st Γ w)(C:∀id,F id->st.vis id){a:AV}{t:TV}(q:TR st.heap eF eI F a t)(hc:cI t=true){v:bR4}(c:CR Γ a v):WT w v t:=by
 cases q with
 |b x=>cases c;exact .b x
 |i k m=>cases c;exact .int k _
 |m k m=>cases c;exact .int k _
 |str x=>cases c;exact .str x
 |lit x=>cases c with |v h=>exact .lit h
 |err=>cases c with |anyE t v=>exact .err t v
 |u=>cases c;exact .u
 |nil=>cases c;exact .nil
 |imv sz=>cases c;exact .imn sz
 |imse sz=>cases c;exact .im0 _ _ sz
 | im M hf j f'=>
  rename_i id off len cap sz blk ts
  cases c with
  | sl hΓ Q G hsz=>
   rename_i p s c
   obtain⟨p',s',g1,g2,cs,el,g3,rfl,g5,g6,_⟩:=hs.blkc id blk ⟨⟨C id M,hf.hf⟩,hf.nm⟩
   rw[hΓ]at g1
   cases g1
   have g7:=(g6.drop off).take (len*sz)
   have e:((cs.toList.take blk.cells.length).drop off).take (len*sz)=(cs.toList.drop off).take (len*sz):=by
    rw[List.drop_take,bKC,bK7 (by omega)]
   rw[e]at g7
   exact .im g3 Q hsz (bM.world hs C f' (by simpa only[cI]using hc) g7)
 | e0 M hf j=>
  rename_i id off sz blk
  cases c with
  |sl hΓ Q G hsz=>
   rename_i p s c
   obtain⟨p',s',g1,g2,cs,el,g3,rfl,g5,g6,_⟩:=hs.blkc id blk ⟨⟨C id M,hf.hf⟩,hf.nm⟩
   rw[hΓ]at g1
   cases g1
   have:c=0:=G 0 rfl
   subst this
   exact .e0 g3 (by omega)
 |ow=>simp [cI]at hc
 |po=>simp [cI]at hc
 |pi=>simp [cI]at hc
 |fn A B=>
  simp only[cI,bJI]at hc
  cases c with |fn ca cb=>exact .fn (bM.world hs C A hc.1 ca) (bM.world hs C B hc.2 cb)
 |ag h=>cases c with |agg cl=>exact .ag (bM.world hs C h (by simpa only[cI]using hc) cl)
 |tp h=>cases c with |tup cl=>exact .tp (bM.world hs C h (by simpa only[cI]using hc) cl)
 |emv=>cases c;exact .emn
 |emse=>cases c;exact .ems _ _
 |ems M hf j=>cases c with |sl hΓ Q G hsz=>exact .ems _ _
theorem bM.world{st:St}{Γ:aP}{F:Id->Prop}(hs:dQ st Γ w)(C:∀id,F id->st.vis id){a:List AV}{t:List TV}(q:bM st.heap eF eI F a t)(hc:dI t=true){v:List bR4}(c:bW Γ a v):dF w v t:=by
 cases q with
 |nil=>cases c;exact .nil
 |cons A j=>
  simp only[dI,bJI]at hc
  cases c with |cons ca cl=>exact .cons (TR.world hs C A hc.1 ca) (bM.world hs C j hc.2 cl)
end
end
theorem aHT{P:bR8}{pr:cN}(U:P.follows .mixedOrders=true)(g':lH P pr)(i':mF P){f:bR9}{ts:List TV}{R:TV}{own:Bool}(h:jT P pr f ts R own){w:bR3}(S:fZ w){vs:List bR4}(H:dF w vs ts):
  Calls P f vs.toArray w fun e w'=>∃v,e= .returned v/\Below w.heap.size w w'/\WT w' v (pY R own):=by
 obtain⟨sz,S⟩:=S
 have j':Pre (aBh mO) (iH G0) (aP.own sz) (fun _=>False) w:=by
  refine⟨fun id b B=> ?_,fun id hid=> ?_,fun id hid=> ?_,fun g hg=>⟨sz g,aP.own_gid _ hg⟩,fun _ h=>h.elim⟩
  ·obtain⟨g,h1,rfl⟩:=aOa B
   obtain⟨h2,h3⟩:=S _ h1
   exact⟨g,sz g,aP.own_gid sz (aIE _ h1),h2,h3⟩
  ·rw[aC8]at hid
   rw[aP.own_at,if_neg (by omega)]
  ·cases hf:Tr.find id (aBh mO)with
   |none=>rfl
   |some b=>
    obtain⟨g,h1,rfl⟩:=aOa hf
    have:=aIE _ h1
    rw[aC8,aC8]at hid
    simp only at this;omega
 obtain⟨hh,n,Γ,F,aS,s1,c1,t1⟩:=H.build j'
 let st:St:=⟨hh,n,n.nat,[]⟩
 let Γ':aP:=⟨Γ.f,n.nat⟩
 have r:aP.le Γ Γ':=fun _ _ h=>h
 have V:dQ st Γ' w:=⟨fun id b B=>by
  obtain⟨p,s,g1,g2,g3⟩:=s1.pre.blk id b B.2
  refine⟨p,s,g1,g2, ?_⟩
  rw[thw,if_pos (by
   rcases bJS id.nat n.nat with h|h
   ·exact h
   ·have:=s1.pre.top id h
    rw[show Tr.find id hh=some b from B.2]at this;cases this)]
  exact g3.mono r,fun id k' b b' p s s' h1 h2 h3 _ _=>by
   have lt:∀ {id:Id} {b:cK},st.look id b->id.nat<n.nat:=fun {id b} j=>by
    rcases bJS id.nat n.nat with h|h
    ·exact h
    ·have:=s1.pre.top id h
     rw[show Tr.find id hh=some b from j.2]at this;cases this
   have l1:=lt h1
   have l2:=lt h2
   rcases h3 with h3|h3
   ·have h3:n.nat<=id.nat:=h3
    omega
   ·have h3:n.nat<=k'.nat:=h3
    omega,fun id hid=>s1.pre.fresh id hid,fun id hid=>s1.pre.top id hid,s1.pre.glob.mono r,bJE _⟩
 obtain⟨a,st',F',W,N,hN⟩:=h st aS F (aD1 H.closed) t1 (fun id M=>s1.pre.lt id M) (fun id _ p d=>by cases d) (bJE _) (fun p d=>by cases d) (fun q hq=>by
  have j:(iH q.1).nat<(iH G0).nat:=by have:=aIE q hq;rw[aC8,aC8];omega
  exact⟨bJK j s1.nx,(s1.fix _ j).trans (bCe q hq),fun p d=>by cases d⟩)
 have X:qK P pr true N f aS st (fun a st=>some (a,st))=some (a,st'):=hN N (bJE _) _
 refine Calls.mono (aYr U g' i' X V (c1.mono r)) ?_
 rintro e w' ⟨v,Γ2,rfl,D,l'⟩
 refine⟨v,rfl,⟨D.os,D.tape,D.output,D.size,fun q hq=>D.frame q hq fun id b s j T _=> ?_⟩, ?_⟩
 ·have T:n.nat<=id.nat:=T
  have:=s1.pre.top id T
  rw[show Tr.find id hh=some b from j.2]at this;cases this
 ·exact TR.world D.sim (fun id _ p d=>by
   have Y:st'.hid=[]:=W.hq
   rw[Y]at d;cases d) W.tr (by
    unfold pY
    split
    ·cases m':oV R with
     |none=>exact W.cl
     |some t=>exact aI5 m' W.cl
    ·exact W.cl) l'
end
section
theorem aXV{orc:cP}{f:bR9}{args:List TV}{s:VS}{x:TV×VS}(q:dC orc f args s=some x):vX orc f args s=some x:=by
 have:(cY cL s args).isSome=true:=by
  cases h:cY cL s args with
  |none=>simp only[dC,h,Option.bind_none]at q;cases q
  |some p=>rfl
 unfold vX
 rw[if_pos this];exact q
theorem bIb{P:bR8}{orc:cP}{op:Op}{r:bB}{s:VS}{x:TV×VS}(q:bK P (dC orc) op r s=some x):bK P (vX orc) op r s=some x:=by
 cases op with
 | call c=>
  obtain⟨c,args,F⟩:=c
  cases c with
  |value g=>
   simp only[bK,bJF]at q ⊢
   obtain⟨gv,B,aa,C,q⟩:=q
   refine⟨gv,B,aa,C, ?_⟩
   cases gv<;>simp only at q ⊢ <;>first|exact aXV q|(cases q;done)
  |_=>exact q
 |makeFunc f a b=>cases f<;>exact q
 |_=>exact q
def gL:bR7->List Nat
 | .tmp t=>[t]
 |_=>[]
def uU(l:List bR7):List Nat:=l.flatMap gL
def aBl:Option bR7->List Nat
 |some x=>gL x
 |none=>[]
def aCN:Op->List Nat
 | .move x=>gL x
 | .assign x=>gL x
 | .pick c a b=>gL c++(gL a++gL b)
 | .box _ v=>gL v
 | .build _ ps=>uU (ps.toList.map (·.2))
 | .buildSlice _ _ ps=>uU (ps.toList.map (·.2))
 | .load _ a=>gL a
 | .store _ a x=>gL a++gL x
 | .nilCheck x=>gL x
 | .binOp _ _ x y _=>gL x++gL y
 | .unOp _ _ x=>gL x
 | .convert _ _ x=>gL x
 | .makeFunc _ a b=>uU a.toList++uU b.toList
 | .makeSlice _ l c=>gL l++gL c
 | .slice _ x lo hi mx=>gL x++(aBl lo++(aBl hi++aBl mx))
 | .fieldAddr _ x _=>gL x
 | .field _ x _=>gL x
 | .indexAddr _ x ix=>gL x++gL ix
 | .index _ x ix=>gL x++gL ix
 | .extract x _=>gL x
 | .call ⟨.builtin _,args,_⟩=>uU args.toList
 | .call ⟨.value g,args,_⟩=>gL g++uU args.toList
 |_=>[]
section
variable {P:bR8}{cal:jP}{M N:bB}
def mV(l:List Nat)(M N:bB):Prop:=∀t∈l,∀v,M t=some v->N t=some v
theorem mV.left{l m:List Nat}(h:mV (l++m) M N):mV l M N:=fun t E=>h t (bLu _ E)
theorem mV.right{l m:List Nat}(h:mV (l++m) M N):mV m M N:=fun t E=>h t (bKE _ E)
theorem gJ{x:bR7}(h:mV (gL x) M N){v:TV}(q:dW M x=some v):dW N x=some v:=by
 cases x with
 |tmp t=>exact h t (.head _) v q
 |const _=>exact q
 |global _=>exact q
 |func _=>exact q
theorem aDs:∀ {l:List bR7} (_:mV (uU l) M N) {v:List TV},lQ M l=some v->lQ N l=some v
 | [],_,v,q=>q
 |x::l,h,v,q=>by
  simp only[lQ,bJF]at q ⊢
  obtain⟨a,B,m,C,G⟩:=q
  have h':mV (gL x++uU l) M N:=h
  exact⟨a,gJ h'.left B,m,aDs h'.right C,G⟩
theorem pH{x:Option bR7}(h:mV (aBl x) M N){d n:Nat}(q:eL M d x=some n):eL N d x=some n:=by
 cases x with
 |none=>exact q
 |some x=>
  simp only[eL,bJF]at q ⊢
  obtain⟨a,B,C⟩:=q
  exact⟨a,gJ h B,C⟩
theorem aIZ{place:Nat->Option (Nat×Nat)}:∀ {l:List (Nat×bR7)} (_:mV (uU (l.map (·.2))) M N) {cs v:List TV},aD place M l cs=some v->aD place N l cs=some v
 | [],_,cs,v,q=>q
 | p::l,h,cs,v,q=>by
  simp only[aD,bJF]at q ⊢
  obtain⟨a,B,x,C,q⟩:=q
  have h':mV (gL p.2++uU (l.map (·.2))) M N:=h
  refine⟨a,B,x,gJ h'.left C, ?_⟩
  split at q
  ·next hc=>
   rw[if_pos hc]
   simp only[bJF]at q ⊢
   obtain⟨c,G,W⟩:=q
   exact⟨c,G,aIZ h'.right W⟩
  ·cases q
theorem aYq{t:bR5}{x:TV}{lo hi mx:Option bR7}(h:mV (aBl lo++(aBl hi++aBl mx)) M N){v:TV}(q:jB P t M x lo hi mx=some v):jB P t N x lo hi mx=some v:=by
 unfold jB at q ⊢
 cases V:cW P t with
 | none=>
  rw[V]at q
  simp only at q ⊢
  cases x<;>simp only at q ⊢ <;>try (cases q;done)
  split at q
  ·next hc=>
   rw[if_pos hc]
   simp only[bJF]at q ⊢
   obtain⟨l,B,m,C,q⟩:=q
   exact⟨l,pH h.left B,m,pH h.right.left C,q⟩
  ·cases q
 | some e=>
  rw[V]at q
  simp only at q ⊢
  split at q
  case isFalse=>cases q
  case isTrue hk=>
  rw[if_pos hk]
  cases mx with
  | none=>
   simp only at q ⊢
   cases x<;>simp only at q ⊢ <;>try (cases q;done)
   ·simp only[bJF]at q ⊢
    obtain⟨l,B,m,C,q⟩:=q
    exact⟨l,pH h.left B,m,pH h.right.left C,q⟩
   ·split at q
    ·next hc=>
     rw[if_pos hc]
     simp only[bJF]at q ⊢
     obtain⟨l,B,m,C,q⟩:=q
     exact⟨l,pH h.left B,m,pH h.right.left C,q⟩
    ·cases q
   ·split at q
    ·next hc=>
     rw[if_pos hc]
     simp only[bJF]at q ⊢
     obtain⟨l,B,m,C,q⟩:=q
     exact⟨l,pH h.left B,m,pH h.right.left C,q⟩
    ·cases q
   ·simp only[bJF]at q ⊢
    obtain⟨l,B,m,C,q⟩:=q
    exact⟨l,pH h.left B,m,pH h.right.left C,q⟩
  |some om=>
   simp only at q ⊢
   split at q
   case isFalse=>cases q
   case isTrue hh=>
   rw[if_pos hh]
   simp only[bJF]at q ⊢
   obtain⟨l,B,m,C,n,G,q⟩:=q
   exact⟨l,pH h.left B,m,pH h.right.left C,n,pH h.right.right G,q⟩
theorem aDW{op:Op}(h:mV (aCN op) M N){s:VS}{y:TV×VS}(q:bK P cal op M s=some y):bK P cal op N s=some y:=by
 cases op<;>try (simp only[bK]at q;cases q;done)
 case move x=>
  simp only[bK,bJG]at q ⊢
  obtain⟨a,B,C⟩:=q
  exact⟨a,gJ h B,C⟩
 case assign x=>
  simp only[bK,bJG]at q ⊢
  obtain⟨a,B,C⟩:=q
  exact⟨a,gJ h B,C⟩
 case pick c a b=>
  simp only[bK,bJF]at q ⊢
  obtain⟨x,B,t,C,uu,G,w,W,q5⟩:=q
  exact⟨x,gJ h.left B,t,C,uu,gJ h.right.left G,w,gJ h.right.right W,q5⟩
 case alloc e=>exact q
 case box t v=>
  simp only[bK,bJF]at q ⊢
  obtain⟨a,B,C⟩:=q
  exact⟨a,gJ h B,C⟩
 case build t ps=>
  simp only[bK]at q ⊢
  split at q
  ·next hc=>
   rw[if_pos hc]
   simp only[bJF,bJG]at q ⊢
   obtain⟨z,B,cs,C,G⟩:=q
   exact⟨z,B,cs,aIZ h C,G⟩
  ·cases q
 case buildSlice t len ps=>
  simp only[bK,bJF]at q ⊢
  obtain⟨e,B,q⟩:=q
  refine⟨e,B, ?_⟩
  split at q
  ·next hc=>
   rw[if_pos hc]
   simp only[bJF,bJG]at q ⊢
   obtain⟨z,B,cs,C,G⟩:=q
   exact⟨z,B,cs,aIZ h C,G⟩
  ·cases q
 case load t a=>
  simp only[bK]at q ⊢
  split at q
  ·next hc=>
   rw[if_pos hc]
   simp only[bJF,bJG]at q ⊢
   obtain⟨z,B,cs,C,G⟩:=q
   exact⟨z,gJ h B,cs,C,G⟩
  ·cases q
 case store t a x=>
  simp only[bK]at q ⊢
  split at q
  ·next hc=>
   rw[if_pos hc]
   simp only[bJF,bJG]at q ⊢
   obtain⟨z,B,uu,C,s',G,W⟩:=q
   exact⟨z,gJ h.left B,uu,gJ h.right C,s',G,W⟩
  ·cases q
 case nilCheck x=>
  simp only[bK,bJF]at q ⊢
  obtain⟨a,B,C⟩:=q
  exact⟨a,gJ h B,C⟩
 case binOp op t x y u=>
  simp only[bK]at q ⊢
  split at q
  ·next hc=>
   rw[if_pos hc]
   simp only[bJF]at q ⊢
   obtain⟨a,B,b,C,G⟩:=q
   exact⟨a,gJ h.left B,b,C,G⟩
  ·next hc=>
   rw[if_neg hc]
   simp only[bJF]at q ⊢
   obtain⟨a,B,b,C,G⟩:=q
   exact⟨a,gJ h.left B,b,gJ h.right C,G⟩
 case unOp op t x=>
  simp only[bK,bJF]at q ⊢
  obtain⟨a,B,C⟩:=q
  exact⟨a,gJ h B,C⟩
 case convert a b x=>
  simp only[bK,bJF]at q ⊢
  obtain⟨k,B,a,C,G⟩:=q
  exact⟨k,B,a,gJ h C,G⟩
 case makeFunc f a b=>
  cases f<;>simp only[bK]at q ⊢ <;>try (cases q;done)
  simp only[bJF]at q ⊢
  obtain⟨x,B,y,C,G⟩:=q
  exact⟨x,aDs h.left B,y,aDs h.right C,G⟩
 case makeSlice t l c=>
  simp only[bK,bJF]at q ⊢
  obtain⟨e,B,q⟩:=q
  refine⟨e,B, ?_⟩
  split at q
  ·next hc=>
   rw[if_pos hc]
   simp only[bJF]at q ⊢
   obtain⟨z,B,x,C,n,G,y,W,m,q5,q6⟩:=q
   exact⟨z,B,x,gJ h.left C,n,G,y,gJ h.right W,m,q5,q6⟩
  ·cases q
 case slice t x lo hi mx=>
  simp only[bK,bJF,bJG]at q ⊢
  obtain⟨a,B,w,C,G⟩:=q
  exact⟨a,gJ h.left B,w,aYq h.right C,G⟩
 case fieldAddr st x f=>
  simp only[bK,bJF]at q ⊢
  obtain⟨a,B,C⟩:=q
  exact⟨a,gJ h B,C⟩
 case field t x f=>
  simp only[bK,bJF]at q ⊢
  obtain⟨a,B,C⟩:=q
  exact⟨a,gJ h B,C⟩
 case indexAddr t x ix=>
  simp only[bK,bJF]at q ⊢
  obtain⟨a,B,j,C,G⟩:=q
  exact⟨a,gJ h.left B,j,gJ h.right C,G⟩
 case index t x ix=>
  simp only[bK,bJF]at q ⊢
  obtain⟨a,B,j,C,G⟩:=q
  exact⟨a,gJ h.left B,j,gJ h.right C,G⟩
 case extract x i=>
  simp only[bK,bJF]at q ⊢
  obtain⟨a,B,C⟩:=q
  exact⟨a,gJ h B,C⟩
 case call c=>
  obtain⟨callee,args,F⟩:=c
  cases callee with
  |invoke _ _=>simp only[bK]at q;cases q
  |builtin b=>
   simp only[bK,bJF]at q ⊢
   obtain⟨l,B,C⟩:=q
   exact⟨l,aDs h B,C⟩
  |value g=>
   simp only[bK,bJF]at q ⊢
   obtain⟨a,B,l,C,G⟩:=q
   exact⟨a,gJ h.left B,l,aDs h.right C,G⟩
end
def mL:Op->Option Nat
 | .load _ _=>some 1
 | .store _ _ _=>some 3
 | .call ⟨.value _,_,_⟩=>some 2
 | .call ⟨.builtin .append,_,_⟩=>some 3
 | .call ⟨.builtin .copy,_,_⟩=>some 3
 |op=>if lM op&&(eT op).isSome then some 0 else if lM op then some 4 else none
def uT(f:Nat->Bool):List Bool->List Nat->Bool
 |u::us,k::ks=>(!u||f k)&&uT f us ks
 |_,_=>true
def wX(l m:List Nat):Bool:=l.all fun t=> !m.elem t
def ldk(D:List Nat):Op->Nat
 | .load _ (.tmp a)=>if D.elem a then 1 else 10+a
 |_=>1
def sO(D:List Nat)(Y:List (Nat×Nat)):List (bRa×gQ)->List Nat->Bool->List Nat->Bool
 | [],_,_,_=>true
 | q::l,ks,tn,nw=>match mL q.1.op with
  |none=>false
  | some k=>wX (aCN q.1.op) q.2.del&&(match k with
   |0=>sO D Y l (0::ks) tn (if aAN q.1.op|| !wX (aCN q.1.op) nw then q.1.dst.toList++nw else nw)
   |1=> !tn&&uT (fun k=>k<3||Nat.ble 10 k) q.2.un ks&&sO D Y l (ldk D q.1.op::ks) tn (if wX (aCN q.1.op) nw then nw else q.1.dst.toList++nw)
   |2=> !tn&& !q.2.tot&&q.2.adr.isEmpty&&sO D Y l (2::ks) tn (q.1.dst.toList++nw)
   |3=>(match q.1.op with
    | .store _ a _=>(if q.2.tot then uT (fun k=>k==0) q.2.un ks else q.2.adr.isEmpty&&(match a with | .tmp u=> !D.elem u&&uT (fun k=>k==0||(Nat.ble 10 k&&Y.elem (k-10,u))) q.2.un ks|_=>false))&&sO D Y l (3::ks) true (q.1.dst.toList++nw)
    |_=> !tn&&q.2.tot&&uT (fun k=>k==0) q.2.un ks&&sO D Y l (3::ks) true (q.1.dst.toList++nw))
   |_=>(if q.2.tot then uT (fun k=>k==0) q.2.un ks else q.2.adr.isEmpty)&&sO D Y l (4::ks) tn (q.1.dst.toList++nw))
def aHo(Y:List (Nat×Nat))(H:List bRa):Bool:=sO (H.filterMap (·.dst)) Y (gP true H) [] false []&&(gP true H).all fun q=>match q.1.guard with |some g=>(match (H[g.1]?).bind (·.dst)with |some d=> !q.2.del.elem d|none=>true)|none=>true
def aL:Option TV->Option TV->Bool
 |some (.po k _),some (.po k' _)=> !(k==k')
 |_,_=>false
def rF(e:bB):List (Nat×Nat)->Bool
 | []=>true
 |q::l=>aL (e q.1) (e q.2)&&rF e l
theorem aOI{e:bB}:∀ {l:List (Nat×Nat)} {q:Nat×Nat},rF e l=true->q∈l->aL (e q.1) (e q.2)=true
 |q'::l,q,h,Q=>by
  simp only[rF,bJI]at h
  cases Q with
  |head=>exact h.1
  |tail _ Q=>exact aOI h.2 Q
def KN(e:bB):Nat->VR->Prop
 |0,x=>x= .q
 |1,x=>x= .q\/∃k,x= .ld k
 |2,x=>x= .q\/∃ad,x= .cl ad
 |k,x=>10<=k->x= .q\/∃av,e (k-10)=some av/\x= .ld av.blk
theorem KN.big{e:bB}{k:Nat}{x:VR}(hk:10<=k)(h:KN e k x):x= .q\/∃av,e (k-10)=some av/\x= .ld av.blk:=by
 match k,hk,h with
 |k+3,hk,h=>exact h hk
theorem KN.q{e:bB}:∀k,KN e k .q
 |0=>rfl
 |1=> .inl rfl
 |2=> .inl rfl
 |_+3=>fun _=> .inl rfl
theorem KN.of_big{e:bB}{k:Nat}{x:VR}(hk:10<=k)(h:x= .q\/∃av,e (k-10)=some av/\x= .ld av.blk):KN e k x:=by
 match k,hk with
 |k+3,hk=>exact fun _=>h
inductive KNL(e:bB):List Nat->List VR->Prop
 |nil:KNL e [] []
 |cons {k:Nat} {x:VR} {ks:List Nat} {xs:List VR} (h:KN e k x) (t:KNL e ks xs):KNL e (k::ks) (x::xs)
theorem aFp{e:bB}{f:Nat->Bool}{g:VR->Bool}(c':∀k x,f k=true->KN e k x->g x=true):∀(us:List Bool) {ks:List Nat} {xs:List VR},KNL e ks xs->uT f us ks=true->(jL us xs).all g=true
 | [],_,_,_,_=>rfl
 | u::us,ks,xs,h,hu=>by
  cases h with
  |nil=>rfl
  | cons hk E=>
   simp only[uT,bJI,bLg,bKd]at hu
   have ih:=aFp c' us E hu.2
   cases u with
   |false=>exact ih
   |true=>
    simp only[jL,if_true,bKK,bJI]
    exact⟨c' _ _ (hu.1.resolve_left (by decide)) hk,ih⟩
theorem aJ6{l d:List Nat}(h:wX l d=true)(r:bB):mV l r (dY d r):=fun t E v I=>by
 unfold dY
 have:=bKq.1 h t E
 simp only[bKd]at this
 rw[this];exact I
theorem aDw(l d:List Nat)(r:bB):mV l (dY d r) r:=fun t _ v I=>by
 unfold dY at I
 split at I
 ·cases I
 ·exact I
section
variable {P:bR8}{orc:cP}
theorem aN4{o:bRa}{b:VO}{x:VR}{r:bB}{s s':VS}{v:TV}(q:bK P (dC orc) o.op r s=some (v,s')):∃b',uE P orc o b x r s=some (v,s',b')/\(b'=b.note x\/b'=b.made x o.dst)/\(wX (aCN o.op) b.new=true->aAN o.op=false->b'=b.note x):=by
 unfold uE
 split
 ·next p hp=>
  have:=aDW (aDw _ _ _) hp
  rw[q]at this
  cases this
  cases Q:aAN o.op with
  |true=>exact⟨_,rfl,.inr rfl,fun _ h=>by cases h⟩
  |false=>exact⟨_,rfl,.inl rfl,fun _ _=>rfl⟩
 ·next hp=>
  rw[q]
  refine⟨_,rfl,.inr rfl,fun X _=> ?_⟩
  have:=aDW (aJ6 X r) q
  rw[this]at hp
  cases hp
theorem aPI{l m n:List Nat}(h:wX l n=true)(hs:∀t∈m,t∈n):wX l m=true:=by
 unfold wX at*
 rw[bKq]at*
 intro t E
 have:=h t E
 simp only[bKd]at this ⊢
 cases Q:m.elem t with
 |false=>rfl
 |true=>rw[bKL.2 (hs t (bKL.1 Q))]at this;cases this
theorem aMI{op:Op}{k:Nat}(h:mL op=some k):k=0\/k=1\/k=2\/k=3\/k=4:=by
 unfold mL at h
 split at h
 ·cases h;simp
 ·cases h;simp
 ·cases h;simp
 ·cases h;simp
 ·cases h;simp
 ·split at h
  ·cases h;simp
  ·split at h
   ·cases h;simp
   ·cases h
theorem bIy{op:Op}(h:mL op=some 0):lM op=true/\eT op=some none:=by
 unfold mL at h
 split at h
 ·cases h
 ·cases h
 ·cases h
 ·cases h
 ·cases h
 ·next h1 h2 R h4 h5=>
  split at h
  ·next hc=>
   rw[bJI]at hc
   refine⟨hc.1, ?_⟩
   cases hs:eT op with
   |none=>rw[hs]at hc;cases hc.2
   | some x=>
    cases x with
    |none=>rfl
    |some a=>
     exfalso
     unfold eT at hs
     split at hs<;>first|(cases hs;done)|(exact h1 _ _ rfl)
  ·split at h<;>cases h
theorem bIt{op:Op}(h:mL op=some 1):∃t x,op= .load t x:=by
 unfold mL at h
 split at h
 ·exact⟨_,_,rfl⟩
 ·cases h
 ·cases h
 ·cases h
 ·cases h
 ·split at h
  ·cases h
  ·split at h<;>cases h
theorem bIz{op:Op}(h:mL op=some 2):∃g args F,op= .call ⟨.value g,args,F⟩:=by
 unfold mL at h
 split at h
 ·cases h
 ·cases h
 ·exact⟨_,_,_,rfl⟩
 ·cases h
 ·cases h
 ·split at h
  ·cases h
  ·split at h<;>cases h
theorem aUm{op:Op}(h:mL op=some 3):(∃t a x,op= .store t a x)\/(∃args F,op= .call ⟨.builtin .append,args,F⟩)\/∃args F,op= .call ⟨.builtin .copy,args,F⟩:=by
 unfold mL at h
 split at h
 ·cases h
 ·exact .inl ⟨_,_,_,rfl⟩
 ·cases h
 ·exact .inr (.inl ⟨_,_,rfl⟩)
 ·exact .inr (.inr ⟨_,_,rfl⟩)
 ·split at h
  ·cases h
  ·split at h<;>cases h
theorem bIj{op:Op}(h:mL op=some 4):lM op=true/\eT op=none/\((∀t a x,op≠ .store t a x)/\∀g args F,op≠ .call ⟨.value g,args,F⟩)/\(∀args F,op≠ .call ⟨.builtin .append,args,F⟩)/\∀args F,op≠ .call ⟨.builtin .copy,args,F⟩:=by
 unfold mL at h
 split at h
 ·cases h
 ·cases h
 ·cases h
 ·cases h
 ·cases h
 ·next h1 h2 R h4 h5=>
  split at h
  ·cases h
  ·next hn=>
   split at h
   ·next hq=>
    refine⟨hq, ?_,⟨fun _ _ _ e=>h2 _ _ _ e,fun _ _ _ e=>R _ _ _ e⟩,fun _ _ e=>h4 _ _ e,fun _ _ e=>h5 _ _ e⟩
    rw[hq,bKI]at hn
    cases hs:eT op with
    |none=>rfl
    |some x=>rw[hs]at hn;exact absurd rfl hn
   ·cases h
theorem aKw{all:Array bRa}{e:bB}{D:List Nat}{Y:List (Nat×Nat)}(hY:rF e Y=true):∀(l:List (bRa×gQ)) {ks:List Nat} {tn:Bool} {nw:List Nat} {b:VO} {r:bB} {s:VS} {y:bB×VS},(∀q∈l,∀g,q.1.guard=some g->∀d,(all[g.1]?).bind (·.dst)=some d->d ∉ q.2.del)->(∀q∈l,∀t,q.1.dst=some t->t∈D)->(∀t,t ∉ D->r t=e t)->sO D Y l ks tn nw=true->KNL e ks b.recs->(tn=false->b.clean=true)->(∀t∈b.new,t∈nw)->
  nN P (dC orc) all (l.map (·.1)) r s=some y->mQ P orc all e l b r s=some y
 | [],ks,tn,nw,b,r,s,y,_,_,_,_,_,_,_,q=>q
 | p :: l,ks,tn,nw,b,r,s,y,hg,hD,hr,hs,hk,hc,hn,q=>by
  obtain⟨o,p⟩:=p
  simp only[List.map_cons,nN,bJF]at q
  obtain⟨g,B,q⟩:=q
  simp only[mQ]
  have qg:zS all (dY p.del r) o.guard=some g:=by
   cases Z:o.guard with
   |none=>rw[Z]at B;exact B
   | some gg=>
    rw[Z]at B
    simp only[zS,bJF]at B ⊢
    obtain⟨d,h1,yv,h2,R⟩:=B
    refine⟨d,h1,yv, ?_,R⟩
    have:=hg (o,p) (.head _) gg Z d (by obtain⟨x,hx,X⟩:=h1;rw[hx];exact X)
    unfold dY
    have V:p.del.elem d=false:=by
     cases V:p.del.elem d with
     |false=>rfl
     |true=>exact absurd (bKL.1 V) this
    rw[V];exact h2
  rw[qg]
  simp only[bJM]
  have d':∀q∈l,∀g,q.1.guard=some g->∀d,(all[g.1]?).bind (·.dst)=some d->d ∉ q.2.del:=fun q hq=>hg q (.tail _ hq)
  have e':∀q∈l,∀t,q.1.dst=some t->t∈D:=fun q hq=>hD q (.tail _ hq)
  have f':∀v,∀t,t ∉ D->iR o.dst v r t=e t:=fun v t E=>by
   cases X:o.dst with
   |none=>exact hr t E
   |some d=>
    have o':t≠d:=fun e=>E (e ▸ hD (o,p) (.head _) d X)
    show(if t=d then some v else r t)=e t
    rw[if_neg o'];exact hr t E
  unfold sO at hs
  cases J:mL o.op with
  |none=>rw[show mL (o,p).1.op=none from J]at hs;simp only at hs;cases hs
  |some k=>
  rw[show mL (o,p).1.op=some k from J]at hs
  simp only[bJI]at hs
  obtain⟨g',hs⟩:=hs
  cases g with
  | false=>
   simp only[bJQ,if_false]at q ⊢
   have note:∀ {c:Nat} {tn':Bool} {nw':List Nat},sO D Y l (c::ks) tn' nw'=true->(tn'=false->tn=false)->(∀t∈nw,t∈nw')->mQ P orc all e l (b.note .q) (iR o.dst .u r) s=some y:=fun {c tn' nw'} h1 h2 R=>
    aKw hY l d' e' (f' _) h1 (.cons (KN.q _) hk) (fun h=>hc (h2 h)) (fun t E=>R t (hn t E)) q
   rcases aMI J with rfl|rfl|rfl|rfl|rfl
   ·refine note hs (fun h=>h) ?_
    intro t E
    split
    ·exact bKE _ E
    ·exact E
   ·simp only[bJI]at hs
    refine note hs.2 (fun h=>h) fun t E=> ?_
    split
    ·exact E
    ·exact bKE _ E
   ·simp only[bJI]at hs;exact note hs.2 (fun h=>h) (fun t E=>bKE _ E)
   ·rcases aUm J with ⟨t,a,x,A⟩|⟨args,F,A⟩|⟨args,F,A⟩
    ·rw[show(o,p).1.op= .store t a x from A]at hs
     simp only[bJI]at hs;exact note hs.2 (fun h=>by cases h) (fun t E=>bKE _ E)
    ·rw[show(o,p).1.op= .call ⟨.builtin .append,args,F⟩from A]at hs
     simp only[bJI]at hs;exact note hs.2 (fun h=>by cases h) (fun t E=>bKE _ E)
    ·rw[show(o,p).1.op= .call ⟨.builtin .copy,args,F⟩from A]at hs
     simp only[bJI]at hs;exact note hs.2 (fun h=>by cases h) (fun t E=>bKE _ E)
   ·simp only[bJI]at hs;exact note hs.2 (fun h=>h) (fun t E=>bKE _ E)
  | true =>
   simp only[if_true,bJF]at q
   simp only[if_true]
   obtain⟨⟨v,s1⟩,C,q⟩:=q
   have q2d:=aDW (aJ6 g' r) C
   have fin:∀ {b':VO} {x:VR} {tn':Bool} {nw':List Nat} {c:Nat},iJ P orc e o p b (dY p.del r) s=some (v,s1,b')->b'.recs=x::b.recs->KN e c x->(tn'=false->b'.clean=true)->(∀t∈b'.new,t∈nw')->sO D Y l (c::ks) tn' nw'=true->
     ((iJ P orc e o p b (dY p.del r) s).bind fun x=>mQ P orc all e l x.2.2 (iR o.dst x.1 r) x.2.1)=some y:=fun {b' x tn' nw' c} h1 h2 R h4 h5 h6=>by
    rw[h1]
    exact aKw hY l d' e' (f' _) h6 (by rw[h2];exact .cons R hk) h4 h5 q
   have tame:uT (fun k=>k<3||Nat.ble 10 k) p.un ks=true->(jL p.un b.recs).all VR.tame=true:=fun h=>aFp (fun k x hk hx=>by
    by_cases i':10<=k
    ·rcases hx.big i' with rfl|⟨av,_,rfl⟩<;>rfl
    ·match k,hk,hx with
     |0,_,hx=>rw[show x= .q from hx];rfl
     |1,_,hx=>rcases(hx:x= .q\/∃k,x= .ld k)with rfl|⟨k,rfl⟩<;>rfl
     |2,_,hx=>rcases(hx:x= .q\/∃ad,x= .cl ad)with rfl|⟨k,rfl⟩<;>rfl
     |k+3,hk,_=>
      rw[bLg]at hk
      rcases hk with hk|hk
      ·exact absurd (ae hk) (by omega)
      ·exact absurd (bJP hk) i') _ hk h
   have isq:uT (fun k=>k==0) p.un ks=true->(jL p.un b.recs).all VR.isQ=true:=fun h=>aFp (fun k x hk hx=>by
    match k,hk,hx with
    |0,_,hx=>rw[show x= .q from hx];rfl
    |_+1,hk,_=>simp at hk) _ hk h
   rcases aMI J with rfl|rfl|rfl|rfl|rfl
   ·obtain⟨h1,h2⟩:=bIy J
    obtain⟨b',g1,g2,g3⟩:=aN4 (b:=b) (x:= .q) q2d
    have I:iJ P orc e o p b (dY p.del r) s=some (v,s1,b'):=by
     unfold iJ
     rw[h2]
     simp only[h1,if_true]
     exact g1
    have S:b'.recs= .q::b.recs/\b'.clean=b.clean:=by rcases g2 with rfl|rfl<;>exact⟨rfl,rfl⟩
    refine fin (c:=0) I S.1 rfl (fun h=>by rw[S.2];exact hc h) ?_ hs
    intro t E
    split
    ·rcases g2 with rfl|rfl
     ·exact bKE _ (hn t E)
     ·rcases bKy.1 (show t∈o.dst.toList++b.new from E)with h|h
      ·exact bLu _ h
      ·exact bKE _ (hn t h)
    ·next a'=>
     simp only[bLg,bKd,not_or,Bool.not_eq_true,Bool.not_eq_false]at a'
     have:=g3 (aPI a'.2 hn) a'.1
     rw[this]at E
     exact hn t E
   ·simp only[bJI,bKd]at hs
    obtain⟨⟨k1,K⟩,T⟩:=hs
    obtain⟨t,x,A⟩:=bIt J
    have qx:∀ {r':bB} {y:TV×VS},bK P (dC orc) o.op r' s=some y->∃av,dW r' x=some av:=fun {r' y} L=>by
     rw[A]at L
     simp only[bK]at L
     split at L
     ·simp only[bJF]at L
      obtain⟨a,h,_⟩:=L
      exact⟨a,h⟩
     ·cases L
    obtain⟨av,qa⟩:=qx q2d
    have I:∃b',iJ P orc e o p b (dY p.del r) s=some (v,s1,b')/\(b'=b.note (.ld av.blk)\/b'=b.made (.ld av.blk) o.dst)/\(wX (aCN o.op) nw=true->b'=b.note (.ld av.blk)):=by
     unfold iJ
     rw[show eT o.op=some (some x) by rw[A];rfl]
     simp only[hc k1,tame K,bKr,if_true]
     split
     ·next y hy=>
      simp only[bJF,bJG]at hy
      obtain⟨av',qa',⟨w,s2⟩,qo,rfl⟩:=hy
      have:=aDW (aDw _ _ _) qo
      rw[q2d]at this
      cases this
      have:=gJ (aDw _ _ _) qa'
      rw[qa]at this
      cases this
      exact⟨_,rfl,.inl rfl,fun _=>rfl⟩
     ·next j'=>
      refine⟨_,by simp only[qa,bJM,q2d,bKe],.inr rfl,fun k2=> ?_⟩
      have G:=aDW (aJ6 (aPI k2 hn) _) q2d
      obtain⟨av',qa'⟩:=qx G
      rw[qa',bJM,G]at j'
      cases j'
    obtain⟨b',I,l',p'⟩:=I
    have m':b'.recs= .ld av.blk::b.recs/\b'.clean=b.clean:=by rcases l' with rfl|rfl<;>exact⟨rfl,rfl⟩
    refine fin (c:=ldk D o.op) I m'.1 ?_ (fun h=>by rw[m'.2];exact hc h) (fun t E=> ?_) T
    rotate_left
    ·split
     ·next k2=>rw[p' k2]at E;exact hn t E
     ·rcases l' with rfl|rfl
      ·exact bKE _ (hn t E)
      ·rcases bKy.1 (show t∈o.dst.toList++b.new from E)with h|h
       ·exact bLu _ h
       ·exact bKE _ (hn t h)
    rw[A]
    unfold ldk
    split
    ·next a V=>
     split
     ·exact(Or.inr ⟨_,rfl⟩:KN e 1 _)
     ·next n'=>
      have t':a ∉ D:=fun Q=>by rw[bKL.2 Q]at n';exact n' rfl
      refine KN.of_big (by omega) (.inr ⟨av, ?_,rfl⟩)
      cases V
      rw[Nat.add_sub_cancel_left,←hr a t']
      exact aDw [a] _ r a (.head _) av qa
    ·exact(Or.inr ⟨_,rfl⟩:KN e 1 _)
   ·simp only[bJI,bKd]at hs
    obtain⟨⟨⟨k1,k2⟩,K⟩,T⟩:=hs
    obtain⟨g,args,F,A⟩:=bIz J
    have U:p.adr=[]:=by simpa using K
    have I:iJ P orc e o p b (dY p.del r) s=some (v,s1,b.made (.cl []) o.dst):=by
     unfold iJ
     have q2g:=bIb q2d
     rw[show eT o.op=none by rw[A];rfl]
     rw[A]at q2g ⊢
     simp only[hc k1,k2,bLr,bKr,if_true,U,uS,bJM,q2g,bLk]
    refine fin (c:=2) I rfl (Or.inr ⟨_,rfl⟩) (fun h=>hc h) ?_ T
    intro t E
    rcases bKy.1 (show t∈o.dst.toList++b.new from E)with h|h
    ·exact bLu _ h
    ·exact bKE _ (hn t h)
   ·have mem:∀ {b':VO},b'.new=o.dst.toList++b.new->∀t∈b'.new,t∈o.dst.toList++nw:=fun {b'} h t E=>by
     rw[h]at E
     rcases bKy.1 E with h|h
     ·exact bLu _ h
     ·exact bKE _ (hn t h)
    rcases aUm J with ⟨t,a,x,A⟩|⟨args,F,A⟩|⟨args,F,A⟩
    ·rw [show(o,p).1.op= .store t a x from A]at hs
     simp only[bJI]at hs
     obtain⟨K,T⟩:=hs
     cases E:p.tot with
     | true=>
      rw[E]at K
      simp only[if_true]at K
      have I:iJ P orc e o p b (dY p.del r) s=some (v,s1,b.turned .tt o.dst):=by
       unfold iJ
       rw[show eT o.op=none by rw[A];rfl]
       rw[A]at q2d ⊢
       simp only[E,isq K,if_true,q2d,bKe]
      exact fin (c:=3) I rfl (fun h=>absurd h (by decide)) (fun h=>by cases h) (mem rfl) T
     | false=>
      rw[E]at K
      simp only[bJQ,if_false,bJI]at K
      obtain⟨ka,K⟩:=K
      have U:p.adr=[]:=by simpa using ka
      split at K
      case h_2=>cases K
      case h_1 u=>
      simp only[bJI,bKd]at K
      have u':u ∉ D:=fun Q=>by have:=K.1;rw[bKL.2 Q]at this;cases this
      have O:=q2d
      rw[A]at O
      simp only[bK]at O
      split at O
      case isFalse=>cases O
      simp only[bJF]at O
      obtain⟨av,qa,xv,_,O⟩:=O
      have v':∃kk off,av= .po kk off:=by
       cases av<;>first|exact⟨_,_,rfl⟩|(simp [aAO]at O;done)
      obtain⟨kk,off,rfl⟩:=v'
      have hu:e u=some (.po kk off):=by
       rw[←hr u u']
       exact aDw [u] _ _ u (.head _) _ qa
      have w':(jL p.un b.recs).all (VR.okSt kk)=true:=aFp (fun k x hk hx=>by
       rw[bLg]at hk
       rcases hk with hk|hk
       ·obtain rfl:k=0:=by simpa using hk
        rw[show x= .q from hx];rfl
       ·rw[bJI]at hk
        rcases hx.big (bJP hk.1)with rfl|⟨aw,h1,rfl⟩
        ·rfl
        ·have h2:=aOI hY (bKL.1 hk.2)
         simp only[h1,hu]at h2
         cases aw<;>first|(simp [aL]at h2;done)|skip
         simp only[aL,bKd,ao]at h2
         show(_ != kk)=true
         simpa using h2) _ hk K.2
      have I:iJ P orc e o p b (dY p.del r) s=some (v,s1,b.turned (.st kk []) o.dst):=by
       unfold iJ
       rw[show eT o.op=none by rw[A];rfl]
       rw[A]at q2d ⊢
       simp only[E,bJQ,if_false,qa,bJM,U,uS,List.elem_nil,bLr,w',bKr,if_true,q2d,bKe]
      exact fin (c:=3) I rfl (fun h=>absurd h (by decide)) (fun h=>by cases h) (mem rfl) T
    ·rw[show(o,p).1.op= .call ⟨.builtin .append,args,F⟩from A]at hs
     simp only[bJI,bKd]at hs
     obtain⟨⟨⟨k1,k2⟩,K⟩,T⟩:=hs
     have hl:∃l,lQ (dY p.del r) args.toList=some l:=by
      have L:=q2d
      rw[A]at L
      simp only[bK,bJF]at L
      obtain⟨l,h,_⟩:=L
      exact⟨l,h⟩
     obtain⟨ll,hl⟩:=hl
     by_cases how:∃k off len sz m,ll= .ow k off len sz::m
     ·obtain⟨k,off,len,sz,m,rfl⟩:=how
      have I:iJ P orc e o p b (dY p.del r) s=some (v,s1,b.turned .tt o.dst):=by
       unfold iJ
       rw[show eT o.op=none by rw[A];rfl]
       rw[A]at q2d ⊢
       simp only[hl,bJM,k2,isq K,bKr,if_true,q2d,bKe]
      exact fin (c:=3) I rfl (fun h=>absurd h (by decide)) (fun h=>by cases h) (mem rfl) T
     ·have I:iJ P orc e o p b (dY p.del r) s=some (v,s1,b.made .tt o.dst):=by
       unfold iJ
       rw[show eT o.op=none by rw[A];rfl]
       rw[A]at q2d ⊢
       simp only[hl,bJM]
       split
       ·exact absurd ⟨_,_,_,_,_,rfl⟩ how
       ·simp only[hc k1,if_true,wP,k2,isq K,bJM,aGM,q2d,bKe]
      exact fin (c:=3) I rfl (fun h=>absurd h (by decide)) (fun h=>by cases h) (mem rfl) T
    ·rw[show(o,p).1.op= .call ⟨.builtin .copy,args,F⟩from A]at hs
     simp only[bJI,bKd]at hs
     obtain⟨⟨⟨k1,k2⟩,K⟩,T⟩:=hs
     have I:iJ P orc e o p b (dY p.del r) s=some (v,s1,b.turned .tt o.dst):=by
      unfold iJ
      rw[show eT o.op=none by rw[A];rfl]
      rw[A]at q2d ⊢
      simp only[k2,isq K,bKr,if_true,q2d,bKe]
     exact fin (c:=3) I rfl (fun h=>absurd h (by decide)) (fun h=>by cases h) (mem rfl) T
   ·simp only[bJI]at hs
    obtain⟨h1,h2,R,h4,h5⟩:=bIj J
    have hw:∃x,wP e s p b=some x:=by
     unfold wP
     cases E:p.tot with
     |true=>
      have:=hs.1
      rw[E]at this
      simp only[if_true]at this ⊢
      rw[isq this]
      exact⟨_,rfl⟩
     |false=>
      have:=hs.1
      rw[E]at this
      simp only[bJQ,if_false]at this ⊢
      rw[show p.adr=[] by simpa using this]
      exact⟨_,rfl⟩
    obtain⟨x,hw⟩:=hw
    obtain⟨b',g1,g2,g3⟩:=aN4 (b:=b) (x:=x) q2d
    have I:iJ P orc e o p b (dY p.del r) s=some (v,s1,b'):=by
     unfold iJ
     rw[h2]
     simp only
     split
     ·next A=>exact absurd A (R.1 _ _ _)
     ·next A=>exact absurd A (R.2 _ _ _)
     ·next A=>exact absurd A (h4 _ _)
     ·next A=>exact absurd A (h5 _ _)
     ·simp only[h1,if_true,hw,bJM]
      exact g1
    have S:b'.recs=x::b.recs/\b'.clean=b.clean:=by rcases g2 with rfl|rfl<;>exact⟨rfl,rfl⟩
    refine fin (c:=4) I S.1 (fun h=>absurd h (by decide)) (fun h=>by rw[S.2];exact hc h) ?_ hs.2
    intro t E
    rcases g2 with rfl|rfl
    ·exact bKE _ (hn t E)
    ·rcases bKy.1 (show t∈o.dst.toList++b.new from E)with h|h
     ·exact bLu _ h
     ·exact bKE _ (hn t h)
end
theorem aZt{P:bR8}{orc:cP}{H:Array bRa}{Y:List (Nat×Nat)}(h:aHo Y H.toList=true){e:bB}(hY:rF e Y=true){s:VS}{y:bB×VS}(q:nN P (dC orc) H H.toList e s=some y):mQ P orc H e (gP true H.toList) ⟨[],true,[]⟩ e s=some y:=by
 unfold aHo at h
 rw[bJI]at h
 refine aKw hY (gP true H.toList) (fun p hp g hg d X=> ?_) (fun q hq t E=> ?_) (fun _ _=>rfl) h.1 .nil (fun _=>rfl) (fun t E=>by cases E) ?_
 ·have:=bKq.1 h.2 p hp
  rw[hg]at this
  simp only at this
  rw[show(H.toList[g.1]?).bind (·.dst)=some d by rw[bLD];exact X]at this
  simp only[bKd]at this
  intro Q
  rw[bKL.2 Q]at this
  cases this
 ·have Q:q.1∈H.toList:=(List.of_mem_zip (show(q.1,q.2)∈H.toList.zip _ from hq)).1
  exact List.mem_filterMap.2 ⟨q.1,Q,E⟩
 ·have:(gP true H.toList).map (·.1)=H.toList:=by
   unfold gP
   rw[List.map_fst_zip]
   simp
  rw[this];exact q
end
section
structure LO where
 dst:Option Nat
 op:Op
 grd:Option (Nat×Bool)
inductive LC where
 |skip
 |bad
 |ret
 |exit (id:Nat)
 |reg (o:Bool) (keep:List Nat) (u:List LO)
 |chk (l:List (Nat×Nat))
 |seq (a b:LC)
 |cond (x:bR7) (a b:LC)
 |block (id:Nat) (c:LC)
 |loop (c:LC)
def zZ(all:Array bRa):List bRa->Option (List LO)
 | []=>some []
 |o::l=>match o.guard with
  |none=>(zZ all l).map (⟨o.dst,o.op,none⟩:: ·)
  |some (g,w)=>((all[g]?).bind (·.dst)).bind fun d=>(zZ all l).map (⟨o.dst,o.op,some (d,w)⟩:: ·)
abbrev YY:=List (Nat×List (Nat×Nat))
def bF:YY->Nat->List (Nat×Nat)
 | [],_=>[]
 |q::Y,i=>if q.1=i then q.2 else bF Y i
def bH:List (Nat×Nat)->LC->LC
 | [],c=>c
 |q::l,c=> .seq (.chk (q::l)) c
def aKZ(U:FI)(Y:YY)(id:Nat)(u:Array bRa)(d:Bool):LC:=
 if lN U.2 u.toList&&(!d||(eS u.toList&&aHo (bF Y id) u.toList))then(match zZ u u.toList with |some l=>bH (bF Y id) (.reg d (iN U.1 u.toList) l)|none=> .bad)else .bad
def jS(U:FI)(Y:YY):Code->LC
 | .skip=> .skip
 | .region id u d=>aKZ U Y id u d
 | .seq a b=> .seq (jS U Y a) (jS U Y b)
 | .cond x a b=> .cond x (jS U Y a) (jS U Y b)
 | .block id c=> .block id (jS U Y c)
 | .loop c=> .loop (jS U Y c)
 | .exit id=> .exit id
 | .ret=> .ret
 |_=> .bad
section
variable (P:bR8)(orc:cP)(cal:jP)
def vlg(r:bB):Option (Nat×Bool)->Option Bool
 |none=>some true
 |some (d,want)=>(r d).bind fun y=>match y with | .b x=>some (x==want)| .u=>some false|_=>none
def vlr:List LO->bB->VS->Option (bB×VS)
 | [],r,s=>some (r,s)
 |o::l,r,s=>(vlg r o.grd).bind fun g=>if g then(bK P cal o.op r s).bind fun p=>vlr l (iR o.dst p.1 r) p.2 else vlr l (iR o.dst .u r) s
def vl:LC->bB->VS->Option (eD×bB×VS)
 | .skip,e,s=>some (.normal,e,s)
 | .reg o keep u,e,s=>(vlr P (if o then dC orc else cal) u e s).map fun p=>(.normal,pP keep e p.1,p.2)
 | .chk l,e,s=>if rF e l then some (.normal,e,s)else none
 | .seq a b,e,s=>(vl a e s).bind fun p=>match p with
  | (.normal,e,s)=>vl b e s
  | (o,e,s)=>some (o,e,s)
 | .cond x a b,e,s=>(dW e x).bind fun y=>y.bool.bind fun t=>if t then vl a e s else vl b e s
 | .block id c,e,s=>(vl c e s).map fun p=>match p with
  | (.exit i,e,s)=>(if i=id then .normal else .exit i,e,s)
  | (o,e,s)=>(o,e,s)
 | .loop c,e,s=>mN (vl c) sC e s
 | .exit id,e,s=>some (.exit id,e,s)
 | .ret,e,s=>some (.ret,e,s)
 | .bad,_,_=>none
end
section
variable {P:bR8}{orc:cP}{cal:jP}
theorem aK8{cal:jP}{all:Array bRa}:∀ {l:List bRa} {m:List LO} {r:bB} {s:VS},zZ all l=some m->vlr P cal m r s=nN P cal all l r s
 | [],m,r,s,h=>by cases h;rfl
 | o::l,m,r,s,h=>by
  have fin:∀ {O:List LO} {g:Option (Nat×Bool)},zZ all l=some O->vlg r g=zS all r o.guard->vlr P cal (⟨o.dst,o.op,g⟩::O) r s=nN P cal all (o::l) r s:=fun {O g} h1 h2=>by
   simp only[vlr,nN,h2]
   congr 1
   funext gb
   cases gb with
   |true=>
    simp only[if_true]
    congr 1
    funext p
    exact aK8 h1
   |false=>
    simp only[bJQ,if_false]
    exact aK8 h1
  unfold zZ at h
  cases M:o.guard with
  |none=>
   rw[M]at h
   simp only[bJG]at h
   obtain⟨O,h1,rfl⟩:=h
   exact fin h1 (by rw[M];rfl)
  |some g=>
   obtain⟨g,w⟩:=g
   rw[M]at h
   simp only[bJF,bJG]at h
   obtain⟨d,h1,O,h2,rfl⟩:=h
   refine fin h2 ?_
   rw[M]
   show(r d).bind _=((all[g]?).bind (·.dst)).bind _
   rw[show(all[g]?).bind (·.dst)=some d by obtain⟨x,hx,S⟩:=h1;rw[hx];exact S]
   rfl
theorem bGe{l:List (Nat×Nat)}{c:LC}{e:bB}{s:VS}{x:eD×bB×VS}(h:vl P orc cal (bH l c) e s=some x):rF e l=true/\vl P orc cal c e s=some x:=by
 cases l with
 |nil=>exact⟨rfl,h⟩
 |cons q l=>
  simp only[bH,vl,bJF]at h
  obtain⟨p,h1,h2⟩:=h
  split at h1
  ·next hc=>cases h1;exact⟨hc,h2⟩
  ·cases h1
theorem aUi(U:FI)(Y:YY):∀(c:Code) {e:bB} {s:VS} {x:eD×bB×VS},vl P orc cal (jS U Y c) e s=some x->gR P orc cal U c e s=some x:=by
 intro c
 induction c with
 |skip=>intro e s x h;exact h
 |exit i=>intro e s x h;exact h
 |ret=>intro e s x h;exact h
 | region id u d=>
  intro e s x h
  simp only[jS,aKZ]at h
  split at h
  ·next hc=>
   simp only[bJI,bLg,bKd]at hc
   split at h
   ·next l hl=>
    obtain⟨hY,h⟩:=bGe h
    simp only[vl,bJG]at h
    obtain⟨p,h1,rfl⟩:=h
    simp only[gR,aC1,bJG]
    refine⟨(pP (iN U.1 u.toList) e p.1,p.2), ?_,rfl⟩
    rw[if_pos hc.1]
    rw[aK8 hl]at h1
    cases d with
    |false=>
     simp only[bJQ,if_false]at h1 ⊢
     rw[h1];rfl
    |true=>
     obtain⟨g1,g2⟩:=hc.2.resolve_left (by simp)
     simp only[if_true]at h1 ⊢
     rw[if_pos g1,aZt g2 hY h1];rfl
   ·simp only[vl]at h;cases h
  ·simp only[vl]at h;cases h
 |seq a b A C=>
  intro e s x h
  simp only[jS,vl,bJF]at h
  obtain⟨⟨o,G,s1⟩,h1,h2⟩:=h
  simp only[gR,bJF]
  refine⟨_,A h1, ?_⟩
  cases o with
  |normal=>exact C h2
  |exit i=>exact h2
  |ret=>exact h2
 |cond y a b A C=>
  intro e s x h
  simp only[jS,vl,bJF]at h
  obtain⟨v,h1,t,h2,H⟩:=h
  simp only[gR,bJF]
  refine⟨v,h1,t,h2, ?_⟩
  cases t with
  |true=>exact A H
  |false=>exact C H
 |block id c ih=>
  intro e s x h
  simp only[jS,vl,bJG]at h
  obtain⟨p,h1,h2⟩:=h
  simp only[gR,bJG]
  exact⟨p,ih h1,h2⟩
 | loop c ih=>
  intro e s x h
  simp only[jS,vl]at h
  simp only[gR]
  have:∀(m:Nat) {e:bB} {s:VS} {x:eD×bB×VS},mN (vl P orc cal (jS U Y c)) m e s=some x->mN (gR P orc cal U c) m e s=some x:=by
   intro m
   induction m with
   |zero=>intro e s x h;exact h
   |succ m T=>
    intro e s x h
    simp only[mN,bJF]at h ⊢
    obtain⟨⟨o,G,s1⟩,h1,h2⟩:=h
    refine⟨_,ih h1, ?_⟩
    cases o with
    |normal=>exact T h2
    |exit i=>exact h2
    |ret=>exact h2
  exact this _ h
 |_=>intro e s x h;simp only[jS,vl]at h;cases h
end
section
variable (P:bR8)(orc:cP)(cal:jP)
def WC(c:LC)(e:bB)(s:VS)(Q:eD->bB->VS->Prop):Prop:=∃x,vl P orc cal c e s=some x/\Q x.1 x.2.1 x.2.2
def WR(cal:jP)(l:List LO)(r:bB)(s:VS)(K:bB->VS->Prop):Prop:=∃x,vlr P cal l r s=some x/\K x.1 x.2
def kO(cal:jP)(l:List LO)(d:Option Nat)(r:bB)(K:bB->VS->Prop):Option (TV×VS)->Prop
 |some p=>WR P cal l (iR d p.1 r) p.2 K
 |none=>False
def kG(cal:jP)(l:List LO)(d:Option Nat)(op:Op)(r:bB)(s:VS)(K:bB->VS->Prop):Option Bool->Prop
 |some true=>kO P cal l d r K (bK P cal op r s)
 |some false=>WR P cal l (iR d .u r) s K
 |none=>False
def kS(b:LC)(Q:eD->bB->VS->Prop):eD->bB->VS->Prop
 | .normal,e,s=>WC P orc cal b e s Q
 |o,e,s=>Q o e s
def kB(id:Nat)(Q:eD->bB->VS->Prop):eD->bB->VS->Prop
 | .exit i,e,s=>if i=id then Q .normal e s else Q (.exit i) e s
 |o,e,s=>Q o e s
def kK(keep:List Nat)(e:bB)(Q:eD->bB->VS->Prop):bB->VS->Prop:=fun r s=>Q .normal (pP keep e r) s
end
section
variable {P:bR8}{orc:cP}{cal:jP}{e:bB}{s:VS}{Q:eD->bB->VS->Prop}
theorem WC.mono{c:LC}{Q':eD->bB->VS->Prop}(h:WC P orc cal c e s Q)(hq:∀o e s,Q o e s->Q' o e s):WC P orc cal c e s Q':=let ⟨x,h1,h2⟩:=h;⟨x,h1,hq _ _ _ h2⟩
theorem WC.skip(h:Q .normal e s):WC P orc cal .skip e s Q:=⟨_,rfl,h⟩
theorem WC.ret(h:Q .ret e s):WC P orc cal .ret e s Q:=⟨_,rfl,h⟩
theorem WC.exit{i:Nat}(h:Q (.exit i) e s):WC P orc cal (.exit i) e s Q:=⟨_,rfl,h⟩
theorem WC.seq{a b:LC}(h:WC P orc cal a e s (kS P orc cal b Q)):WC P orc cal (.seq a b) e s Q:=by
 obtain⟨⟨o,G,s1⟩,h1,h2⟩:=h
 cases o with
 |normal=>
  obtain⟨x,g1,g2⟩:=h2
  exact⟨x,by simp only[vl,h1,bJM];exact g1,g2⟩
 |exit i=>exact⟨_,by simp only[vl,h1,bJM],h2⟩
 |ret=>exact⟨_,by simp only[vl,h1,bJM],h2⟩
theorem WC.block{id:Nat}{c:LC}(h:WC P orc cal c e s (kB id Q)):WC P orc cal (.block id c) e s Q:=by
 obtain⟨⟨o,G,s1⟩,h1,h2⟩:=h
 refine⟨_,by simp only[vl,h1,bKe];rfl, ?_⟩
 cases o with
 |normal=>exact h2
 |ret=>exact h2
 |exit i=>
  simp only[kB]at h2
  by_cases F:i=id
  ·rw[if_pos F]at h2;simp only[if_pos F];exact h2
  ·rw[if_neg F]at h2;simp only[if_neg F];exact h2
theorem WC.reg{o:Bool}{keep:List Nat}{u:List LO}(h:WR P (if o then dC orc else cal) u e s (kK keep e Q)):WC P orc cal (.reg o keep u) e s Q:=by
 obtain⟨p,h1,h2⟩:=h
 exact⟨(.normal,pP keep e p.1,p.2),by simp only[vl,h1,bKe],h2⟩
theorem WC.loop{c:LC}(I:Nat->bB->VS->Prop)(n:Nat)(h0:I n e s)(hn:n<sC)(step:∀n e s,I n e s->WC P orc cal c e s (fun o e s=>match o with | .normal=>∃n',n'<n/\I n' e s|o=>Q o e s)):WC P orc cal (.loop c) e s Q:=by
 have:∀(m n:Nat),n<m->∀e s,I n e s->∃x,mN (vl P orc cal c) m e s=some x/\Q x.1 x.2.1 x.2.2:=by
  intro m
  induction m with
  |zero=>intro n h;omega
  | succ m ih=>
   intro n a' e s hI
   obtain⟨⟨o,G,s1⟩,h1,h2⟩:=step n e s hI
   cases o with
   |normal=>
    obtain⟨n',H,V⟩:=h2
    obtain⟨x,g1,g2⟩:=ih n' (by omega) G s1 V
    exact⟨x,by simp only[mN,h1,bJM];exact g1,g2⟩
   |exit i=>exact⟨_,by simp only[mN,h1,bJM],h2⟩
   |ret=>exact⟨_,by simp only[mN,h1,bJM],h2⟩
 exact this sC n hn e s h0
theorem WC.up{c:LC}(I:Nat->bB->VS->Prop)(B:Nat)(h0:I 0 e s)(hB:B<sC)(step:∀k e s,k<=B->I k e s->WC P orc cal c e s (fun o e s=>match o with | .normal=>k<B/\I (k+1) e s|o=>Q o e s)):WC P orc cal (.loop c) e s Q:=by
 refine .loop (fun n e s=>n<=B/\I (B-n) e s) B ⟨bJE _,by rw[Nat.sub_self];exact h0⟩ hB fun n e s h=> ?_
 refine(step (B-n) e s (by omega) h.2).mono fun o e s q=> ?_
 cases o with
 |normal=>exact⟨n-1,by have:=q.1;omega,by have:=q.1;have:=h.1;omega,by rw[show B-(n-1)=B-n+1 by have:=q.1;have:=h.1;omega];exact q.2⟩
 |exit i=>exact q
 |ret=>exact q
theorem aTK{r:bB}{K:bB->VS->Prop}:WR P cal [] r s K=K r s:=propext ⟨fun⟨x,h1,h2⟩=>by cases h1;exact h2,fun h=>⟨_,rfl,h⟩⟩
theorem aQ8{l:List LO}{d:Option Nat}{r:bB}{K:bB->VS->Prop}{v:TV}{s1:VS}:kO P cal l d r K (some (v,s1))=WR P cal l (iR d v r) s1 K:=rfl
theorem aRN{l:List LO}{d:Option Nat}{op:Op}{r:bB}{K:bB->VS->Prop}:kG P cal l d op r s K (some true)=kO P cal l d r K (bK P cal op r s):=rfl
theorem aQ1{l:List LO}{d:Option Nat}{op:Op}{r:bB}{K:bB->VS->Prop}:kG P cal l d op r s K (some false)=WR P cal l (iR d .u r) s K:=rfl
theorem aJH{l:List LO}{d:Option Nat}{op:Op}{g:Option (Nat×Bool)}{r:bB}{K:bB->VS->Prop}:WR P cal (⟨d,op,g⟩::l) r s K=kG P cal l d op r s K (vlg r g):=by
 apply propext
 unfold WR
 simp only[vlr]
 cases M:vlg r g with
 |none=>simp [kG]
 | some b=>
  cases b with
  |true=>
   simp only[bJM,if_true,kG]
   cases ho:bK P cal op r s with
   |none=>simp [kO]
   |some p=>simp only[bJM,kO];rfl
  |false=>simp only[bJM,bJQ,if_false,kG];rfl
theorem aU2{l:List LO}{d:Option Nat}{op:Op}{r:bB}{K:bB->VS->Prop}:WR P cal (⟨d,op,none⟩::l) r s K=kO P cal l d r K (bK P cal op r s):=by rw[aJH];rfl
def pk{α:Type}:Bool->α->α->α
 |true,x,_=>x
 |false,_,y=>y
theorem aUO{α:Type}(x y:α):pk true x y=x:=rfl
theorem aUN{α:Type}(x y:α):pk false x y=y:=rfl
theorem aRR{d t:Nat}{v:TV}{r:bB}:iR (some d) v r t=pk (t==d) (some v) (r t):=by
 show(if t=d then some v else r t)=_
 by_cases h:t=d
 ·subst h;simp [pk]
 ·rw[if_neg h,show(t==d)=false by simpa using h];rfl
theorem aMU{v:TV}{r:bB}:iR none v r=r:=rfl
def aGZ(e:bB)(t:Nat)(o:Option TV):bB:=fun j=>if j=t then o else e j
theorem aR7{e:bB}{t j:Nat}{o:Option TV}:aGZ e t o j=pk (j==t) o (e j):=by
 show(if j=t then o else e j)=_
 by_cases h:j=t
 ·subst h;simp [pk]
 ·rw[if_neg h,show(j==t)=false by simpa using h];rfl
theorem aNC{r:bB}:pP [] e r=e:=by funext j;rfl
theorem aMH{t:Nat}{l:List Nat}{r:bB}:pP (t::l) e r=aGZ (pP l e r) t (r t):=by
 funext j
 unfold pP aGZ
 rw[bN5]
 by_cases h:j=t
 ·subst h;simp
 ·have:(j==t)=false:=by simpa using h
  rw[this];simp [h]
theorem aNd{t:Nat}:lO [] t=fun _=>none:=rfl
theorem aMv{a:TV}{l:List TV}{t:Nat}:lO (a::l) t=aGZ (lO l (t+1)) t (some a):=rfl
theorem aRC:WC P orc cal .skip e s Q=Q .normal e s:=propext ⟨fun⟨x,h1,h2⟩=>by cases h1;exact h2,.skip⟩
theorem aTN:WC P orc cal .ret e s Q=Q .ret e s:=propext ⟨fun⟨x,h1,h2⟩=>by cases h1;exact h2,.ret⟩
theorem aQH{i:Nat}:WC P orc cal (.exit i) e s Q=Q (.exit i) e s:=propext ⟨fun⟨x,h1,h2⟩=>by cases h1;exact h2,.exit⟩
theorem aSN{l:List (Nat×Nat)}:WC P orc cal (.chk l) e s Q=(rF e l=true/\Q .normal e s):=propext (by
 constructor
 ·rintro⟨x,h1,h2⟩
  simp only[vl]at h1
  split at h1
  ·next hc=>cases h1;exact⟨hc,h2⟩
  ·cases h1
 ·rintro⟨h1,h2⟩
  exact⟨(.normal,e,s),by simp only[vl,h1,if_true],h2⟩)
theorem aSB{a b:LC}:WC P orc cal (.seq a b) e s Q=WC P orc cal a e s (kS P orc cal b Q):=propext ⟨fun⟨x,h1,h2⟩=>by
 simp only[vl,bJF]at h1
 obtain⟨⟨o,G,s1⟩,g1,g2⟩:=h1
 refine⟨_,g1, ?_⟩
 cases o with
 |normal=>exact⟨x,g2,h2⟩
 |exit i=>cases g2;exact h2
 |ret=>cases g2;exact h2,.seq⟩
theorem aOD{id:Nat}{c:LC}:WC P orc cal (.block id c) e s Q=WC P orc cal c e s (kB id Q):=propext ⟨fun⟨x,h1,h2⟩=>by
 simp only[vl,bJG]at h1
 obtain⟨⟨o,G,s1⟩,g1,g2⟩:=h1
 refine⟨_,g1, ?_⟩
 cases o with
 |normal=>cases g2;exact h2
 |ret=>cases g2;exact h2
 |exit i=>
  cases g2
  simp only[kB]
  by_cases F:i=id
  ·rw[if_pos F];simp only[if_pos F]at h2;exact h2
  ·rw[if_neg F];simp only[if_neg F]at h2;exact h2,.block⟩
theorem aT4{o:Bool}{keep:List Nat}{u:List LO}:WC P orc cal (.reg o keep u) e s Q=WR P (if o then dC orc else cal) u e s (kK keep e Q):=propext ⟨fun⟨x,h1,h2⟩=>by
 simp only[vl,bJG]at h1
 obtain⟨p,g1,rfl⟩:=h1
 exact⟨p,g1,h2⟩,.reg⟩
def kC(P:bR8)(orc:cP)(cal:jP)(a b:LC)(e:bB)(s:VS)(Q:eD->bB->VS->Prop):Option TV->Prop
 |some (.b t)=>if t=true then WC P orc cal a e s Q else WC P orc cal b e s Q
 |_=>False
theorem aRw{x:bR7}{a b:LC}:WC P orc cal (.cond x a b) e s Q=kC P orc cal a b e s Q (dW e x):=by
 apply propext
 unfold WC
 simp only[vl]
 cases h:dW e x with
 |none=>simp [kC]
 |some v=>
  cases v with
  |b t=>cases t<;>simp [kC,TV.bool,WC]
  |_=>simp [kC,TV.bool]
theorem aUC{a b:LC}:kC P orc cal a b e s Q (some (.b true))=WC P orc cal a e s Q:=rfl
theorem aUG{a b:LC}:kC P orc cal a b e s Q (some (.b false))=WC P orc cal b e s Q:=rfl
theorem cM{a b:LC}{t:Bool}(h1:t=true->WC P orc cal a e s Q)(h2:t=false->WC P orc cal b e s Q):kC P orc cal a b e s Q (some (.b t)):=by cases t;exact h2 rfl;exact h1 rfl
theorem aUI{b:LC}:kS P orc cal b Q .normal e s=WC P orc cal b e s Q:=rfl
theorem aUL{b:LC}{i:Nat}:kS P orc cal b Q (.exit i) e s=Q (.exit i) e s:=rfl
theorem aUU{b:LC}:kS P orc cal b Q .ret e s=Q .ret e s:=rfl
theorem aUE{i:Nat}:kB i Q .normal e s=Q .normal e s:=rfl
theorem aUS{i:Nat}:kB i Q .ret e s=Q .ret e s:=rfl
theorem aUP{i j:Nat}:kB i Q (.exit j) e s=if j=i then Q .normal e s else Q (.exit j) e s:=rfl
theorem aU1{keep:List Nat}{e r:bB}{s:VS}:kK keep e Q r s=Q .normal (pP keep e r) s:=rfl
theorem sF{l:List LO}{d:Option Nat}{op:Op}{r:bB}{K:bB->VS->Prop}{x:Bool}(h1:x=true->kG P cal l d op r s K (some true))(h2:x=false->kG P cal l d op r s K (some false)):kG P cal l d op r s K (some x):=by cases x;exact h2 rfl;exact h1 rfl
theorem aOX{r:bB}:vlg r none=some true:=rfl
def aEx(w:Bool):Option TV->Option Bool
 |some (.b x)=>some (x==w)
 |some .u=>some false
 |_=>none
theorem aTp{r:bB}{d:Nat}{w:Bool}:vlg r (some (d,w))=aEx w (r d):=by
 simp only[vlg]
 cases r d with
 |none=>rfl
 |some y=>cases y<;>rfl
theorem aTh{x:Bool}:aEx true (some (.b x))=some x:=by simp [aEx]
theorem aSx{x:Bool}:aEx false (some (.b x))=some (!x):=by cases x<;>rfl
theorem aTu{w:Bool}:aEx w (some .u)=some false:=rfl
theorem bEJ{bZ:mB}{pv:cP}{m:Nat}{f:bR9}{fn:Func}{L:LC}{args:List TV}{R:TV×Bool}(D:pv f args=none)(hf:P.funcs[f]? =some fn){Y:YY}(z:fn.body.map (fun c=>jS (nJ fn c,fn.ntmps) Y c)=some L)(hn:(Nat.ble args.length 16&&Nat.ble args.length fn.ntmps)=true)
  (h:WC P (fY P bZ pv m) (fI P bZ (fY P bZ pv m) lC) L (lO args 0) dZ (fun o e s=>(∀i,o≠ .exit i)/\(iU P e s fn.results.toList).bind (fun l=>(dJ s l).map (nX (bZ.row f)))=some R)) (E:bZ.prim f=false):fY P bZ pv (m+1) f args=some R:=by
 rw[bJG]at z
 obtain⟨c,J,z⟩:=z
 rw[bJI]at hn
 have hn:args.length<=16/\args.length<=fn.ntmps:=⟨bJP hn.1,bJP hn.2⟩
 obtain⟨⟨o,e,s⟩,h1,h2,H⟩:=h
 rw[←z]at h1
 have h1:=aUi _ _ _ h1
 simp only[fY,D,E,bJQ,if_false,hf,bJM,vfn,J,if_pos hn,h1]
 cases o with
 |exit i=>exact absurd rfl (h2 i)
 |normal=>rw[←H];exact Option.map_bind
 |ret=>rw[←H];exact Option.map_bind
end
end
def bG(all:Array bRa):List bRa->List LO
 | []=>[]
 |o::l=>⟨o.dst,o.op,match o.guard with |none=>none|some (g,w)=>some ((((all[g]?).bind (·.dst)).getD 0),w)⟩::bG all l
def aGH(all:Array bRa):List bRa->Bool
 | []=>true
 |o::l=>(match o.guard with |none=>true|some (g,_)=>((all[g]?).bind (·.dst)).isSome)&&aGH all l
def aGO:Bool->Nat->List Nat->List Nat
 |true,d,l=>d::l
 |false,_,l=>l
def bE(X:List Nat):List bRa->List Nat
 | []=>[]
 |o::l=>match o.dst with |some d=>aGO (decide (d<16)||X.elem d) d (bE X l)|none=>bE X l
theorem aQc(d:Nat)(l:List Nat):aGO true d l=d::l:=rfl
theorem aRQ(d:Nat)(l:List Nat):aGO false d l=l:=rfl
theorem aIU(X:List Nat):∀l:List bRa,iN (X++bKj 16) l=bE X l
 | []=>rfl
 | o::l=>by
  unfold iN bE
  cases o.dst with
  |none=>exact aIU X l
  | some d=>
   simp only[aIU X l]
   have:(X++bKj 16).elem d=(decide (d<16)||X.elem d):=by
    rw[Bool.eq_iff_iff,bLg,ap,bKL,bKL,bKy,List.mem_range]
    exact Or.comm
   rw[this]
   cases (decide (d<16)||X.elem d)<;>simp [aGO]
def bC(X:List Nat)(Y:YY):Code->LC
 | .skip=> .skip
 | .region id u d=>bH (bF Y id) (.reg d (bE X u.toList) (bG u u.toList))
 | .seq a b=> .seq (bC X Y a) (bC X Y b)
 | .cond x a b=> .cond x (bC X Y a) (bC X Y b)
 | .block id c=> .block id (bC X Y c)
 | .loop c=> .loop (bC X Y c)
 | .exit id=> .exit id
 | .ret=> .ret
 |_=> .bad
def pW(U:FI)(Y:YY):Code->Bool
 | .region id u d=>lN U.2 u.toList&&(!d||(eS u.toList&&aHo (bF Y id) u.toList))&&aGH u u.toList
 | .seq a b=>pW U Y a&&pW U Y b
 | .cond _ a b=>pW U Y a&&pW U Y b
 | .block _ c=>pW U Y c
 | .loop c=>pW U Y c
 |_=>true
theorem aQa{all:Array bRa}:∀ {l:List bRa},aGH all l=true->zZ all l=some (bG all l)
 | [],_=>rfl
 | o::l,h=>by
  simp only[aGH,bJI]at h
  unfold zZ bG
  rw[aQa h.2]
  cases M:o.guard with
  |none=>rfl
  |some g=>
   obtain⟨g,w⟩:=g
   have h1:=h.1
   rw[M]at h1
   obtain⟨d,S⟩:=bMw.1 h1
   simp only[S,bJM,bKe,bLt]
theorem aPb{X:List Nat}{Y:YY}{N:Nat}:∀ {c:Code},pW (X++bKj 16,N) Y c=true->jS (X++bKj 16,N) Y c=bC X Y c:=by
 intro c
 induction c with
 |region id u d=>
  intro h
  simp only[pW,bJI]at h
  simp only[jS,aKZ,bC]
  rw[if_pos (by rw[bJI];exact⟨h.1.1,h.1.2⟩),aQa h.2,aIU]
 |seq a b A C=>intro h;simp only[pW,bJI]at h;simp only[jS,bC,A h.1,C h.2]
 |cond x a b A C=>intro h;simp only[pW,bJI]at h;simp only[jS,bC,A h.1,C h.2]
 |block id c ih=>intro h;simp only[pW]at h;simp only[jS,bC,ih h]
 |loop c ih=>intro h;simp only[pW]at h;simp only[jS,bC,ih h]
 |_=>intro h;rfl
def bO(_:bR8)(_:bR9)(fn:Func)(X:List Nat)(Y:YY):Bool:=match fn.body with |some c=>pW (X++bKj 16,fn.ntmps) Y c&&decide (nJ fn c=X++bKj 16)|none=>false
theorem aRr{P:bR8}{bZ:mB}{pv:cP}{m:Nat}{f:bR9}{fn:Func}{X:List Nat}{Y:YY}{args:List TV}{R:TV×Bool}(D:pv f args=none)(hf:P.funcs[f]? =some fn)(z:bO P f fn X Y=true)(hn:(Nat.ble args.length 16&&Nat.ble args.length fn.ntmps)=true)
  (h:WC P (fY P bZ pv m) (fI P bZ (fY P bZ pv m) lC) (bC X Y (fn.body.getD .skip)) (lO args 0) dZ (fun o e s=>(∀i,o≠ .exit i)/\(iU P e s fn.results.toList).bind (fun l=>(dJ s l).map (nX (bZ.row f)))=some R)) (E:bZ.prim f=false):fY P bZ pv (m+1) f args=some R:=by
 unfold bO at z
 cases J:fn.body with
 |none=>rw[J]at z;cases z
 |some c=>
  rw[J]at z h
  simp only[bJI,ap]at z
  refine bEJ D hf (Y:=Y) (L:=bC X Y c) ?_ hn h E
  rw[J]
  simp only[bKe,z.2]
  rw[aPb z.1]
theorem bX{P:bR8}{bZ:mB}{pv:cP}{m:Nat}{f:bR9}{fn:Func}{X:List Nat}{Y:YY}{args:List TV}{R:TV×Bool}(D:pv f args=none)(hf:P.funcs[f]? =some fn)(z:bO P f fn X Y=true)(hn:(Nat.ble args.length 16&&Nat.ble args.length fn.ntmps)=true)
  (h:WC P (fY P bZ pv m) (fI P bZ (fY P bZ pv m) lC) (bC X Y (fn.body.getD .skip)) (lO args 0) dZ (fun o e s=>(∀i,o≠ .exit i)/\(iU P e s fn.results.toList).bind (fun l=>dJ s l)=some R)) (W:bZ.row f=false:=by rfl) (E:bZ.prim f=false:=by rfl):fY P bZ pv (m+1) f args=some R:=by
 refine aRr D hf z hn ?_ E
 rw[W]
 have e:∀q:Option (TV×Bool),q.map (nX false)=q:=fun q=>by cases q<;>rfl
 simp only[e]
 exact h
theorem jR{P:bR8}{bZ:mB}{pv:cP}{m:Nat}{f:bR9}{fn:Func}{X:List Nat}{Y:YY}{args:List TV}{R:TV×Bool}(D:pv f args=none)(hf:P.funcs[f]? =some fn)(z:bO P f fn X Y=true)(hn:(Nat.ble args.length 16&&Nat.ble args.length fn.ntmps)=true)
  (h:WC P (fY P bZ pv m) (fI P bZ (fY P bZ pv m) lC) (bC X Y (fn.body.getD .skip)) (lO args 0) dZ (fun o e s=>(∀i,o≠ .exit i)/\(iU P e s fn.results.toList).bind (fun l=>(dJ s l).map (nX true))=some R)) (W:bZ.row f=true:=by rfl) (E:bZ.prim f=false:=by rfl):fY P bZ pv (m+1) f args=some R:=by
 refine aRr D hf z hn ?_ E
 rw[W]
 exact h
theorem aC7{P:bR8}{bZ:mB}{orc:cP}{n:Nat}{f:bR9}{fn:Func}{X:List Nat}{Y:YY}{args:List TV}{s:VS}{Φ:TV->VS->Prop}(F:bZ f=true)(hf:P.funcs[f]? =some fn)(z:bO P f fn X Y=true)(hn:(Nat.ble args.length 16&&Nat.ble args.length fn.ntmps)=true)
  (h:WC P orc (fI P bZ orc n) (bC X Y (fn.body.getD .skip)) (lO args 0) s (fun o e s1=>(∀i,o≠ .exit i)/\∃R,(iU P e s1 fn.results.toList).bind (fun l=>some (aH l))=some R/\Φ R s1)):∃R s1,fI P bZ orc (n+1) f args s=some (R,s1)/\Φ R s1:=by
 unfold bO at z
 cases J:fn.body with
 |none=>rw[J]at z;cases z
 | some c=>
  rw[J]at z h
  simp only[bJI,ap]at z hn
  have hn:args.length<=16/\args.length<=fn.ntmps:=⟨bJP hn.1,bJP hn.2⟩
  obtain⟨⟨o,e,s1⟩,h1,h2,R,H,V⟩:=h
  simp only[bLt]at h1
  have Z:jS (nJ fn c,fn.ntmps) Y c=bC X Y c:=by rw[z.2,aPb z.1]
  rw[←Z]at h1
  have h1:=aUi _ _ _ h1
  refine⟨R,s1, ?_,V⟩
  simp only[fI,F,if_true,hf,bJM,J,if_pos hn,h1]
  cases o with
  |exit i=>exact absurd rfl (h2 i)
  |normal=>
   revert H
   show _->(iU P e s1 fn.results.toList).map _=_
   cases iU P e s1 fn.results.toList with
   |none=>intro h;cases h
   |some l=>intro h;cases h;rfl
  |ret=>
   revert H
   show _->(iU P e s1 fn.results.toList).map _=_
   cases iU P e s1 fn.results.toList with
   |none=>intro h;cases h
   |some l=>intro h;cases h;rfl
theorem aG4{P:bR8}{bZ:mB}{orc:cP}{n:Nat}{f:bR9}{fn:Func}{X:List Nat}{Y:YY}{args:List TV}{s:VS}{R:TV×VS}(F:bZ f=true)(hf:P.funcs[f]? =some fn)(z:bO P f fn X Y=true)(hn:(Nat.ble args.length 16&&Nat.ble args.length fn.ntmps)=true)
  (h:WC P orc (fI P bZ orc n) (bC X Y (fn.body.getD .skip)) (lO args 0) s (fun o e s1=>(∀i,o≠ .exit i)/\(iU P e s1 fn.results.toList).bind (fun l=>some (aH l,s1))=some R)):fI P bZ orc (n+1) f args s=some R:=by
 obtain⟨R1,s1,G,Z⟩:=aC7 (Φ:=fun R1 s1=>(R1,s1)=R) F hf z hn (h.mono fun o e s1 q=>⟨q.1,by
  obtain⟨_,q⟩:=q
  cases hv:iU P e s1 fn.results.toList with
  |none=>rw[hv]at q;cases q
  |some l=>rw[hv]at q;exact⟨_,rfl,bq q⟩⟩)
 rw[G,Z]
section
theorem aB8{sz:Nat}{cs:List TV}(h:cs≠ []):tL sz cs= .im sz cs:=by cases cs with |nil=>exact absurd rfl h|cons c l=>rfl
theorem bG9{sz:Nat}(_:0<sz)(cs:List TV):iB (tL sz cs)=tL sz (cG cs):=by
 cases cs with
 |nil=>rfl
 |cons c l=>
  show(if (c::l).length=0/\0<sz then TV.em else .im sz (cG (c::l)))=_
  rw[if_neg (by simp)];rfl
theorem aXM(sz:Nat)(cs:List TV):cI (tL sz cs)=dI cs:=by cases cs<;>rfl
theorem aHP:∀(a b:List TV),dI (a++b)=(dI a&&dI b)
 | [],b=>by simp [dI]
 |x::a,b=>by simp only[bKm,dI,aHP a b,Bool.and_assoc]
theorem aPu:∀(a b:List TV),cG (a++b)=cG a++cG b
 | [],b=>by simp [cG]
 |x::a,b=>by simp only[bKm,cG,aPu a b]
def Can(l:List TV):Prop:=dI l=true/\cG l=l
def cQ(t:TV):Prop:=cI t=true/\iB t=t
theorem Can.nil:Can []:=⟨rfl,rfl⟩
theorem Can.cons{a:TV}{l:List TV}(h:cQ a)(k:Can l):Can (a::l):=⟨by simp only[dI,h.1,k.1,bKr],by simp only[cG,h.2,k.2]⟩
theorem Can.app{a b:List TV}(h:Can a)(k:Can b):Can (a++b):=⟨by rw[aHP,h.1,k.1];rfl,by rw[aPu,h.2,k.2]⟩
theorem Can.flat{α:Type}{f:α->List TV}(h:∀a,Can (f a)):∀l:List α,Can (l.flatMap f)
 | []=>Can.nil
 |a::l=>by rw[List.flatMap_cons];exact(h a).app (Can.flat h l)
theorem Can.map{α:Type}{f:α->TV}(h:∀a,cQ (f a)):∀l:List α,Can (l.map f)
 | []=>Can.nil
 |a::l=>Can.cons (h a) (Can.map h l)
theorem cQ.tL{sz:Nat}(hs:0<sz){cs:List TV}(h:Can cs):cQ (tL sz cs):=⟨by rw[aXM];exact h.1,by rw[bG9 hs,h.2]⟩
theorem cQ.ag{cs:List TV}(h:Can cs):cQ (.ag cs):=⟨h.1,by simp only[iB,h.2]⟩
theorem cQ.int(k:bR6)(z:Int):cQ (.int k z):=⟨rfl,rfl⟩
theorem cQ.b(x:Bool):cQ (.b x):=⟨rfl,rfl⟩
theorem cQ.em:cQ .em:=⟨rfl,rfl⟩
theorem cQ.str(x:ByteArray):cQ (.str x):=⟨rfl,rfl⟩
theorem aX1{m:Nat}{s:VS}{t:TV}(h:cI t=true)(p:∀l,t≠ .ag l)(C:∀l,t≠ .tp l):fE (m+1) s t=some (t,s):=by
 cases t<;>first|exact absurd rfl (p _)|exact absurd rfl (C _)|(simp [cI]at h;done)|simp only[fE,h,if_true]|rfl
mutual
def cV:TV->Nat
 | .ag l=>bT l+1
 | .tp l=>bT l+1
 |_=>1
def bT:List TV->Nat
 | []=>1
 |a::l=>cV a+bT l+1
end
theorem nC:∀m:Nat,(∀ {s:VS} {t:TV},cI t=true->cV t<=m->fE m s t=some (t,s))/\(∀ {s:VS} {l:List TV},dI l=true->bT l<=m->cY m s l=some (l,s))
 |0=>⟨fun {s t} _ h=>by cases t<;>simp [cV]at h,fun {s l} _ h=>by cases l<;>simp [bT]at h⟩
 | m+1=>by
  obtain⟨r,g⟩:=nC m
  refine⟨fun {s t} hc h=> ?_,fun {s l} hc h=> ?_⟩
  ·cases t with
   |ag l=>simp only[fE];rw[g (by simpa only[cI]using hc) (by simp [cV]at h;omega)];rfl
   |tp l=>simp only[fE];rw[g (by simpa only[cI]using hc) (by simp [cV]at h;omega)];rfl
   |_=>exact aX1 hc (fun _ e=>by cases e) (fun _ e=>by cases e)
  ·cases l with
   |nil=>rfl
   |cons a l=>
    simp only[dI,bJI]at hc
    simp only[bT]at h
    simp only[cY]
    rw[r hc.1 (by omega)]
    simp only[bJM]
    rw[g hc.2 (by omega)]
    rfl
theorem qR{s:VS}{l:List TV}(h:dI l=true)(hs:bT l<=cL):cY cL s l=some (l,s):=(nC cL).2 h hs
section
variable {P:bR8}{orc:cP}
theorem aF3{f:bR9}{args:List TV}{s:VS}{R:TV}(h:Can args)(hs:bT args<=cL)(d:orc f args=some (R,false)):dC orc f args s=some (R,s):=by
 unfold dC
 rw[qR h.1 hs]
 simp only[bJM,h.2,d,bJQ,if_false]
theorem aWP{f:bR9}{args:List TV}{s:VS}{sz:Nat}{cs:List TV}(h:Can args)(hs:bT args<=cL)(d:orc f args=some (.im sz cs,true))(h0:0<sz)(D:cs.length%sz=0):dC orc f args s=some (.ow s.nxt 0 (cs.length/sz) sz,s.new cs):=by
 unfold dC
 rw[qR h.1 hs]
 simp only[bJM,h.2,d,if_true,nT,if_pos (ab h0 D)]
 rfl
theorem aDe{f:bR9}{args:List TV}{s:VS}(h:dI args=true)(hs:bT args<=cL):fF orc f args s=dC orc f args s:=by
 unfold fF dC
 rw[qR h hs]
 simp only[bJM]
 cases d:orc f (cG args)with
 |none=>rfl
 | some q=>
  obtain⟨R,own⟩:=q
  simp only[bJM]
  cases own with
  |false=>simp
  |true=>
   simp only[if_true,nT]
   cases oV R<;>rfl
def CC(orc:cP)(f:bR9)(args:List TV)(R:TV):Prop:=∀s,dC orc f args s=some (R,s)/\fF orc f args s=some (R,s)
theorem CC.of{f:bR9}{args:List TV}{R:TV}(h:Can args)(hs:bT args<=cL)(d:orc f args=some (R,false)):CC orc f args R:=fun s=>
 ⟨aF3 h hs d,by rw[aDe h.1 hs];exact aF3 h hs d⟩
theorem CC.fr{f:bR9}{args:List TV}{R:TV}(h:Can args)(hs:bT args<=cL)(d:orc f args=some (.tp [R],true)):CC orc f args R:=fun s=>by
 have e:dC orc f args s=some (R,s):=by
  unfold dC
  rw[qR h.1 hs]
  simp only[bJM,h.2,d,if_true,nT,oV]
 exact⟨e,by rw[aDe h.1 hs];exact e⟩
theorem aRv{ty e:bR5}{sz:Nat}{cs:List TV}(i:cW P ty=some e)(hs:aY P e=sz)(h0:0<sz):jW P ty (tL sz cs)=some (.int .i64 (cs.length/sz:Nat)):=by
 cases cs with
 |nil=>simp [tL,jW,i]
 |cons c l=>simp [tL,jW,i,hs,h0]
theorem aNW{ty e:bR5}{sz j:Nat}{cs:List TV}(i:cW P ty=some e)(E:dG P e=true)(hs:aY P e=sz)(h0:0<sz)(B:(j+1)*sz<=cs.length):mI P ty (tL sz cs) j=some (.pi cs (j*sz)):=by
 have u:cs≠ []:=fun e=>by
  subst e
  simp only[bKf,Nat.le_zero,Nat.mul_eq_zero]at B
  omega
 rw[aB8 u]
 simp [mI,i,E,hs,h0,B]
theorem aI6{t:bR5}{s:VS}{cs:List TV}{off:Nat}(p:jZ P t=false):kP P t s (.pi cs off)=cs[off]? :=by simp [kP,qM,p]
end
end
section
section
variable {et:fP}{k:bR6}{x y:Nat}
theorem aSz:bU et .lss (.int k (x:Int)) (.int k (y:Int))=some (.b (decide (x<y))):=by simp [bU,dX]
theorem aSd:bU et .leq (.int k (x:Int)) (.int k (y:Int))=some (.b (decide (x<=y))):=by simp [bU,dX]
theorem aSe:bU et .gtr (.int k (x:Int)) (.int k (y:Int))=some (.b (decide (y<x))):=by simp [bU,dX]
theorem aTE:bU et .geq (.int k (x:Int)) (.int k (y:Int))=some (.b (decide (y<=x))):=by simp [bU,dX]
theorem aTr:bU et .eql (.int k (x:Int)) (.int k (y:Int))=some (.b (decide (x=y))):=by simp only[bU,dX,if_true];congr 2;exact decide_eq_decide.2 (by omega)
theorem aTa:bU et .neq (.int k (x:Int)) (.int k (y:Int))=some (.b (!decide (x=y))):=by simp only[bU,dX,if_true];congr 3;exact decide_eq_decide.2 (by omega)
theorem vL{z:Int}(h1: -9223372036854775808<=z)(h2:z<9223372036854775808):IntKind.i64.wrap z=z:=by
 have w:(2^IntKind.i64.bits:Int)=18446744073709551616:=rfl
 have A:(2^(IntKind.i64.bits-1):Int)=9223372036854775808:=rfl
 unfold IntKind.wrap
 simp only[w,A,IntKind.signed,bKI,ap]
 split<;>omega
theorem aSL(h:x+y<9223372036854775808):bU et .add (.int .i64 (x:Int)) (.int .i64 (y:Int))=some (.int .i64 ((x+y:Nat):Int)):=by
 simp only[bU,dX,if_true];rw[vL (by omega) (by omega)];simp
theorem aTG(h1:y<=x)(h:x<9223372036854775808):bU et .sub (.int .i64 (x:Int)) (.int .i64 (y:Int))=some (.int .i64 ((x-y:Nat):Int)):=by
 simp only[bU,dX,if_true];rw[vL (by omega) (by omega)];congr 2;omega
theorem aSZ(h:x*y<9223372036854775808):bU et .mul (.int .i64 (x:Int)) (.int .i64 (y:Int))=some (.int .i64 ((x*y:Nat):Int)):=by
 simp only[bU,dX,if_true]
 have:(x:Int)*(y:Int)=((x*y:Nat):Int):=by simp
 rw[this,vL (by omega) (by omega)]
theorem aRY(h1:0<y)(h:x<9223372036854775808):bU et .quo (.int .i64 (x:Int)) (.int .i64 (y:Int))=some (.int .i64 ((x/y:Nat):Int)):=by
 simp only[bU,dX,if_true];rw[if_pos ⟨by omega,by omega,by simp only[jJ];omega⟩];simp
theorem aSQ(h1:0<y)(h:x<9223372036854775808):bU et .rem (.int .i64 (x:Int)) (.int .i64 (y:Int))=some (.int .i64 ((x%y:Nat):Int)):=by
 simp only[bU,dX,if_true];rw[if_pos ⟨by omega,by omega,by simp only[jJ];omega⟩];simp
theorem aUs:TV.nat (.int k (x:Int))=some x:=rfl
theorem aUl{b:Bool}:TV.bool (.b b)=some b:=rfl
end
end
theorem tN{s:VS}{t:TV}(h:cQ t)(hs:cV t<=cL):dJ s [t]=some (t,false):=by
 have hc:=(nC cL).1 (s:=s) h.1 hs
 unfold dJ
 split
 ·rename_i e;cases e
 ·rename_i k off len sz e
  cases e
  have:=h.1
  simp [cI]at this
 ·rename_i a F e
  cases e
  rw[hc];simp only[bKe,h.2]
 ·rename_i e;cases e
  have:=h.1
  simp [cI]at this
 ·rename_i h1 h2 G
  first|exact absurd rfl (h2 _)|exact(h2 _ rfl).elim
section
theorem aQK:dZ.nxt=0:=rfl
theorem aTe(k:Nat):dZ.ob k=⟨2,[]⟩:=rfl
theorem tK(s:VS)(cs:List TV):(s.new cs).nxt=s.nxt+1:=rfl
theorem nE(s:VS)(k:Nat)(o:Ob):(s.set k o).nxt=s.nxt:=rfl
theorem gY(s:VS)(cs:List TV)(k:Nat):(s.new cs).ob k=pk (k==s.nxt) ⟨0,cs⟩ (s.ob k):=by
 show(if k=s.nxt then(⟨0,cs⟩:Ob)else s.ob k)=_
 by_cases h:k=s.nxt
 ·subst h;simp [pk]
 ·rw[if_neg h,show(k==s.nxt)=false by simpa using h];rfl
theorem gX(s:VS)(k j:Nat)(o:Ob):(s.set k o).ob j=pk (j==k) o (s.ob j):=by
 show(if j=k then o else s.ob j)=_
 by_cases h:j=k
 ·subst h;simp [pk]
 ·rw[if_neg h,show(j==k)=false by simpa using h];rfl
section
variable {P:bR8}{cal:jP}{orc:cP}
theorem aPg{t:bR5}{s:VS}{k off:Nat}:kP P t s (.po k off)=if k<s.nxt/\(s.ob k).how≠2 then qM P t off (s.ob k).cs else none:=rfl
theorem aO7{t:bR5}{s:VS}{v:TV}{k off:Nat}:aAO P t s v (.po k off)=if k<s.nxt/\(s.ob k).how=0/\v.cells.length=aY P t/\iO v.cells=true then(hH v.cells off (s.ob k).cs).map fun cs=>s.set k ⟨0,cs⟩else none:=rfl
theorem aPS{cs:List TV}:(TV.ag cs).cells=cs:=rfl
theorem aFz{sz:Nat}{cs:List TV}:(tL sz cs).cells=[tL sz cs]:=by cases cs<;>rfl
theorem aQh{b:Bool}:(TV.b b).cells=[.b b]:=rfl
theorem aNp{k:bR6}{z:Int}:(TV.int k z).cells=[.int k z]:=rfl
theorem aGe{sz:Nat}{cs:List TV}:(tL sz cs).one=true:=by cases cs<;>rfl
theorem aGU{b:Bool}:(TV.b b).one=true:=rfl
theorem aRy{k:bR6}{z:Int}:(TV.int k z).one=true:=rfl
theorem aTO:TV.em.one=true:=rfl
theorem aSV{k o:Nat}:(TV.po k o).one=true:=rfl
theorem mH{k o l s:Nat}:(TV.ow k o l s).one=true:=rfl
theorem aRT{b:Bool}:vD .not (.b b)=some (.b (!b)):=rfl
theorem bF5{bZ:mB}{f:bR9}(h:bZ f=false){n:Nat}{args:List TV}{s:VS}:fI P bZ orc n f args s=fF orc f args s:=by
 cases n with
 |zero=>rfl
 |succ n=>simp only[fI,h,bJQ,if_false]
end
end
section
section
variable {et:fP}{x y:Nat}
theorem aBO(h:x<18446744073709551616):IntKind.u64.wrap (x:Int)=(x:Int):=by
 have d:(2^IntKind.u64.bits:Int)=18446744073709551616:=rfl
 unfold IntKind.wrap
 simp only[d,IntKind.signed,bLH,bJQ,if_false]
 omega
theorem aIV:IntKind.u32.wrap (x:Int)=((x%4294967296:Nat):Int):=by
 have f:(2^IntKind.u32.bits:Int)=4294967296:=rfl
 unfold IntKind.wrap
 simp only[f,IntKind.signed,bLH,bJQ,if_false]
 omega
theorem aNG(h:x<9223372036854775808):IntKind.i64.wrap (x:Int)=(x:Int):=vL (by omega) (by omega)
theorem aRx(h:x+y<18446744073709551616):bU et .add (.int .u64 (x:Int)) (.int .u64 (y:Int))=some (.int .u64 ((x+y:Nat):Int)):=by
 simp only[bU,dX,if_true]
 rw[show(x:Int)+(y:Int)=((x+y:Nat):Int) by simp,aBO h]
theorem aRf(h:y<=x)(h2:x<18446744073709551616):bU et .sub (.int .u64 (x:Int)) (.int .u64 (y:Int))=some (.int .u64 ((x-y:Nat):Int)):=by
 simp only[bU,dX,if_true]
 rw[show(x:Int)-(y:Int)=((x-y:Nat):Int) by omega,aBO (by omega)]
theorem aQY(h:x*y<18446744073709551616):bU et .mul (.int .u64 (x:Int)) (.int .u64 (y:Int))=some (.int .u64 ((x*y:Nat):Int)):=by
 simp only[bU,dX,if_true]
 rw[show(x:Int)*(y:Int)=((x*y:Nat):Int) by simp,aBO h]
theorem aQs(h1:0<y)(h:x<18446744073709551616):bU et .quo (.int .u64 (x:Int)) (.int .u64 (y:Int))=some (.int .u64 ((x/y:Nat):Int)):=by
 simp only[bU,dX,if_true];rw[if_pos ⟨by omega,by omega,by simp only[jJ];omega⟩];simp
theorem aR6(h1:0<y)(h:x<18446744073709551616):bU et .rem (.int .u64 (x:Int)) (.int .u64 (y:Int))=some (.int .u64 ((x%y:Nat):Int)):=by
 simp only[bU,dX,if_true];rw[if_pos ⟨by omega,by omega,by simp only[jJ];omega⟩];simp
theorem aOi(h1:0<y)(h:x<4294967296):bU et .quo (.int .u32 (x:Int)) (.int .u32 (y:Int))=some (.int .u32 ((x/y:Nat):Int)):=by
 simp only[bU,dX,if_true];rw[if_pos ⟨by omega,by omega,by simp only[jJ];omega⟩];simp
theorem yG{k:bR6}{n:Nat}(h:n<=64):bU et .shr (.int .u64 (x:Int)) (.int k (n:Int))=some (.int .u64 ((x/2^n:Nat):Int)):=by
 simp only[bU]
 rw[if_pos ⟨by omega,by omega⟩]
 simp only[qZ,qZ.bitsN',bLc,bK7 h]
theorem yA{k:bR6}{n:Nat}(h:n<=64)(h2:x*2^n<18446744073709551616):bU et .shl (.int .u64 (x:Int)) (.int k (n:Int))=some (.int .u64 ((x*2^n:Nat):Int)):=by
 simp only[bU]
 rw[if_pos ⟨by omega,by omega⟩]
 simp only[qZ,qZ.bitsN',bLc,bK7 h]
 rw[show(x:Int)*2^n=((x*2^n:Nat):Int) by simp,aBO h2]
theorem aPv{k:bR6}:bU et .shr (.int .u64 (x:Int)) (.int k ((32:Nat):Int))=some (.int .u64 ((x/4294967296:Nat):Int)):=yG (by decide)
theorem aOJ{k:bR6}(h:x<4294967296):bU et .shl (.int .u64 (x:Int)) (.int k ((32:Nat):Int))=some (.int .u64 ((x*4294967296:Nat):Int)):=yA (by decide) (by omega)
theorem aKJ(h1:y<4294967296)(h2:x<4294967296):bU et .or (.int .u64 ((x*4294967296:Nat):Int)) (.int .u64 (y:Int))=some (.int .u64 ((x*4294967296+y:Nat):Int)):=by
 simp only[bU,dX,if_true]
 rw[if_pos ⟨by omega,by simp only[jJ];omega,by omega,by simp only[jJ];omega⟩]
 have:=Nat.two_pow_add_eq_or_of_lt (i:=32) (b:=y) (by omega) x
 congr 2
 simp only[bLc]
 have e:Nat.lor (x*4294967296) y=2^32*x|||y:=by rw[Nat.mul_comm];rfl
 rw[e,←this]
 congr 1
 omega
theorem aSO(h1:y<4294967296)(h2:x<4294967296):bU et .or (.int .u64 (y:Int)) (.int .u64 ((x*4294967296:Nat):Int))=some (.int .u64 ((y+x*4294967296:Nat):Int)):=by
 have h:=aKJ (et:=et) h1 h2
 simp only[bU,dX,if_true]at h ⊢
 rw[if_pos ⟨by omega,by simp only[jJ];omega,by omega,by simp only[jJ];omega⟩]at h ⊢
 rw[show Nat.lor (y:Int).toNat ((x*4294967296:Nat):Int).toNat=Nat.lor ((x*4294967296:Nat):Int).toNat (y:Int).toNat from Nat.or_comm _ _,h,bL1]
theorem aRO(h1:y<4294967296)(h2:x<4294967296):bU et .or (.int .u32 (x:Int)) (.int .u32 (y:Int))=some (.int .u32 ((x|||y:Nat):Int)):=by
 simp only[bU,dX,if_true]
 rw[if_pos ⟨by omega,by simp only[jJ];omega,by omega,by simp only[jJ];omega⟩]
 rfl
def iz(n:Nat):Int:=(n:Int)-1
theorem wA(h:0<x):iz x=((x-1:Nat):Int):=by unfold iz;omega
theorem yK(h:x<9223372036854775808):bU et .sub (.int .i64 (x:Int)) (.int .i64 ((1:Nat):Int))=some (.int .i64 (iz x)):=by
 simp only[bU,dX,if_true];rw[vL (by omega) (by omega)];rfl
theorem aNZ:bU et .geq (.int .i64 (iz x)) (.int .i64 ((0:Nat):Int))=some (.b (decide (0<x))):=by
 simp only[bU,dX,if_true];congr 2;exact decide_eq_decide.2 (by unfold iz;omega)
theorem aOS{k:bR6}:(aC (.int k (-1))).bind aM=some (.int k (-1)):=rfl
theorem aPd{k:bR6}:Value.int k (-1)=Value.int k (Int.negSucc 0):=rfl
theorem aOk{k:bR6}:TV.int k (Int.negSucc 0)=TV.int k (-1):=rfl
end
theorem aMS(l:List TV):hH [] 0 l=some l:=by simp [hH]
theorem aMC(a c:TV)(v l:List TV):hH (a::v) 0 (c::l)=(hH v 0 l).map (a:: ·):=by
 simp only[hH,bJN,bKi]
 by_cases h:v.length<=l.length
 ·rw[if_pos (by omega),if_pos h];simp
 ·rw[if_neg (by omega),if_neg h];rfl
theorem aMN(c:TV)(n:Nat)(v l:List TV):hH v (n+1) (c::l)=(hH v n l).map (c:: ·):=by
 simp only[hH,bJN]
 by_cases h:n+v.length<=l.length
 ·rw[if_pos (by omega),if_pos h];simp [show n+1+v.length=(n+v.length)+1 by omega]
 ·rw[if_neg (by omega),if_neg h];rfl
end
theorem ift{α:Type}{a b:α}:(if True then a else b)=a:=rfl
theorem aUW{α:Type}{a b:α}:(if False then a else b)=b:=rfl
theorem aMy{t:Tmp}:nF (.tmp t)=false:=rfl
theorem aMm{k:bR6}{z:Int}:nF (.const (.int k z))=false:=rfl
theorem aLV{b:Bool}:nF (.const (.bool b))=false:=rfl
theorem aMf{b:ByteArray}:nF (.const (.string b))=false:=rfl
theorem aOf:nF (.const .nilFunc)=false:=rfl
theorem aND{a:Option Addr}{n c:Nat}:nF (.const (.slice a n c))=false:=rfl
theorem aNB{f:bR9}:nF (.func f)=false:=rfl
theorem aNt{g:Nat}:nF (.global g)=false:=rfl
theorem aMt:nF (.const .nilIface)=true:=rfl
theorem aRs{b:Bool}:veq .eql b=some (.b b):=rfl
theorem aRk{b:Bool}:veq .neq b=some (.b (!b)):=rfl
theorem aQr:vni (.lit .nilIface)=some true:=rfl
theorem aRo:vni .err=some false:=rfl
theorem SS:type_of%(ab @aOk (ab @aPd (ab @aOS (ab @aNZ (ab @yK (ab @aOi (ab @wA (ab @aSB (ab @aOD (ab @aT4 (ab @aRw (ab @aTN (ab @aRC (ab @aQH (ab @aU2 (ab @aJH (ab @aTK (ab @aQ8 (ab @aRN (ab @aQ1 (ab @aUC (ab @aUG (ab @aUI (ab @aUL (ab @aUU (ab @aUE (ab @aUP (ab @aUS (ab @aU1 (ab @aMH (ab @aNC (ab @aR7 (ab @aUO (ab @aUN (ab @aOX (ab @aTp (ab @aTh (ab @aSx (ab @aTu (ab @bJM.{0,0} (ab @bKe.{0,0} (ab @aRR (ab @aMU (ab @aMv (ab @aNd (ab @beq_self_eq_true.{0} (ab @bKN (ab @bLr (ab @bJQ (ab @aSz (ab @aSd (ab @aSe (ab @aTE (ab @aTr (ab @aTa (ab @aUs (ab @aUl (ab @aQK (ab @tK (ab @nE (ab @gY (ab @gX (ab @aTe (ab @aPg (ab @aO7 (ab @aPS (ab @aFz (ab @aQh (ab @aNp (ab @bJN.{0} (ab @bKf.{0} (ab @bKi (ab @bKR (ab @bKK.{0} (ab @bLk.{0} (ab @aGe (ab @aGU (ab @aRy (ab @aTO (ab @aSV (ab @mH (ab @bKr (ab @bLH (ab @bMl (ab @bKD (ab @bKI (ab @and_self (ab @and_true (ab @true_and (ab @ne_eq.{1} (ab @not_false_eq_true (ab @not_true_eq_false (ab @bLE.{0} (ab @bLq.{0} (ab @bMg.{0} (ab @bJV.{0} (ab @bKA.{0} (ab @bKm.{0} (ab @bKQ.{0} (ab @bMF.{0} (ab @bM7.{0} (ab @List.drop_nil.{0} (ab @List.take_nil.{0} (ab @Option.isSome_some.{0} (ab @decide_true (ab @decide_false (ab @aRT (ab @implies_true.{1} (ab @bo.{0} (ab @bp.{0,0} (ab @if_pos.{1} (ab @aBO (ab @aIV (ab @aNG (ab @aRx (ab @aRf (ab @aQY (ab @aQs (ab @aR6 (ab @aPv (ab @aOJ (ab @aKJ (ab @aMS (ab @aMC (ab @aMN (ab @bKT.{0} (ab @bKu.{0} (ab @aSL (ab @aTG (ab @aSZ (ab @aRY (ab @aSQ (ab @ift (ab @aUW (ab @aSO (ab @aRO (ab @aSN (ab @aMy (ab @aMm (ab @aLV (ab @aMf (ab @aOf (ab @aMt (ab @aND (ab @aNB (ab @aNt (ab @aRs (ab @aRk (ab @aQr (@aRo)))))))))))))))))))))))))))))))))))))))))))))))))))))))))))))))))))))))))))))))))))))))))))))))))))))))))))))))))))))))))))))))))))))))))))))))))))))):=(ab @aOk (ab @aPd (ab @aOS (ab @aNZ (ab @yK (ab @aOi (ab @wA (ab @aSB (ab @aOD (ab @aT4 (ab @aRw (ab @aTN (ab @aRC (ab @aQH (ab @aU2 (ab @aJH (ab @aTK (ab @aQ8 (ab @aRN (ab @aQ1 (ab @aUC (ab @aUG (ab @aUI (ab @aUL (ab @aUU (ab @aUE (ab @aUP (ab @aUS (ab @aU1 (ab @aMH (ab @aNC (ab @aR7 (ab @aUO (ab @aUN (ab @aOX (ab @aTp (ab @aTh (ab @aSx (ab @aTu (ab @bJM.{0,0} (ab @bKe.{0,0} (ab @aRR (ab @aMU (ab @aMv (ab @aNd (ab @beq_self_eq_true.{0} (ab @bKN (ab @bLr (ab @bJQ (ab @aSz (ab @aSd (ab @aSe (ab @aTE (ab @aTr (ab @aTa (ab @aUs (ab @aUl (ab @aQK (ab @tK (ab @nE (ab @gY (ab @gX (ab @aTe (ab @aPg (ab @aO7 (ab @aPS (ab @aFz (ab @aQh (ab @aNp (ab @bJN.{0} (ab @bKf.{0} (ab @bKi (ab @bKR (ab @bKK.{0} (ab @bLk.{0} (ab @aGe (ab @aGU (ab @aRy (ab @aTO (ab @aSV (ab @mH (ab @bKr (ab @bLH (ab @bMl (ab @bKD (ab @bKI (ab @and_self (ab @and_true (ab @true_and (ab @ne_eq.{1} (ab @not_false_eq_true (ab @not_true_eq_false (ab @bLE.{0} (ab @bLq.{0} (ab @bMg.{0} (ab @bJV.{0} (ab @bKA.{0} (ab @bKm.{0} (ab @bKQ.{0} (ab @bMF.{0} (ab @bM7.{0} (ab @List.drop_nil.{0} (ab @List.take_nil.{0} (ab @Option.isSome_some.{0} (ab @decide_true (ab @decide_false (ab @aRT (ab @implies_true.{1} (ab @bo.{0} (ab @bp.{0,0} (ab @if_pos.{1} (ab @aBO (ab @aIV (ab @aNG (ab @aRx (ab @aRf (ab @aQY (ab @aQs (ab @aR6 (ab @aPv (ab @aOJ (ab @aKJ (ab @aMS (ab @aMC (ab @aMN (ab @bKT.{0} (ab @bKu.{0} (ab @aSL (ab @aTG (ab @aSZ (ab @aRY (ab @aSQ (ab @ift (ab @aUW (ab @aSO (ab @aRO (ab @aSN (ab @aMy (ab @aMm (ab @aLV (ab @aMf (ab @aOf (ab @aMt (ab @aND (ab @aNB (ab @aNt (ab @aRs (ab @aRk (ab @aQr (@aRo))))))))))))))))))))))))))))))))))))))))))))))))))))))))))))))))))))))))))))))))))))))))))))))))))))))))))))))))))))))))))))))))))))))))))))))))))))))
section
structure EC(α:Type) where
 c:α->List TV
 sz:Nat
 pos:0<sz
 len:∀a,(c a).length=sz
 can:∀a,Can (c a)
 one:∀a,iO (c a)=true
 siz:Nat
 hsz:∀a,bT (c a)<=siz
section
variable {α:Type}(E:EC α)
def EC.row(l:List α):List TV:=l.flatMap E.c
def EC.t(l:List α):TV:=tL E.sz (E.row l)
theorem EC.row_cons(a:α)(l:List α):E.row (a::l)=E.c a++E.row l:=rfl
theorem EC.row_app(l m:List α):E.row (l++m)=E.row l++E.row m:=List.flatMap_append
theorem EC.row_len:∀l:List α,(E.row l).length=l.length*E.sz
 | []=>by simp [EC.row]
 |a::l=>by rw[E.row_cons,bJW,E.len,EC.row_len l,bJN,bKZ,bL1]
theorem EC.row_can(l:List α):Can (E.row l):=Can.flat E.can l
theorem EC.t_can(l:List α):cQ (E.t l):=cQ.tL E.pos (E.row_can l)
theorem EC.t_siz(l:List α):cV (E.t l)=1:=by unfold EC.t;cases E.row l<;>rfl
theorem EC.t_one{l:List α}:(E.t l).one=true:=aGe
theorem EC.t_cells{l:List α}:(E.t l).cells=[E.t l]:=aFz
theorem aOy:∀(a b:List TV),bT (a++b)+1=bT a+bT b
 | [],b=>by simp only[bKA,bT];omega
 |x::a,b=>by have:=aOy a b;simp only[bKm,bT];omega
theorem EC.row_siz:∀l:List α,bT (E.row l)<=l.length*E.siz+1
 | []=>by simp [EC.row,bT]
 |a::l=>by
  have h1:=E.hsz a
  have h2:=EC.row_siz l
  have y:=aOy (E.c a) (E.row l)
  rw[E.row_cons,bJN,bKZ]
  omega
theorem aZc(a b:List TV):iO (a++b)=(iO a&&iO b):=by simp [iO]
theorem EC.row_one:∀l:List α,iO (E.row l)=true
 | []=>rfl
 |a::l=>by rw[E.row_cons,aZc,E.one,EC.row_one l];rfl
theorem EC.drop:∀(l:List α) (n:Nat),(E.row l).drop (n*E.sz)=E.row (l.drop n)
 | [],n=>by simp [EC.row]
 |a::l,0=>by simp
 |a::l,n+1=>by
  rw[E.row_cons,bKZ,bN9,E.len,bN7 (by rw[E.len];omega),bKA,bKs,EC.drop l n,bMg]
theorem EC.take:∀(l:List α) (n:Nat),(E.row l).take (n*E.sz)=E.row (l.take n)
 | [],n=>by simp [EC.row]
 |a::l,0=>by simp [EC.row]
 |a::l,n+1=>by
  rw[E.row_cons,bKZ,bMx,E.len,bJU (by rw[E.len];omega),bKs,EC.take l n,bLE,E.row_cons]
variable [Inhabited α]
theorem EC.at_{l:List α}{j:Nat}(h:j<l.length):(E.row l).drop (j*E.sz)=E.c (l.getD j default)++E.row (l.drop (j+1)):=by
 rw[E.drop,bLx h,E.row_cons]
 congr 2
 simp [h]
theorem EC.cut{l:List α}{j n o:Nat}(h:j<l.length)(hn:o+n<=E.sz):jK n (j*E.sz+o) (E.row l)=jK n o (E.c (l.getD j default)):=by
 have f:j*E.sz+E.sz<=(E.row l).length:=by rw[E.row_len,←bKZ];exact bK8 _ h
 unfold jK
 rw[if_pos (by omega),if_pos (by rw[E.len];omega)]
 congr 1
 rw[←List.drop_drop,E.at_ h,bN9,E.len,bMx,bK3,E.len,show n-(E.sz-o)=0 by omega,bLq,bKQ]
theorem EC.get{l:List α}{j o:Nat}(h:j<l.length)(hn:o<E.sz):(E.row l)[j*E.sz+o]? =(E.c (l.getD j default))[o]? :=by
 have e:=congrArg (fun q=>q[o]?) (E.at_ h)
 simp only[List.getElem?_drop]at e
 rw[e,bMA (by rw[E.len];exact hn)]
theorem EC.cut0{l:List α}{j n:Nat}(h:j<l.length)(hn:n<=E.sz):jK n (j*E.sz) (E.row l)=jK n 0 (E.c (l.getD j default)):=E.cut (o:=0) h (by omega)
theorem EC.all{l:List α}{j:Nat}(h:j<l.length):jK E.sz (j*E.sz) (E.row l)=some (E.c (l.getD j default)):=by
 rw[E.cut0 h (bJE _)]
 unfold jK
 rw[if_pos (by rw[E.len];omega),bJV,bJU (by rw[E.len];omega)]
omit [Inhabited α]in
theorem EC.put{l:List α}{j:Nat}{a:α}(h:j<l.length):hH (E.c a) (j*E.sz) (E.row l)=some (E.row (l.set j a)):=by
 have f:j*E.sz+E.sz<=(E.row l).length:=by rw[E.row_len,←bKZ];exact bK8 _ h
 unfold hH
 rw[E.len,if_pos f,E.take,show j*E.sz+E.sz=(j+1)*E.sz by rw[bKZ],E.drop,List.set_eq_take_append_cons_drop,if_pos h,E.row_app,E.row_cons,List.append_assoc]
end
section
variable {P:bR8}{α:Type}{E:EC α}
theorem aGj{ty e:bR5}{l:List α}(d:cW P ty=some e)(hs:aY P e=E.sz):jW P ty (E.t l)=some (.int .i64 (l.length:Nat)):=by
 unfold EC.t
 rw[aRv d hs E.pos,E.row_len,bL0 _ E.pos]
theorem aFr{ty e:bR5}{l:List α}{j:Nat}(d:cW P ty=some e)(g:dG P e=true)(hs:aY P e=E.sz)(h:j<l.length):mI P ty (E.t l) j=some (.pi (E.row l) (j*E.sz)):=by
 unfold EC.t
 exact aNW d g hs E.pos (by rw[E.row_len];exact bK8 _ h)
theorem aZf{ty e:bR5}{k off len j:Nat}(d:cW P ty=some e)(g:dG P e=true)(hs:aY P e=E.sz)(h:j<len):mI P ty (.ow k off len E.sz) j=some (.po k (off+j*E.sz)):=by
 simp only[mI,d,g,if_true,hs];rw[if_pos ⟨trivial,h⟩]
theorem aJr{ty e:bR5}{k off len sz:Nat}(d:cW P ty=some e):jW P ty (.ow k off len sz)=some (.int .i64 (len:Nat)):=by simp [jW,d]
theorem bFe{ty e:bR5}(d:cW P ty=some e):jW P ty .em=some (.int .i64 ((0:Nat):Int)):=by simp [jW,d]
theorem bAb{ty e:bR5}{r:bB}{l:List α}{lo s:Option bR7}(d:cW P ty=some e)(g:dG P e=true)(hs:aY P e=E.sz):
  jB P ty r (E.t l) lo s none=(eL r 0 lo).bind fun a=>(eL r l.length s).bind fun b=>if a<=b/\b<=l.length then some (E.t ((l.drop a).take (b-a)))else none:=by
 have i:=E.pos
 cases l with
 | nil=>
  simp only[EC.t,EC.row,List.flatMap_nil,tL,jB,d,g,if_true,bKf]
  congr 1;funext a;congr 1;funext b
  by_cases u:b=0
  ·subst u
   by_cases v:a=0
   ·subst v;simp []
   ·rw[if_neg (by omega),if_neg (by omega)]
  ·rw[if_neg (by omega),if_neg (by omega)]
 | cons x l=>
  have p:E.row (x::l)≠ []:=fun e=>by
   have:=E.row_len (x::l)
   rw[e,bJN,bKZ]at this
   simp only[bKf]at this
   omega
  have w:E.t (x::l)= .im E.sz (E.row (x::l)):=aB8 p
  rw[w]
  simp only[jB,d,g,if_true,hs]
  rw[if_pos ⟨trivial,i⟩,E.row_len,bL0 _ i]
  congr 1;funext a;congr 1;funext b
  by_cases h:a<=b/\b<=(x::l).length
  ·rw[if_pos ⟨h.1,bK8 _ h.2⟩,if_pos h,E.drop,E.take];rfl
  ·rw[if_neg (fun h'=>h ⟨h'.1,Nat.le_of_mul_le_mul_right h'.2 i⟩),if_neg h]
end
end
end Ev
end Go.Proofs.YtmjoaipkaddkbaaGreatDoor
