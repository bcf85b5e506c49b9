/- Part of a proof. -/
import Derived.Test.YtmjoaipkaddkbaaGreatDoorP11
noncomputable section
open List renaming drop_zero→bJd,flatMap_cons→bLp,getElem?_cons_succ→bKy,getElem?_map→bKv
open Nat renaming add_zero→bJD,le_of_eq→bKx,le_refl→bIK,lt_of_lt_of_le→bIP,mul_one→bJn,zero_add→bJl
open Go renaming Value→bQa,World→bQ9
open Go
open Go.Proofs.Tryz
namespace Go.Proofs.YtmjoaipkaddkbaaGreatDoor.Ev
open Go Go.RowKit
def IV(_:bQ9)(ds:List bQa)(y:Bool×bQa):Prop:=ds=[.bool y.1,y.2]/\y.2.oneCell'=true
theorem IV.one:∀(w:bQ9) (ds:List bQa) (y:Bool×bQa),IV w ds y->∀u∈ds,u.oneCell'=true:=by
 rintro w ds y ⟨rfl,h⟩ v hv
 simp only[List.mem_cons,List.not_mem_nil,or_false]at hv
 rcases hv with rfl|rfl
 ·rfl
 ·exact h
theorem mO.one:∀(w:bQ9) (ds:List bQa) (x:Nat),mO w ds x->∀u∈ds,u.oneCell'=true:=by
 rintro w ds x ⟨rfl, -⟩ u hu
 rw[List.mem_singleton.1 hu];rfl
theorem aXf{w:bQ9}{u:bQa}{xs:List Nat}(hL:bC xs)(hl:xs.length<=1000)(h:WT w u (tW xs))(row:Option Nat):xZ 1 (YtmjoaipkaddkbaaGreatDoor.gU row mO) w u xs:=by
 have h':xs=[]\/tW xs= .im 1 (xs.map wc):=by cases xs with |nil=>exact .inl rfl|cons _ _=>exact .inr rfl
 rcases h' with rfl|h'
 ·obtain⟨A,c,rfl⟩:=aGe h
  exact⟨A,c,rfl,Nat.zero_le _,by decide,fun h=>absurd rfl h⟩
 ·rw[h']at h
  obtain⟨A,c,rfl,hc,hh⟩:=aDM (n:=xs.length) (by decide) (by simp) h
  refine⟨A,c,rfl,hc,by omega,fun h0=> ?_⟩
  obtain⟨b,off,rfl,hb,hat⟩:=hh (List.length_pos_iff.2 h0)
  refine⟨b,off,rfl,hb,fun k x hk=>⟨[.int .u32 (x:Int)],rfl,fun j v hj=> ?_,fun(_:bQ9) _=>⟨rfl,hL x (List.mem_of_getElem? hk)⟩⟩⟩
  obtain⟨rfl,rfl⟩:j=0/\v= .int .u32 (x:Int):=by
   cases j with
   |zero=>simp at hj;exact⟨rfl,hj.symm⟩
   |succ j=>simp at hj
  obtain⟨u,g1,g2⟩:=hat k (wc x) (by rw[bKv,hk];rfl)
  cases g2
  rw[bJn,bJD]
  exact g1
theorem bGw{w:bQ9}{base:Nat}{v:bQa}{xs:List Nat}(h:eL 100 1 mO base w v xs):WT w v (tW xs):=by
 obtain⟨vs,ho,hel⟩:=h
 cases hx:xs with
 |nil=>
  subst hx
  rcases ho.2 with ⟨rfl, -⟩|⟨g,cap,cQ,rfl, -⟩
  ·exact .emn
  ·exact .ems _ _
 | cons x0 xs0=>
  rw[←hx]
  have e:tW xs= .im 1 (xs.map wc):=by rw[hx];rfl
  rw[e]
  rcases ho.2 with ⟨-,hn⟩|⟨g,cap,cQ,rfl,hb,hg,hcap,hcm,hcs,htk⟩
  ·rw[hx]at hn;simp at hn
  ·refine .im hg hcap (by rw[bJl];exact bKx hcs.symm) ?_
   rw[bJd,htk]
   have hvl:=ho.1
   rw[bJn]at hvl
   have hv:vs=xs.map fun x=>Value.int .u32 ((x:Nat):Int):=by
    refine List.ext_getElem? fun k=> ?_
    rw[bKv]
    cases hk:xs[k]? with
    |none=>
     rw[List.getElem?_eq_none_iff]at hk
     exact List.getElem?_eq_none (by omega)
    |some x=>
     obtain⟨ds,d1,d2,d3⟩:=hel k x hk
     obtain⟨d4, -⟩:=d3.out
     have:=d2 0 (.int .u32 (x:Int)) (by rw[d4];rfl)
     rw[bJn,bJD]at this
     exact this
   rw[hv]
   clear hv hvl htk hcs hcm hcap hg hb ho hel e hx
   induction xs with
   |nil=>exact .nil
   |cons x xs ih=>exact .cons (.int _ _) ih
theorem aZQ:(prog.info? 47).map (fun i=>(i.zero,i.size,i.bytes))=some (some (.agg #[.bool false,.slice none 0 0]),2,32):=by kernel_rfl
theorem ints_at{w:bQ9}{v:bQa}{l:List (Bool×List Nat)}(h:WT w v (eB l)):∃A c,v= .slice A l.length c/\∀j,j<l.length->∃b off Aj cj,A=some ⟨b,off,none⟩/\b<w.heap.size/\w.cell? ⟨b,off+j*2,none⟩=some (.bool (l.getD j (false,[])).1)/\w.cell? ⟨b,off+j*2+1,none⟩=some (.slice Aj (l.getD j (false,[])).2.length cj)/\WT w (.slice Aj (l.getD j (false,[])).2.length cj) (tW (l.getD j (false,[])).2):=by
 obtain⟨A,c,e,hh⟩:=aDG (n:=l.length) (sz:=2) (by decide) (ts:=eV.row l) (eV.row_len l) h
 refine⟨A,c,e,fun j hj=> ?_⟩
 obtain⟨b,off,ea,hb,hc⟩:=hh (by omega)
 obtain⟨x,hx⟩:∃x,x=l.getD j (false,[]):=⟨_,rfl⟩
 rw[←hx]
 obtain⟨u0,g1,g2⟩:=hc (j*2) (.b x.1) (by
  have:=eV.get (l:=l) (j:=j) (o:=0) hj (by decide)
  rw[hx];exact this)
 obtain⟨u1,k1,k2⟩:=hc (j*2+1) (tW x.2) (by
  have:=eV.get (l:=l) (j:=j) (o:=1) hj (by decide)
  rw[hx];exact this)
 cases g2
 obtain⟨Aj,cj,rfl, -⟩:=aDG (n:=x.2.length) (sz:=1) (by decide) (ts:=x.2.map wc) (by simp) k2
 exact⟨b,off,Aj,cj,ea,hb,g1,k1,k2⟩
theorem aNy{α:Type}{T sz base:Nat}{R:bQ9->List bQa->α->Prop}{X:bQ9}(h:base<=X.heap.size):eL T sz R base (X.alloc (.cells #[] T)) (.slice (some ⟨X.heap.size,0,none⟩) 0 0) []:=
 ⟨[],⟨by simp,.inr ⟨X.heap.size,0, #[],rfl,h,Below.heap_new _ _,bIK _,Nat.zero_le _,by simp,by simp⟩⟩,fun k x h=>by simp at h⟩
theorem aQD{X:bQ9}{T:TypeId}{row:Option Nat}{y:Bool×bQa}(hy:y.2.oneCell'=true):xZ 2 (YtmjoaipkaddkbaaGreatDoor.gU row IV) (X.alloc (.cells #[.bool y.1,y.2] T)) (.slice (some ⟨X.heap.size,0,none⟩) 1 1) [y]:=by
 obtain⟨y0,y1, -, -⟩:=yH (Below.heap_new X (.cells #[.bool y.1,y.2] T))
 refine⟨_,_,rfl,bIK _,by simp,fun _=>⟨X.heap.size,0,rfl,by simp,fun k x hk=> ?_⟩⟩
 cases k with
 |succ k=>simp at hk
 |zero=>
  simp at hk
  subst hk
  refine⟨[.bool y.1,y.2],rfl,fun j u hj=> ?_,fun _ _=>⟨rfl,hy⟩⟩
  match j,hj with
  |0,hj=>simp at hj;subst hj;exact y0
  |1,hj=>simp at hj;subst hj;exact y1
  |j+2,hj=>simp at hj
theorem aXb{X:bQ9}{T:TypeId}{row:Option Nat}{y:Bool×bQa}(hy:y.2.oneCell'=true):xZ 2 (YtmjoaipkaddkbaaGreatDoor.gU row IV) (X.alloc (.cells #[.bool y.1,y.2] T)).drew (.slice (some ⟨X.heap.size,0,none⟩) 1 1) [y]:=
 aQD (X:=X.drew) (T:=T) (row:=row) hy
structure tT(l:List (Bool×List Nat))(r:Int)(b2:Nat)(wr:bQ9)(v:bQa)(ys:List (Bool×bQa)):Prop where
 row:eL 47 2 IV (b2+1) wr v ys
 box:wr.heap[b2]? =some (.cells #[v,.int .i64 r] 24 (0,0))
 el:∀(i:Nat) (y:Bool×bQa),ys[i]? =some y->∃x:Bool×List Nat,l[i]? =some x/\y.1=x.1/\eL 100 1 mO (b2+1) wr y.2 x.2/\(y.2.ownBlock=none\/y.2.ownBlock≠v.ownBlock)
theorem eL.farC{α:Type}{T sz base:Nat}{R:bQ9->List bQa->α->Prop}(hR:∀w w' ds x,R w ds x->R w' ds x){w w':bQ9}{v:bQa}{l:List α}{row:Option Nat}(h:eL T sz R base w v l)(hg:w.grownBy w' row)(hne:v.ownBlock=none\/v.ownBlock≠row):eL T sz R base w' v l:=by
 obtain⟨xs,ho,hel⟩:=h
 refine⟨xs,ho.kept hg hne,fun k x hk=> ?_⟩
 obtain⟨ds,h1,h2,h3⟩:=hel k x hk
 exact⟨ds,h1,h2,fun w'' _=>hR _ _ _ _ h3.out⟩
theorem eL.baseC{α:Type}{T sz base base':Nat}{R:bQ9->List bQa->α->Prop}{w:bQ9}{v:bQa}{l:List α}(h:eL T sz R base w v l)(hb:base'<=base):eL T sz R base' w v l:=by
 obtain⟨xs,ho,hel⟩:=h
 refine⟨xs,⟨ho.1, ?_⟩,hel⟩
 rcases ho.2 with h|⟨g,cap,cQ,h1,h2,h3⟩
 ·exact .inl h
 ·exact .inr ⟨g,cap,cQ,h1,Nat.le_trans hb h2,h3⟩
theorem mO.const:∀(w w':bQ9) (ds:List bQa) (x:Nat),mO w ds x->mO w' ds x:=fun _ _ _ _ h=>h
theorem IV.const:∀(w w':bQ9) (ds:List bQa) (y:Bool×bQa),IV w ds y->IV w' ds y:=fun _ _ _ _ h=>h
theorem bAS{w:bQ9}{b:Nat}{u v x:bQa}{T:TypeId}(h:w.heap[b]? =some (.cells #[u,v] T (0,0))):(w.setCell ⟨b,0,none⟩ x).heap[b]? =some (.cells #[x,v] T (0,0)):=by
 simp [World.setCell,Array.getElem?_modify,h]
theorem aZI{w:bQ9}{b:Nat}{u v x y:bQa}{T:TypeId}(h:w.heap[b]? =some (.cells #[u,v] T (0,0))):((w.setCell ⟨b,0,none⟩ x).setCell ⟨b,1,none⟩ y).heap[b]? =some (.cells #[x,y] T (0,0)):=by
 simp [World.setCell,Array.getElem?_modify,h]
theorem bA5{l:List (Bool×List Nat)}{r:Int}{b2:Nat}{wr W0 w5 w7:bQ9}{v:bQa}{ys:List (Bool×bQa)}{xb:Bool}{xs:List Nat}{u5:bQa}{o:Obj}{A6:Option Addr}{n6 c6:Nat}(h:tT l r b2 wr v ys)(hl:l[ys.length]? =some (xb,xs))
  (hE0:bE wr W0) (hE5:bE W0 w5) (hb:b2+1<=wr.heap.size) (hw5:o.isCells=true\/True) (hR5:eL 100 1 mO W0.heap.size w5 u5 xs)
  (hR7:eL 47 2 IV (b2+1) w7 (.slice A6 n6 c6) (ys++[(xb,u5)])) (hg7:(w5.alloc o).grownBy w7 v.ownBlock) (hA7:(Value.slice A6 n6 c6).ownBlock=v.ownBlock\/(Value.slice A6 n6 c6).ownBlock=some (w5.alloc o).heap.size)
  (hB7:w7.heap[b2]? =some (.cells #[v,.int .i64 r] 24 (0,0))):tT l r b2 (w7.setCell ⟨b2,0,none⟩ (.slice A6 n6 c6)) (.slice A6 n6 c6) (ys++[(xb,u5)]):=by
 have hset:=grownBy_setCell' w7 b2 (.slice A6 n6 c6)
 have h6:bE wr (w5.alloc o):=(bE.trans hE0 hE5).palloc o
 have far7:∀ {u:bQa} {T sz base:Nat} {α:Type} {R:bQ9->List bQa->α->Prop} {zs:List α},b2+1<=base->eL T sz R base w7 u zs->(u.ownBlock=none\/u.ownBlock≠some b2):=fun {u} _ _ _ _ _ _ hbs hr=>by
  cases hu:u.ownBlock with
  |none=>exact .inl rfl
  |some g=>exact .inr fun e=>by have:=(hr.lt g hu).1;injection e with e;omega
 have hv0:∀g,v.ownBlock=some g->b2+1<=g/\g<wr.heap.size:=fun g hg=>h.row.lt g hg
 refine⟨eL.farC IV.const hR7 hset (far7 (bIK _) hR7),bAS hB7,fun i y hy=> ?_⟩
 rcases Nat.lt_or_ge i ys.length with hi|hi
 ·rw[List.getElem?_append_left hi]at hy
  obtain⟨x,e1,e2,e3,e4⟩:=h.el i y hy
  have k6:=e3.ext h6
  have k7:=eL.farC mO.const k6 hg7 e4
  refine⟨x,e1,e2,eL.farC mO.const k7 hset (far7 (bIK _) k7), ?_⟩
  rcases hA7 with hA|hA
  ·rw[hA];exact e4
  ·cases hu:y.2.ownBlock with
   |none=>exact .inl rfl
   |some g=>
    refine .inr fun e=> ?_
    rw[hA]at e
    injection e with e
    have:=(e3.lt g hu).2
    have:=h6.size
    omega
 ·rw[List.getElem?_append_right hi]at hy
  obtain⟨rfl,hi0⟩:y=(xb,u5)/\i=ys.length:=by
   cases hk:i-ys.length with
   |zero=>rw[hk]at hy;simp at hy;exact⟨hy.symm,by omega⟩
   |succ k=>rw[hk]at hy;simp at hy
  have hs0:=hE0.size
  have k5:eL 100 1 mO (b2+1) w5 u5 xs:=eL.baseC hR5 (by omega)
  have k6:=k5.ext (bE.alloc w5 o)
  have hne:u5.ownBlock=none\/u5.ownBlock≠v.ownBlock:=by
   cases hu:u5.ownBlock with
   |none=>exact .inl rfl
   |some g=>
    refine .inr fun e=> ?_
    have h1:=(hR5.lt g hu).1
    have h2:=(hv0 g e.symm).2
    omega
  have k7:=eL.farC mO.const k6 hg7 hne
  refine⟨(xb,xs),by rw[hi0];exact hl,rfl,eL.farC mO.const k7 hset (far7 (bIK _) k7), ?_⟩
  rcases hA7 with hA|hA
  ·rw[hA];exact hne
  ·cases hu:u5.ownBlock with
   |none=>exact .inl rfl
   |some g=>
    refine .inr fun e=> ?_
    rw[hA]at e
    injection e with e
    have:=(hR5.lt g hu).2
    simp at e
    omega
theorem aYG(w:bQ9)(p:Addr)(u:bQa):w.grownBy (w.setCell p u) (some p.block):=
 ⟨rfl,rfl,rfl,by simp [World.setCell],fun k _ hne=>Below.heap_setCell _ _ _ _ (by intro e;exact hne (by rw[e]))⟩
theorem tT.far{l:List (Bool×List Nat)}{r:Int}{b2:Nat}{w:bQ9}{v:bQa}{ys:List (Bool×bQa)}(h:tT l r b2 w v ys){p:Addr}(hp:p.block<b2)(x:bQa):tT l r b2 (w.setCell p x) v ys:=by
 have hg:=aYG w p x
 have far:∀ {u:bQa},(∀g,u.ownBlock=some g->b2+1<=g)->(u.ownBlock=none\/u.ownBlock≠some p.block):=fun {u} hb=>by
  cases hu:u.ownBlock with
  |none=>exact .inl rfl
  |some g=>exact .inr fun e=>by have:=hb g hu;injection e with e;omega
 refine⟨eL.farC IV.const h.row hg (far fun g hg=>(h.row.lt g hg).1),(hg.block b2 (Array.getElem?_eq_some_iff.1 h.box).1 (fun e=>by injection e with e;omega)).trans h.box,fun i y hy=> ?_⟩
 obtain⟨x,e1,e2,e3,e4⟩:=h.el i y hy
 exact⟨x,e1,e2,eL.farC mO.const e3 hg (far fun g hg=>(e3.lt g hg).1),e4⟩
theorem aQ8:∀(ys:List (Bool×bQa)) (vs:List bQa),vs.length=ys.length*2->(∀k y,ys[k]? =some y->vs[k*2]? =some (.bool y.1)/\vs[k*2+1]? =some y.2)->vs=ys.flatMap fun y=>[.bool y.1,y.2]
 | [],vs,h,_=>by cases vs with |nil=>rfl|cons _ _=>simp at h
 | y::ys,vs,h,hk=>by
  match vs,h,hk with
  | [],h,_=>simp at h
  | [_],h,_=>simp at h;omega
  | a::b::vs,h,hk=>
   obtain⟨h1,h2⟩:=hk 0 y rfl
   simp at h1 h2
   subst h1 h2
   rw[bLp]
   show _=_::_::_
   rw[←aQ8 ys vs (by simp at h;omega) fun k z hz=> ?_]
   ·rfl
   ·obtain⟨g1,g2⟩:=hk (k+1) z hz
    rw[show(k+1)*2=k*2+1+1 by omega,bKy,bKy]at g1
    rw[show(k+1)*2+1=k*2+1+1+1 by omega,bKy,bKy]at g2
    exact⟨g1,g2⟩
theorem aOD{w:bQ9}:∀(ys:List (Bool×bQa)) (l:List (Bool×List Nat)),ys.length=l.length->(∀(i:Nat) (y:Bool×bQa),ys[i]? =some y->∃x:Bool×List Nat,l[i]? =some x/\y.1=x.1/\WT w y.2 (tW x.2))->cW w (ys.flatMap fun y=>[.bool y.1,y.2]) (eV.row l)
 | [],[],_,_=> .nil
 | [],_::_,h,_=>by simp at h
 |_::_,[],h,_=>by simp at h
 |y::ys,x::l,h,hk=>by
  obtain⟨x',e1,e2,e3⟩:=hk 0 y rfl
  simp at e1
  subst e1
  rw[bLp,EC.row_cons]
  refine .cons ?_ (.cons e3 (aOD ys l (by simpa using h) fun i z hz=>hk (i+1) z hz))
  rw[e2];exact .b _
theorem aZL{l:List (Bool×List Nat)}{r:Int}{b2:Nat}{w:bQ9}{v:bQa}{ys:List (Bool×bQa)}(h:tT l r b2 w v ys)(hl:ys.length=l.length):WT w v (eB l):=by
 obtain⟨vs,ho,hel⟩:=h.row
 cases hlc:l with
 |nil=>
  rw[hlc]at hl
  obtain rfl:=List.eq_nil_of_length_eq_zero hl
  rcases ho.2 with ⟨rfl, -⟩|⟨g,cap,cQ,rfl, -⟩
  ·exact .emn
  ·exact .ems _ _
 | cons x0 l0=>
  rw[←hlc]
  have e:eB l= .im 2 (eV.row l):=by rw[hlc];rfl
  rw[e]
  rcases ho.2 with ⟨-,hn⟩|⟨g,cap,cQ,rfl,hb,hg,hcap,hcm,hcs,htk⟩
  ·rw[hl,hlc]at hn;simp at hn
  ·refine .im hg hcap (by rw[bJl];exact bKx hcs.symm) ?_
   rw[bJd,htk,aQ8 ys vs ho.1 fun k y hk=>by
    obtain⟨ds,d1,d2,d3⟩:=hel k y hk
    obtain⟨d4, -⟩:=d3.out
    have h0:=d2 0 (.bool y.1) (by rw[d4];rfl)
    have h1:=d2 1 y.2 (by rw[d4];rfl)
    exact⟨h0,h1⟩]
   refine aOD ys l hl fun i y hy=> ?_
   obtain⟨x,e1,e2,e3, -⟩:=h.el i y hy
   exact⟨x,e1,e2,bGw e3⟩
set_option maxRecDepth 100000 in
set_option maxHeartbeats 4000000 in
theorem bBi{l:List (Bool×List Nat)}{r:Int}{A:Option Addr}{n c:Nat}{w:bQ9}(h7:l.length<=1000)(hx:∀x∈l,bC x.2/\x.2.length<=1000)(hv:WT w (.slice A n c) (eB l)):
  Calls PG 10 #[.agg #[.slice A n c,.int .i64 r]] w fun e w'=>∃v,e= .returned v/\Below w.heap.size w w'/\WT w' v (tF l r):=by
 obtain⟨A',c',e,hat⟩:=ints_at hv
 obtain⟨rfl,rfl,rfl⟩:A=A'/\n=l.length/\c=c':=by injection e with h1 h2 h3;exact⟨h1,h2,h3⟩
 have HAT:=Lib.hid hat
 have HX:=Lib.hid hx
 clear hat hv e hx
 obtain⟨i0,hi,hz0,hz1,hz2⟩:=info_parts aZQ
 obtain⟨j0,ji,jz0,jz1,jz2⟩:=info_parts aJf
 go_enter func10,ntmps10
 go_wp2_with fail
 obtain⟨w3,hw3⟩:∃w3,(((w.alloc (.cells #[.slice A l.length c,.int .i64 r] 24)).alloc (.cells #[.slice none 0 0,.int .i64 0] 24)).alloc (.cells #[.slice none 0 0,.int .i64 r] 24))=w3:=⟨_,rfl⟩
 have hs3:w3.heap.size=w.heap.size+3:=by rw[←hw3];simp
 have hE3:bE w w3:=by rw[←hw3];exact(by repeat (first|exact bE.refl _|assumption|refine bE.pdrewN ?_ _|refine bE.pdrew ?_|refine bE.palloc ?_ _|refine bE.pset ?_ (by simp<;>omega) _|refine bE.trans ?_ (by assumption)))
 obtain⟨b2,hb2⟩:∃b2,b2=w.heap.size+1+1:=⟨_,rfl⟩
 have hbx3:w3.heap[b2]? =some (.cells #[.slice none 0 0,.int .i64 r] 24 (0,0)):=by
  rw[←hw3,hb2]
  have h:=Below.heap_new ((w.alloc (.cells #[.slice A l.length c,.int .i64 r] 24)).alloc (.cells #[.slice none 0 0,.int .i64 0] 24)) (.cells #[.slice none 0 0,.int .i64 r] 24)
  simpa using h
 have hbx1:w3.heap[w.heap.size+1]? =some (.cells #[.slice none 0 0,.int .i64 0] 24 (0,0)):=by
  rw[←hw3]
  have h:=Below.heap_new (w.alloc (.cells #[.slice A l.length c,.int .i64 r] 24)) (.cells #[.slice none 0 0,.int .i64 0] 24)
  rw[(bE.alloc _ _).block _ (by simp)]
  simpa using h
 have HB1:=Lib.hid hbx1
 have HS0:Hid (tT l r b2 w3 (.slice none 0 0) []):=⟨eL.nil,hbx3,fun i y h=>by simp at h⟩
 rw[hw3,←hb2]
 have hsb:b2+1=w3.heap.size:=by omega
 have hwb:w.heap.size+1<b2:=by omega
 have HE3:=Lib.hid hE3
 clear hw3 hb2 hbx3 hbx1 hE3
 go_loopg [12] l.length (fun gk x wr=>∃(j:Nat) (v:bQa) (ys:List (Bool×bQa)),x= .int .i64 (j:Int)/\j+gk=l.length/\Hid (ys.length=j)/\Hid (tT l r b2 wr v ys)/\Hid (Below b2 w3 wr))
 case atStart=>exact⟨0,_,[],rfl,by omega,rfl,HS0,Below.refl _ _⟩
 case round=>
  obtain⟨j,v,ys,rfl,hj,HY,HS,HB⟩:=hrel
  have hBw:Below w.heap.size w wr:=HE3.out.trans' HB.out (by omega)
  have hsz:b2+1<=wr.heap.size:=by have:=HB.out.size;omega
  by_cases hlt:j<l.length
  ·obtain⟨b,off,Aj,cj,rfl,hb,k0,k1,k2⟩:=HAT.out j hlt
   have hmem:l.getD j (false,[])∈l:=tN hlt
   have HXJ:=Lib.hid (HX.out _ hmem)
   have HLJ:Hid (l[j]? =some (l.getD j (false,[]))):=by show _=_;rw[List.getElem?_eq_getElem hlt];simp [hlt]
   have k0:=(hBw.cell (p:=⟨b,off+j*2,none⟩) hb).trans k0
   have k1:=(hBw.cell (p:=⟨b,off+j*2+1,none⟩) hb).trans k1
   have k2:=WT.ext hBw.block k2
   have hl2:=HXJ.out.2
   generalize l.getD j (false,[])=x at*
   obtain⟨xb,xs⟩:=x
   dsimp only at k0 k1 k2 hl2
   have K2:=Lib.hid k2
   clear k2 hmem
   obtain⟨nj,hnj⟩:∃nj,nj=xs.length:=⟨_,rfl⟩
   rw[←hnj]at k1 hl2 K2
   have HNJ:=Lib.hid hnj
   clear hnj
   go_upto_region 5 with fail
   obtain⟨W0,hW0⟩:∃W0,wr.alloc (.cells #[.bool xb,.slice Aj nj cj] 47)=W0:=⟨_,rfl⟩
   have hE0:bE wr W0:=by rw[←hW0];exact bE.alloc _ _
   obtain⟨y0,y1,y2,y3⟩:=yH (show W0.heap[wr.heap.size]? =some (.cells #[.bool xb,.slice Aj nj cj] 47 (0,0)) by rw[←hW0];exact Below.heap_new _ _)
   rw[hW0]
   have hBX0:=(hE0.block b2 (by omega)).trans HS.out.box
   have HBX0:=Lib.hid hBX0
   obtain⟨x0,x1,x2,x3⟩:=yH hBX0
   have HO0:=Lib.hid (HS.out.row.ext hE0)
   have HK0:Hid (∀W,bE W0 W->WT W (.slice Aj nj cj) (tW xs)):=fun W h=>WT.ext h.block (WT.ext hE0.block K2.out)
   have HE0:=Lib.hid hE0
   have hwz:wr.heap.size<W0.heap.size:=by rw[←hW0];simp
   have hb2z:b2<W0.heap.size:=by omega
   clear hW0 hE0 k0 k1 K2 hBX0
   obtain⟨Av,cv,rfl⟩:=HO0.out.form
   have HLR:Hid (∀r,(Value.slice Av ys.length cv).ownBlock=some r->b2+1<=r/\r<W0.heap.size):=fun r hr=>HO0.out.lt r hr
   have hyl:ys.length<1000:=by have:=HY.out;omega
   go_region_law (first
    | (refine aKX _ (by rfl) _ _ 45 (by rfl) 100 j0 (.int .u32 0) 1 4 underlying45 ji jz0 jz1 jz2 (by rfl) (by decide) _ (by rfl) (by first|exact aNy (base:=W0.heap.size) (bIK _)|exact(aNy (base:=W0.heap.size) (bIK _)).ext (bE.drew _)) _ (by rfl) (aXf HXJ.out.1 (by have:=HXJ.out.2;have:=HNJ.out;omega) (HK0.out _ (by repeat (first|exact bE.refl _|assumption|refine bE.pdrewN ?_ _|refine bE.pdrew ?_|refine bE.palloc ?_ _|refine bE.pset ?_ (by simp<;>omega) _|refine bE.trans ?_ (by assumption)))) _) mO.one (by have:=HNJ.out;unfold maxLen;simp;omega) (by have:=HNJ.out;simp;omega) (by simp) ?_;intro A5 c5 w5 hrow5 hgr5 hat5;rw[List.nil_append]at hrow5 ⊢;have HR5:=Lib.hid hrow5;have HE5:=Lib.hid (show bE W0 w5 from aI6 hgr5 (by repeat (first|exact bE.refl _|assumption|refine bE.pdrewN ?_ _|refine bE.pdrew ?_|refine bE.palloc ?_ _|refine bE.pset ?_ (by simp<;>omega) _|refine bE.trans ?_ (by assumption))) (fun r hr=>by cases hr;exact bIK _));have v0:=(HE5.out.cell (p:=⟨wr.heap.size,0,none⟩) hwz).trans y0;have v1:=(HE5.out.cell (p:=⟨b2,0,none⟩) hb2z).trans x0;have v2:b2<w5.heap.size:=bIP hb2z HE5.out.size;have v3:wr.heap.size<w5.heap.size:=bIP hwz HE5.out.size;clear hrow5 hgr5 hat5)
    | (refine aKX _ (by rfl) _ _ 22 (by rfl) 47 i0 (.agg #[.bool false,.slice none 0 0]) 2 32 underlying22 hi hz0 hz1 hz2 (by rfl) (by decide) _ (by rfl) (HO0.out.ext (by have hE5:=HE5.out;exact(by repeat (first|exact bE.refl _|assumption|refine bE.pdrewN ?_ _|refine bE.pdrew ?_|refine bE.palloc ?_ _|refine bE.pset ?_ (by simp<;>omega) _|refine bE.trans ?_ (by assumption))))) _ (by rfl) (by first|exact aQD (y:=(xb,.slice A5 xs.length c5)) rfl|exact aXb (y:=(xb,.slice A5 xs.length c5)) rfl) IV.one (by unfold maxLen;simp;omega) (by simp;omega) (by have:=HE5.out.size;simp;omega) ?_;intro A6 c6 w7 hrow7 hgr7 hat7;have HB7:Hid (w7.heap[b2]? =some (.cells #[.slice Av ys.length cv,.int .i64 r] 24 (0,0))):=(hgr7.block b2 (by have:=HE5.out.size;simp;omega) (fun e=>by have:=(HLR.out b2 e.symm).1;omega)).trans ((bE.block' (show bE W0 _ from(by have hE5:=HE5.out;exact(by repeat (first|exact bE.refl _|assumption|refine bE.pdrewN ?_ _|refine bE.pdrew ?_|refine bE.palloc ?_ _|refine bE.pset ?_ (by simp<;>omega) _|refine bE.trans ?_ (by assumption))))) (by omega)).trans HBX0.out);obtain⟨z0,z1,z2,z3⟩:=yH HB7.out;have HS9:Hid (tT l r b2 (w7.setCell ⟨b2,0,none⟩ (.slice A6 (ys.length+1) c6)) (.slice A6 (ys.length+1) c6) (ys++[(xb,.slice A5 xs.length c5)])):=(by
      have hn6:ys.length+1=(ys++[(xb,Value.slice A5 xs.length c5)]).length:=by simp
      show tT _ _ _ _ _ _
      rw[hn6]
      exact bA5 HS.out (by rw[HY.out];exact HLJ.out) HE0.out HE5.out hsz (.inr trivial) HR5.out hrow7 hgr7 hat7 HB7.out);have HB9:Hid (Below b2 w3 (w7.setCell ⟨b2,0,none⟩ (.slice A6 (ys.length+1) c6))):=(Below.grown (HB.out.trans ((bE.trans HE0.out (bE.trans HE5.out (bE.alloc w5 _))).mono (by omega))) hgr7 (by have:=HE5.out.size;simp;omega) (fun k hk=>by have:=(HLR.out k hk).1;omega)).setCell (p:=⟨b2,0,none⟩) (bIK _) _;clear hrow7 hgr7 hat7))
   all_goals
    go_wp2_with fail
    go_roundg (l.length-(j+1))
    case measure=>omega
    case rel=>exact⟨j+1,_,ys++[(xb,.slice A5 xs.length c5)],by simp,by omega,(by show _=_;rw[List.length_append,HY.out];rfl),HS9,HB9⟩
  ·obtain rfl:j=l.length:=by omega
   have hbw1:wr.heap[w.heap.size+1]? =some (.cells #[.slice none 0 0,.int .i64 0] 24 (0,0)):=(HB.out.block _ hwb).trans HB1.out
   obtain⟨y0,y1,y2,y3⟩:=yH hbw1
   obtain⟨x0,x1, -, -⟩:=yH HS.out.box
   obtain⟨Av,cv,rfl⟩:=HS.out.row.form
   have HSET:=Lib.hid (aZI (x:= .slice Av ys.length cv) (y:= .int .i64 r) hbw1)
   have HTT:=Lib.hid (aZL ((HS.out.far (p:=⟨w.heap.size+1,0,none⟩) hwb (.slice Av ys.length cv)).far (p:=⟨w.heap.size+1,1,none⟩) hwb (.int .i64 r)) HY.out)
   go_wp2_with fail
   refine bodyPost_ret (v:= .agg #[.slice Av ys.length cv,.int .i64 r]) (results_cell_row rfl _ _ (w.heap.size+1) 24 _ _ _ rfl HSET.out underlying24 rfl (by kernel_rfl)) rfl ⟨_,rfl,(hBw.setCell (p:=⟨w.heap.size+1,0,none⟩) (Nat.le_succ _) _).setCell (p:=⟨w.heap.size+1,1,none⟩) (Nat.le_succ _) _, ?_⟩
   exact .ag (.cons HTT.out (.cons (.int _ _) .nil))
end Go.Proofs.YtmjoaipkaddkbaaGreatDoor.Ev