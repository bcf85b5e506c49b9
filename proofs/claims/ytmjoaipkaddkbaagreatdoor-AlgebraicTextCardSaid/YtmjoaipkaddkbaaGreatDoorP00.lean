/- Part of a proof. -/
import Derived.Calls
import Derived.Orders
import Derived.LoopN
import Derived.Below
import Derived.KernelRfl
import Derived.Deep.AppendSrc
import Derived.Laws.CopyRow
import Derived.Lib.AppendZeros
noncomputable section
open Array renaming ext'→bKB,getD_eq_getD_getElem?→bL7,length_toList→bKM,range→bM4,replicate→bLE,size_append→bM6
open Bool renaming and_eq_true→bIN,eq_iff_iff→bJr,false_eq_true→bIY,or_eq_true→bKk,or_false→bM5
open Int renaming natCast_mul→bKb,negSucc_eq→bJf,toNat_natCast→bKe
open List renaming flatten_cons→bKR,foldl_cons→bKT,getD_eq_getElem?_getD→bJb,getElem?_drop→bKd,getElem?_eq_some_iff→bJs,getElem?_map→bKv,getElem?_take→bK1,getElem?_toArray→bLl,length_append→bJ3,length_nil→bJm,mapM_cons→bM3,map_cons→bJu,mem_append_right→bJL,mem_cons→bJ4,mem_cons_of_mem→bJY,mem_filterMap→bLn,mem_singleton→bJZ,range→bJh,replicate→bIQ,replicate_succ→bK9,take→bKS,take_append→bM2,take_length→bJy,take_of_length_le→bJ2,take_take→bJC,toArray→bLk
open Nat renaming add_mul→bJp,ble_eq_true_of_le→bK0,eq_of_beq_eq_true→bJ0,land→bKt,le_of_ble_eq_true→bIU,le_refl→bIK,le_trans→bIO,lt_irrefl→bJq,lt_of_lt_of_le→bIP,lt_or_ge→bIT,min_eq_left→bJc,min_eq_right→bM0,mul_le_mul→bKl,mul_le_mul_right→bJ8,ne_of_beq_eq_false→bKa,ne_of_lt→bLZ,pow_le_pow_right→bJ9,pred→bLj,testBit_or→bLB,zero_add→bJl,zero_le→bIR
open Option renaming getD_some→bKC,isSome_iff_exists→bLC,map_some→bJk
open Go renaming Addr→bQh,IntKind→bQc,Oper→bQg,Operand→bQd,Program→bQe,TypeId→bQb,Value→bQa,World→bQ9
open Go
namespace Go.Proofs.YtmjoaipkaddkbaaGreatDoor.Ev
section
inductive Id where
 |h
 |o (p:Id)
 |i (p:Id)
 deriving DecidableEq
def Id.succ:Id->Id:=Id.rec (.o .h) (fun p _=> .i p) (fun _ ih=> .o ih)
def Id.nat:Id->Nat:=Id.rec 1 (fun _ n=>Nat.mul 2 n) (fun _ n=>Nat.succ (Nat.mul 2 n))
@[simp] theorem Id.nat_h:Id.nat .h=1:=rfl
@[simp] theorem Id.nat_o (p:Id):Id.nat (.o p)=2*p.nat:=rfl
@[simp] theorem Id.nat_i (p:Id):Id.nat (.i p)=2*p.nat+1:=rfl
theorem Id.pos(p:Id):0<p.nat:=by induction p<;>simp_all<;>omega
theorem Id.nat_inj:∀ {p q:Id},p.nat=q.nat->p=q:=by
 intro p
 induction p with
 |h=>intro q hq;cases q with
  |h=>rfl
  |o q=>simp at hq;omega
  |i q=>simp at hq;have:=q.pos;omega
 |o p ih=>intro q hq;cases q with
  |h=>simp at hq;omega
  |o q=>simp at hq;rw[show p=q from ih (by omega)]
  |i q=>simp at hq;omega
 |i p ih=>intro q hq;cases q with
  |h=>simp at hq;have:=p.pos;omega
  |o q=>simp at hq;omega
  |i q=>simp at hq;rw[show p=q from ih (by omega)]
theorem Id.nat_succ(p:Id):p.succ.nat=p.nat+1:=by
 induction p with
 |h=>rfl
 |o p ih=>rfl
 |i p ih=>
  show 2*(Id.succ p).nat=_
  rw[ih];simp;omega
def G0:Nat:=64
def hH:Nat->Id:=Nat.rec .h (fun _ ih=>Id.succ ih)
theorem aBC(g:Nat):(hH g).nat=g+1:=by
 induction g with
 |zero=>rfl
 |succ g ih=>show(Id.succ (hH g)).nat=_;rw[Id.nat_succ,ih]
inductive AV where
 |b (x:Bool)
 |i (k:bQc) (n:Nat)
 |m (k:bQc) (n:Nat)
 |v (x:bQa)
 |u
 |se
 |ptr (id:Id) (off:Nat)
 |sl (id:Id) (off len:Nat) (cap:Option Nat) (sz:Nat)
 |fn (f:Fn) (first cap:List AV)
 |agg (cs:List AV)
 |tup (vs:List AV)
structure cH where
 cells:List AV
 exact:Bool
inductive Tr where
 |leaf
 |node (l:Tr) (x:Option cH) (r:Tr)
def Tr.find:Id->Tr->Option cH
 | .h,.leaf=>none
 | .h,.node _ x _=>x
 | .o _,.leaf=>none
 | .o p,.node l _ _=>Tr.find p l
 | .i _,.leaf=>none
 | .i p,.node _ _ r=>Tr.find p r
def Tr.put(b:Option cH):Id->Tr->Tr:=Id.rec (Tr.rec (.node .leaf b .leaf) (fun l _ r _ _=> .node l b r)) (fun _ ih=>Tr.rec (.node (ih .leaf) none .leaf) (fun l x r _ _=> .node (ih l) x r)) (fun _ ih=>Tr.rec (.node .leaf none (ih .leaf)) (fun l x r _ _=> .node l x (ih r)))
theorem Tr.find_leaf(p:Id):Tr.find p .leaf=none:=by cases p<;>rfl
theorem Tr.put_same(b:Option cH):∀(p:Id) (t:Tr),Tr.find p (Tr.put b p t)=b:=by
 intro p
 induction p with
 |h=>intro t;cases t<;>rfl
 |o p ih=>intro t;cases t<;>exact ih _
 |i p ih=>intro t;cases t<;>exact ih _
theorem Tr.put_other(b:Option cH):∀(p q:Id) (t:Tr),p≠q->Tr.find q (Tr.put b p t)=Tr.find q t:=by
 intro p
 induction p with
 |h=>intro q t d;cases t<;>cases q<;>first|exact absurd rfl d|rfl|exact Tr.find_leaf _
 | o p ih=>
  intro q t d
  cases q with
  |h=>cases t<;>rfl
  |i q=>cases t<;>first|rfl|exact Tr.find_leaf _
  |o q=>
   have c:p≠q:=fun e=>d (by rw[e])
   cases t with
   |leaf=>exact(ih q .leaf c).trans (Tr.find_leaf q)
   |node l x r=>exact ih q l c
 | i p ih=>
  intro q t d
  cases q with
  |h=>cases t<;>rfl
  |o q=>cases t<;>first|rfl|exact Tr.find_leaf _
  |i q=>
   have c:p≠q:=fun e=>d (by rw[e])
   cases t with
   |leaf=>exact(ih q .leaf c).trans (Tr.find_leaf q)
   |node l x r=>exact ih q r c
structure St where
 heap:Tr
 nxt:Id
 ro:Nat
 hid:List (Nat×Nat)
def St.vis(st:St)(id:Id):Prop:=∀p∈st.hid,¬(p.1<=id.nat/\id.nat<p.2)
def St.look(st:St)(id:Id)(b:cH):Prop:=st.vis id/\Tr.find id st.heap=some b
abbrev OR:=Option (AV×St)
abbrev KA:=AV->OR
abbrev KS:=AV->St->OR
def Tr.get:Id->Tr->(cH->OR)->OR:=Id.rec (Tr.rec (fun _=>none) (fun _ x _ _ _ k=>Option.rec none k x)) (fun _ ih=>Tr.rec (fun _=>none) (fun l _ _ _ _=>ih l)) (fun _ ih=>Tr.rec (fun _=>none) (fun _ _ r _ _=>ih r))
theorem Tr.get_spec{k:cH->OR}{r:AV×St}:∀(id:Id) (t:Tr),Tr.get id t k=some r->∃b,Tr.find id t=some b/\k b=some r:=by
 intro id
 induction id with
 | h=>
  intro t h
  cases t with
  |leaf=>cases h
  |node l x r=>
   cases x with
   |none=>cases h
   |some b=>exact⟨b,rfl,h⟩
 |o p ih=>intro t h;cases t with
  |leaf=>cases h
  |node l x r=>exact ih l h
 |i p ih=>intro t h;cases t with
  |leaf=>cases h
  |node l x r=>exact ih r h
def yF(z k:OR)(n:Nat)(l:List (Nat×Nat)):OR:=List.rec k (fun p _ ih=>Bool.rec ih (Bool.rec z ih (Nat.ble p.2 n)) (Nat.ble p.1 n)) l
theorem aY3{k:OR}{n:Nat}{r:AV×St}:∀l:List (Nat×Nat),yF none k n l=some r->(∀p∈l,¬(p.1<=n/\n<p.2))/\k=some r:=by
 intro l
 induction l with
 |nil=>intro h;exact⟨by simp,h⟩
 | cons p l ih=>
  intro h
  have h':Bool.rec (motive:=fun _=>OR) (yF none k n l) (Bool.rec (motive:=fun _=>OR) none (yF none k n l) (Nat.ble p.2 n)) (Nat.ble p.1 n)=some r:=h
  cases h1:Nat.ble p.1 n with
  |false=>
   rw[h1]at h'
   obtain⟨g1,g2⟩:=ih h'
   refine⟨fun q hq=> ?_,g2⟩
   rcases bJ4.1 hq with rfl|hq
   ·intro hh;rw[bK0 hh.1]at h1;cases h1
   ·exact g1 q hq
  | true=>
   rw[h1]at h'
   cases h2:Nat.ble p.2 n with
   |false=>rw[h2]at h';cases h'
   |true=>
    rw[h2]at h'
    obtain⟨g1,g2⟩:=ih h'
    refine⟨fun q hq=> ?_,g2⟩
    rcases bJ4.1 hq with rfl|hq
    ·intro hh;have:=bIU h2;omega
    ·exact g1 q hq
def mkA:AV:= .v (.agg #[])
def aDF:bQa->Bool
 | .agg _=>true
 |_=>false
def bH5:AV->Bool:=AV.rec (motive_1:=fun _=>Bool) (motive_2:=fun _=>Unit) (fun _=>false) (fun _ _=>false) (fun _ _=>false) (fun x=>aDF x) false false (fun _ _=>false) (fun _ _ _ _ _=>false) (fun _ _ _ _ _=>false) (fun _ _=>false) (fun _ _=>false) () (fun _ _ _ _=>())
def mP(l:List AV):Bool:=List.rec false (fun a _ _=>bH5 a) l
def nmK(k:cH->OR)(b:cH):OR:=Bool.rec (k b) none (mP b.cells)
theorem bAJ{k:cH->OR}{b:cH}{r:AV×St}(h:nmK k b=some r):mP b.cells=false/\k b=some r:=by
 unfold nmK at h
 cases j:mP b.cells with
 |false=>rw[j]at h;exact⟨rfl,h⟩
 |true=>rw[j]at h;cases h
structure St.lookc(st:St)(id:Id)(b:cH):Prop where
 lk:st.look id b
 nm:mP b.cells=false
def aDX(st:St)(id:Id)(k:cH->OR):OR:=List.rec (Tr.get id st.heap k) (fun p l _=>yF none (Tr.get id st.heap k) id.nat (p::l)) st.hid
theorem aXV{st:St}{id:Id}{k:cH->OR}{r:AV×St}(h:aDX st id k=some r):∃b,st.look id b/\k b=some r:=by
 have h':yF none (Tr.get id st.heap k) id.nat st.hid=some r:=by
  unfold aDX at h
  cases hh:st.hid with
  |nil=>rw[hh]at h;exact h
  |cons p l=>rw[hh]at h;exact h
 obtain⟨h1,h2⟩:=aY3 _ h'
 obtain⟨b,j,s⟩:=Tr.get_spec _ _ h2
 exact⟨b,⟨h1,j⟩,s⟩
def eQ(st:St)(id:Id)(k:cH->OR):OR:=aDX st id (nmK k)
theorem rI{st:St}{id:Id}{k:cH->OR}{r:AV×St}(h:eQ st id k=some r):∃b,st.lookc id b/\k b=some r:=by
 obtain⟨b,h1,h2⟩:=aXV h
 obtain⟨w,y⟩:=bAJ h2
 exact⟨b,⟨h1,w⟩,y⟩
def wrK(st:St)(id:Id)(k:OR):OR:=Bool.rec (Bool.rec none k (Nat.ble st.ro id.nat)) k (Nat.beq st.ro 0)
theorem aPk{st:St}{id:Id}{k:OR}{r:AV×St}(h:wrK st id k=some r):st.ro<=id.nat/\k=some r:=by
 unfold wrK at h
 cases h0:Nat.beq st.ro 0 with
 |true=>rw[h0]at h;exact⟨by rw[bJ0 h0];omega,h⟩
 |false=>
  rw[h0]at h
  cases h1:Nat.ble st.ro id.nat with
  |true=>rw[h1]at h;exact⟨bIU h1,h⟩
  |false=>rw[h1]at h;cases h
end
section
structure aP where
 f:Id->Option (Nat×Nat)
 /-- Below this number several numbers may stand for one place. -/
 flo:Nat
instance:CoeFun aP fun _=>Id->Option (Nat×Nat):=⟨aP.f⟩
theorem aP.same{a b:aP}(h:∀id,a id=b id)(hf:a.flo=b.flo):a=b:=by
 obtain⟨f,m⟩:=a
 obtain⟨g,n⟩:=b
 have h1:f=g:=funext h
 have h2:m=n:=hf
 rw[h1,h2]
def aP.le(Γ Γ':aP):Prop:=∀id p,Γ id=some p->Γ' id=some p
theorem aP.le_refl(Γ:aP):aP.le Γ Γ:=fun _ _ h=>h
theorem aP.le_trans{a b c:aP}(h:aP.le a b)(k:aP.le b c):aP.le a c:=fun id p e=>k id p (h id p e)
def aGf(x:bQa):Prop:=(∀cs,x≠ .agg cs)/\(∀vs,x≠ .tuple vs)
mutual
inductive CR(Γ:aP):AV->bQa->Prop
 |b (x:Bool):CR Γ (.b x) (.bool x)
 |i (k:bQc) (n:Nat):CR Γ (.i k n) (.int k (n:Int))
 |m (k:bQc) (n:Nat):CR Γ (.m k n) (.int k (Int.negSucc n))
 |v {x:bQa} (h:aGf x):CR Γ (.v x) x
 |u:CR Γ .u undef
 |se (a:bQh) (c:Nat):CR Γ .se (.slice (some a) 0 c)
 |ptr {id:Id} {off p s:Nat} (h:Γ id=some (p,s)):CR Γ (.ptr id off) (.pointer (some ⟨p,off,none⟩))
 |sl {id:Id} {off len:Nat} {cap:Option Nat} {sz p s c:Nat} (h:Γ id=some (p,s)) (j:len<=c) (hc:∀k,cap=some k->c=k) (hs:off+c*sz<=s):CR Γ (.sl id off len cap sz) (.slice (some ⟨p,off,none⟩) len c)
 |fn {f:FuncId} {a b:List AV} {va vb:List bQa} (I:bU Γ a va) (O:bU Γ b vb):CR Γ (.fn (.func f) a b) (.func (.func f) va.toArray vb.toArray)
 |mp {id:Id} {p s:Nat} (h:Γ id=some (p,s)):CR Γ (.fn (.yield 0) [.ptr id 0] []) (.map (some p))
 |anyI (z:Int):CR Γ (.fn (.yield 1) [] []) (.int .i64 z)
 |anyE (t:bQb) (v:bQa):CR Γ (.fn (.yield 2) [] []) (.iface t v)
 |agg {cs:List AV} {vs:List bQa} (h:bU Γ cs vs):CR Γ (.agg cs) (.agg vs.toArray)
 |tup {cs:List AV} {vs:List bQa} (h:bU Γ cs vs):CR Γ (.tup cs) (.tuple vs.toArray)
inductive bU(Γ:aP):List AV->List bQa->Prop
 |nil:bU Γ [] []
 |cons {a:AV} {v:bQa} {l:List AV} {m:List bQa} (h:CR Γ a v) (t:bU Γ l m):bU Γ (a::l) (v::m)
end
mutual
theorem CR.mono{Γ Γ':aP}(A:aP.le Γ Γ'){a:AV}{v:bQa}(h:CR Γ a v):CR Γ' a v:=by
 cases h with
 |b=>exact .b _
 |i=>exact .i _ _
 |m=>exact .m _ _
 |v h=>exact .v h
 |u=>exact .u
 |se a c=>exact .se a c
 |ptr h=>exact .ptr (A _ _ h)
 |sl h j hc hs=>exact .sl (A _ _ h) j hc hs
 |fn I O=>exact .fn (bU.mono A I) (bU.mono A O)
 |mp h=>exact .mp (A _ _ h)
 |anyI z=>exact .anyI z
 |anyE t v=>exact .anyE t v
 |agg h=>exact .agg (bU.mono A h)
 |tup h=>exact .tup (bU.mono A h)
theorem bU.mono{Γ Γ':aP}(A:aP.le Γ Γ'){a:List AV}{v:List bQa}(h:bU Γ a v):bU Γ' a v:=by
 cases h with
 |nil=>exact .nil
 |cons h t=>exact .cons (CR.mono A h) (bU.mono A t)
end
theorem bU.length{Γ:aP}{l:List AV}{m:List bQa}(h:bU Γ l m):l.length=m.length:=by
 induction l generalizing m with
 |nil=>cases h;rfl
 |cons a l ih=>cases h with |cons h t=>simp [ih t]
theorem bU.get{Γ:aP}{l:List AV}{m:List bQa}(h:bU Γ l m){n:Nat}{a:AV}(I:l[n]? =some a):∃v,m[n]? =some v/\CR Γ a v:=by
 induction l generalizing m n with
 |nil=>simp at I
 | cons b l ih=>cases h with
  |cons h t=>cases n with
   |zero=>simp at I;subst I;exact⟨_,by simp,h⟩
   |succ n=>simp at I;obtain⟨v,R,hc⟩:=ih t I;exact⟨v,by simpa using R,hc⟩
theorem bU.app{Γ:aP}{l l':List AV}{m m':List bQa}(h:bU Γ l m)(h':bU Γ l' m'):bU Γ (l++l') (m++m'):=by
 induction l generalizing m with
 |nil=>cases h;exact h'
 |cons a l ih=>cases h with |cons h t=>exact .cons h (ih t)
theorem bU.take{Γ:aP}{l:List AV}{m:List bQa}(h:bU Γ l m)(n:Nat):bU Γ (l.take n) (m.take n):=by
 induction l generalizing m n with
 |nil=>cases h;cases n<;>exact .nil
 |cons a l ih=>cases h with |cons h t=>cases n with
  |zero=>exact .nil
  |succ n=>exact .cons h (ih t n)
theorem bU.drop{Γ:aP}{l:List AV}{m:List bQa}(h:bU Γ l m)(n:Nat):bU Γ (l.drop n) (m.drop n):=by
 induction l generalizing m n with
 |nil=>cases h;cases n<;>exact .nil
 |cons a l ih=>cases h with |cons h t=>cases n with
  |zero=>exact .cons h t
  |succ n=>exact ih t n
theorem bU.of_get{Γ:aP}{l:List AV}{m:List bQa}(B:l.length=m.length)(h:∀(n:Nat) (a:AV) (v:bQa),l[n]? =some a->m[n]? =some v->CR Γ a v):bU Γ l m:=by
 induction l generalizing m with
 |nil=>cases m with |nil=>exact .nil|cons _ _=>simp at B
 |cons a l ih=>cases m with
  |nil=>simp at B
  |cons v m=>exact .cons (h 0 a v rfl rfl) (ih (by simpa using B) fun n a v I R=>h (n+1) a v (by simpa using I) (by simpa using R))
def aT2:List MapEntry->List bQa
 | []=>[]
 |e::l=>e.key::e.val::aT2 l
def MR(Γ:aP)(b:cH)(ob:Option Obj):Prop:=∃(es:Array MapEntry) (clock:Nat) (l:List AV),ob=some (.map es clock)/\b.cells=mkA::l/\bU Γ l (aT2 es.toList)
theorem MR.mono{Γ Γ':aP}(A:aP.le Γ Γ'){b:cH}{ob:Option Obj}(h:MR Γ b ob):MR Γ' b ob:=let ⟨es,c,l,h1,h2,D⟩:=h;⟨es,c,l,h1,h2,D.mono A⟩
structure BR(Γ:aP)(b:cH)(s:Nat)(ob:Option Obj):Prop where
 out:(∃cs el,ob=some (.cells cs el (0,0))/\cs.size=s/\b.cells.length<=s/\bU Γ b.cells (cs.toList.take b.cells.length)/\(b.exact=true->s=b.cells.length))\/MR Γ b ob
theorem BR.of{Γ:aP}{b:cH}{s:Nat}{ob:Option Obj}{cs:Array bQa}{el:bQb}(h1:ob=some (.cells cs el (0,0)))(h2:cs.size=s)(D:b.cells.length<=s)(S:bU Γ b.cells (cs.toList.take b.cells.length))(T:b.exact=true->s=b.cells.length):BR Γ b s ob:=⟨.inl ⟨cs,el,h1,h2,D,S,T⟩⟩
theorem BR.mono{Γ Γ':aP}(A:aP.le Γ Γ'){b:cH}{s:Nat}{ob:Option Obj}(h:BR Γ b s ob):BR Γ' b s ob:=by
 rcases h with ⟨⟨cs,el,h1,h2,D,S,T⟩|h⟩
 ·exact .of h1 h2 D (S.mono A) T
 ·exact⟨.inr (h.mono A)⟩
theorem BR.cells{Γ:aP}{b:cH}{s:Nat}{ob:Option Obj}(h:BR Γ b s ob)(hn:mP b.cells=false):∃cs el,ob=some (.cells cs el (0,0))/\cs.size=s/\b.cells.length<=s/\bU Γ b.cells (cs.toList.take b.cells.length)/\(b.exact=true->s=b.cells.length):=by
 rcases h with ⟨h|⟨es,c,l,h1,h2,D⟩⟩
 ·exact h
 ·rw[h2]at hn;cases hn
def pT(Γ:aP):Prop:=∀g,g<G0->∃s,Γ (hH g)=some (g,s)
theorem pT.mono{Γ Γ':aP}(A:aP.le Γ Γ')(h:pT Γ):pT Γ':=fun g hg=>let ⟨s,e⟩:=h g hg;⟨s,A _ _ e⟩
def aB2:Option Obj->Option Obj
 |some (.cells cs el _)=>some (.cells cs el (0,0))
 |o=>o
def zT(n:Nat)(id:Id)(o:Option Obj):Option Obj:=if id.nat<n then aB2 o else o
theorem aHD{o:Option Obj}{cs:Array bQa}{el:bQb}(h:aB2 o=some (.cells cs el (0,0))):∃fr,o=some (.cells cs el fr):=by
 unfold aB2 at h
 split at h
 ·cases h;exact⟨_,rfl⟩
 ·exact⟨_,h⟩
theorem BR.thaw{Γ:aP}{b:cH}{s:Nat}{o:Option Obj}(h:BR Γ b s o):BR Γ b s (aB2 o):=by
 rcases h with ⟨⟨cs,el,rfl,h2⟩|⟨es,c,l,rfl,h2⟩⟩
 ·exact⟨.inl ⟨cs,el,rfl,h2⟩⟩
 ·exact⟨.inr ⟨es,c,l,rfl,h2⟩⟩
theorem BR.thw{Γ:aP}{b:cH}{s:Nat}{o:Option Obj}(h:BR Γ b s o){n:Nat}{id:Id}:BR Γ b s (zT n id o):=by
 unfold Ev.zT;split
 ·exact h.thaw
 ·exact h
theorem BR.unthw{Γ:aP}{b:cH}{s:Nat}{o:Option Obj}{n:Nat}{id:Id}(h:BR Γ b s (Ev.zT n id o)):BR Γ b s (Ev.aB2 o):=by
 unfold Ev.zT at h;split at h
 ·exact h
 ·exact h.thaw
theorem thw_map{n:Nat}{id:Id}{o:Option Obj}{es:Array MapEntry}{c:Nat}(h:zT n id o=some (.map es c)):o=some (.map es c):=by
 unfold zT aB2 at h
 split at h
 ·split at h
  ·cases h
  ·exact h
 ·exact h
theorem bC6{n:Nat}{id:Id}{o:Option Obj}(h:n<=id.nat):zT n id o=o:=if_neg (by omega)
structure dL(st:St)(Γ:aP)(w:bQ9):Prop where
 blk:∀id b,st.look id b->∃p s,Γ id=some (p,s)/\p<w.heap.size/\BR Γ b s (zT Γ.flo id w.heap[p]?)
 inj:∀id y b b' p s s',st.look id b->st.look y b'->(Γ.flo<=id.nat\/Γ.flo<=y.nat)->Γ id=some (p,s)->Γ y=some (p,s')->id=y
 fresh:∀id,st.nxt.nat<=id.nat->Γ id=none
 top:∀id:Id,st.nxt.nat<=id.nat->Tr.find id st.heap=none
 glob:pT Γ
 flo:Γ.flo<=st.ro
theorem dL.blkc{st:St}{Γ:aP}{w:bQ9}(h:dL st Γ w)(id:Id)(b:cH)(j:st.lookc id b):∃p s,Γ id=some (p,s)/\p<w.heap.size/\∃cs,∃el:bQb×Nat×Nat,w.heap[p]? =some (.cells cs el.1 el.2)/\cs.size=s/\b.cells.length<=s/\bU Γ b.cells (cs.toList.take b.cells.length)/\(b.exact=true->s=b.cells.length):=by
 obtain⟨p,s,h1,h2,D⟩:=h.blk id b j.lk
 obtain⟨cs,el,k1,k2⟩:=D.unthw.cells j.nm
 obtain⟨fr,k3⟩:=aHD k1
 exact⟨p,s,h1,h2,cs,⟨el,fr⟩,k3,k2⟩
theorem dL.blkw{st:St}{Γ:aP}{w:bQ9}(h:dL st Γ w)(id:Id)(b:cH)(j:st.lookc id b)(U:st.ro<=id.nat):∃p s,Γ id=some (p,s)/\p<w.heap.size/\∃cs el,w.heap[p]? =some (.cells cs el (0,0))/\cs.size=s/\b.cells.length<=s/\bU Γ b.cells (cs.toList.take b.cells.length)/\(b.exact=true->s=b.cells.length):=by
 obtain⟨p,s,h1,h2,D⟩:=h.blk id b j.lk
 rw[bC6 (bIO h.flo U)]at D
 exact⟨p,s,h1,h2,D.cells j.nm⟩
structure dF(st:St)(Γ:aP)(w:bQ9)(st':St)(Γ':aP)(w':bQ9):Prop where
 sim:dL st' Γ' w'
 sub:aP.le Γ Γ'
 fl:Γ'.flo=Γ.flo
 same:∀id,id.nat<st.nxt.nat->Γ' id=Γ id
 os:w'.os=w.os
 tape:w'.tape=w.tape
 output:w'.output=w.output
 size:w.heap.size<=w'.heap.size
 ro:st'.ro=st.ro
 hid:st'.hid=st.hid
 nxt:st.nxt.nat<=st'.nxt.nat
 frame:∀q:Nat,q<w.heap.size->(∀id b s,st.look id b->st.ro<=id.nat->Γ id≠some (q,s))->w'.heap[q]? =w.heap[q]?
 wr:∀q id b s,q<w.heap.size->st'.look id b->st.ro<=id.nat->Γ' id=some (q,s)->∃H V P,st.look H V/\st.ro<=H.nat/\Γ H=some (q,P)
 old:∀id,id.nat<st.nxt.nat->(id.nat<st.ro\/¬st.vis id)->Tr.find id st'.heap=Tr.find id st.heap
theorem dF.refl{st:St}{Γ:aP}{w:bQ9}(h:dL st Γ w):dF st Γ w st Γ w:=
 ⟨h,aP.le_refl _,rfl,fun _ _=>rfl,rfl,rfl,rfl,bIK _,rfl,rfl,bIK _,fun _ _ _=>rfl,fun _ id b s _ h1 h2 D=>⟨id,b,s,h1,h2,D⟩,fun _ _ _=>rfl⟩
theorem aFK{st st':St}(h:st'.hid=st.hid)(id:Id):st'.vis id↔st.vis id:=by unfold St.vis;rw[h]
theorem dF.trans{P s1 Q:St}{Γ0 Γ1 Γ2:aP}{w0 w1 w2:bQ9}(h:dF P Γ0 w0 s1 Γ1 w1)(k:dF s1 Γ1 w1 Q Γ2 w2):dF P Γ0 w0 Q Γ2 w2:=by
 refine⟨k.sim,aP.le_trans h.sub k.sub,k.fl.trans h.fl,fun id E=>(k.same id (bIP E h.nxt)).trans (h.same id E),k.os.trans h.os,k.tape.trans h.tape,k.output.trans h.output,bIO h.size k.size,k.ro.trans h.ro,k.hid.trans h.hid,bIO h.nxt k.nxt, ?_, ?_, ?_⟩
 ·intro q hq hn
  rw[k.frame q (bIP hq h.size) ?_,h.frame q hq hn]
  intro id b s j hr L
  obtain⟨H,V,t0,g1,g2,g3⟩:=h.wr q id b s hq j (h.ro ▸ hr) L
  exact hn H V t0 g1 g2 g3
 ·intro q id b s hq j hr L
  obtain⟨W,b1,t1,g1,g2,g3⟩:=k.wr q id b s (bIP hq h.size) j (h.ro.symm ▸ hr) L
  exact h.wr q W b1 t1 hq g1 (h.ro ▸ g2) g3
 ·intro id E hr
  rw[k.old id (bIP E h.nxt) ?_,h.old id E hr]
  rcases hr with hr|hr
  ·left;rw[h.ro];exact hr
  ·right;rwa [aFK h.hid]
theorem dL.drew{st:St}{Γ:aP}{w w':bQ9}(h:dL st Γ w)(hh:w'.heap=w.heap):dL st Γ w':=
 ⟨fun id b j=>by rw[hh];exact h.blk id b j,h.inj,h.fresh,h.top,h.glob,h.flo⟩
theorem dF.drew{st:St}{Γ:aP}{w w':bQ9}(h:dL st Γ w)(hh:w'.heap=w.heap)(ho:w'.os=w.os)(ht:w'.tape=w.tape)(hu:w'.output=w.output):dF st Γ w st Γ w':=
 ⟨h.drew hh,aP.le_refl _,rfl,fun _ _=>rfl,ho,ht,hu,by rw[hh];exact bIK _,rfl,rfl,bIK _,fun _ _ _=>by rw[hh],fun q id b s _ h1 h2 D=>⟨id,b,s,h1,h2,D⟩,fun _ _ _=>rfl⟩
def St.new(st:St)(b:cH):St:=St.rec (fun heap nxt ro hid=>⟨Tr.put (some b) nxt heap,Id.succ nxt,ro,hid⟩) st
def aP.add(Γ:aP)(id:Id)(p s:Nat):aP:=⟨fun x=>if x=id then some (p,s)else Γ x,Γ.flo⟩
theorem aP.add_at(Γ:aP)(id x:Id)(p s:Nat):Γ.add id p s x=if x=id then some (p,s)else Γ x:=rfl
theorem aP.add_le{Γ:aP}{id:Id}(h:Γ id=none)(p s:Nat):aP.le Γ (Γ.add id p s):=fun x q e=>by
 rw[aP.add_at]
 split
 ·rename_i hx;rw[hx,h]at e;cases e
 ·exact e
theorem aP.add_self(Γ:aP)(id:Id)(p s:Nat):Γ.add id p s id=some (p,s):=if_pos rfl
theorem aP.add_ne(Γ:aP){id x:Id}(h:x≠id)(p s:Nat):Γ.add id p s x=Γ x:=if_neg h
theorem St.new_look{st:St}{b:cH}{id:Id}{c:cH}(h:(st.new b).look id c)(M:id≠st.nxt):st.look id c:=by
 obtain⟨h1,h2⟩:=h
 refine⟨h1, ?_⟩
 have:Tr.find id (Tr.put (some b) st.nxt st.heap)=some c:=h2
 rwa [Tr.put_other _ _ _ _ (fun e=>M e.symm)]at this
theorem St.new_look_self{st:St}{b:cH}{c:cH}(h:(st.new b).look st.nxt c):c=b:=by
 have:Tr.find st.nxt (Tr.put (some b) st.nxt st.heap)=some c:=h.2
 rw[Tr.put_same]at this;injection this with this;exact this.symm
theorem dF.newO{st:St}{Γ:aP}{w:bQ9}(h:dL st Γ w){b:cH}{s:Nat}{ob:Obj}(X:∀Γ',aP.le Γ Γ'->BR Γ' b s (some ob)):
  dF st Γ w (st.new b) (Γ.add st.nxt w.heap.size s) { w with heap:=w.heap.push ob }:=by
 have hn:Γ st.nxt=none:=h.fresh _ (bIK _)
 have F:aP.le Γ (Γ.add st.nxt w.heap.size s):=aP.add_le hn _ _
 have M:∀ {id:Id} {c:cH},st.look id c->id≠st.nxt:=fun {id c} j e=>by
  obtain⟨p,s,r,_⟩:=h.blk id c j
  rw[e,hn]at r;cases r
 have G:(st.new b).nxt.nat=st.nxt.nat+1:=Id.nat_succ _
 refine⟨⟨?_, ?_, ?_, ?_,h.glob.mono F,h.flo⟩,F,rfl,fun id E=>aP.add_ne _ (fun e=>by rw[e]at E;omega) _ _,rfl,rfl,rfl,by simp,rfl,rfl,by rw[G];omega, ?_, ?_, ?_⟩
 ·intro id c j
  by_cases e:id=st.nxt
  ·subst e
   obtain rfl:=St.new_look_self j
   refine⟨w.heap.size,s,aP.add_self _ _ _ _,by simp, ?_⟩
   rw[show(w.heap.push ob)[w.heap.size]? =some ob by simp]
   exact(X _ F).thw
  ·obtain⟨p,s,r,J,O⟩:=h.blk id c (St.new_look j e)
   refine⟨p,s,F _ _ r,by simp;omega, ?_⟩
   simp only[Array.getElem?_push,if_neg (bLZ J)]
   exact O.mono F
 ·intro id y c c' p s s' j N Y r C
  by_cases e:id=st.nxt
  ·by_cases K:y=st.nxt
   ·rw[e,K]
   ·subst e
    rw[aP.add_self]at r;injection r with r;injection r with Z d
    rw[aP.add_ne _ K]at C
    obtain⟨p2,Q,d,J,_⟩:=h.blk y c' (St.new_look N K)
    rw[C]at d;injection d with d;injection d with d _;omega
  ·rw[aP.add_ne _ e]at r
   by_cases K:y=st.nxt
   ·subst K
    rw[aP.add_self]at C;injection C with C;injection C with Z d
    obtain⟨p2,Q,d,J,_⟩:=h.blk id c (St.new_look j e)
    rw[r]at d;injection d with d;injection d with d _;omega
   ·rw[aP.add_ne _ K]at C
    exact h.inj id y c c' p s s' (St.new_look j e) (St.new_look N K) Y r C
 ·intro id E
  rw[G]at E
  have:id≠st.nxt:=fun e=>by rw[e]at E;omega
  rw[aP.add_ne _ this];exact h.fresh id (by omega)
 ·intro id E
  rw[G]at E
  exact(Tr.put_other _ _ _ _ (fun e=>by rw[←e]at E;omega)).trans (h.top id (by omega))
 ·intro q hq _
  show(w.heap.push _)[q]? =_
  rw[Array.getElem?_push,if_neg (bLZ hq)]
 ·intro q id c s hq j hr r
  by_cases e:id=st.nxt
  ·subst e;rw[aP.add_self]at r;injection r with r;injection r with r _;omega
  ·rw[aP.add_ne _ e]at r;exact⟨id,c,s,St.new_look j e,hr,r⟩
 ·intro id E _
  exact Tr.put_other _ _ _ _ (fun e=>by rw[←e]at E;omega)
theorem dF.new{st:St}{Γ:aP}{w:bQ9}(h:dL st Γ w){b:cH}{cs:Array bQa}(el:bQb)(hc:bU Γ b.cells (cs.toList.take b.cells.length))(B:b.cells.length<=cs.size)(L:b.exact=true->cs.size=b.cells.length):
  dF st Γ w (st.new b) (Γ.add st.nxt w.heap.size cs.size) { w with heap:=w.heap.push (.cells cs el) }:=dF.newO h fun _ F=> .of rfl rfl B (hc.mono F) L
end
section
inductive aQ where
 |nil
 |cons (t:Nat) (a:AV) (e:aQ)
 |del (t:Nat) (e:aQ)
def aQ.vget:aQ->Nat->KA->OR:=aQ.rec (fun _ _=>none) (fun t a _ ih n=>Bool.rec (ih n) (fun k=>k a) (Nat.beq t n)) (fun t _ ih n=>Bool.rec (ih n) (fun _=>none) (Nat.beq t n))
def aQ.lget:aQ->aQ->Nat->KA->OR:=aQ.rec (fun V=>V.vget) (fun t a _ ih V n=>Bool.rec (ih V n) (fun k=>k a) (Nat.beq t n)) (fun t _ ih V n=>Bool.rec (ih V n) (fun _=>none) (Nat.beq t n))
def aQ.rem(t:Nat):aQ->aQ:=aQ.rec .nil (fun w a' e ih=>Bool.rec (.cons w a' ih) e (Nat.beq w t)) (fun w e _=> .del w e)
def aQ.vset(t:Nat)(a:AV)(V:aQ):aQ:= .cons t a (aQ.rem t V)
inductive eE where
 |normal
 |exit (id:Nat)
 |ret
def pJ:Bool->Bool:=Bool.rec true false
def tQ:Bool->Bool->Bool:=Bool.rec pJ (fun b=>b)
def bT(b:Bool)(y n:OR):OR:=Bool.rec n y b
def lO(l:List AV):Nat:=List.rec 0 (fun _ _ n=>Nat.succ n) l
def lQ(l m:List AV):List AV:=List.rec m (fun a _ ih=>a::ih) l
def iK(n:Nat)(z:List AV):List AV:=Nat.rec [] (fun _ ih=>lQ z ih) n
def aGn:Nat->List AV->(List AV->OR)->OR:=Nat.rec (fun _ k=>k []) (fun _ ih=>List.rec (fun _=>none) (fun a l _ k=>ih l fun r=>k (a::r)))
def fR(n:Nat):Nat->List AV->(List AV->OR)->OR:=Nat.rec (aGn n) (fun _ ih=>List.rec (fun _=>none) (fun _ l _ k=>ih l k))
def aE6:Nat->List AV->KA->OR:=Nat.rec (List.rec (fun _=>none) (fun a _ _ k=>k a)) (fun _ ih=>List.rec (fun _=>none) (fun _ l _ k=>ih l k))
def aDK:List AV->List AV->(List AV->OR)->OR:=List.rec (fun l k=>k l) (fun a _ ih=>List.rec (fun _=>none) (fun _ l _ k=>ih l fun r=>k (a::r)))
def nO(cs:List AV):Nat->List AV->(List AV->OR)->OR:=Nat.rec (aDK cs) (fun _ ih=>List.rec (fun _=>none) (fun a l _ k=>ih l fun r=>k (a::r)))
def AV.cells:AV->List AV:=AV.rec (motive_1:=fun _=>List AV) (motive_2:=fun _=>Unit) (fun x=>[.b x]) (fun k n=>[.i k n]) (fun k n=>[.m k n]) (fun x=>[.v x]) ([.u]) ([.se]) (fun i o=>[.ptr i o]) (fun a b c d e=>[.sl a b c d e]) (fun f a b _ _=>[.fn f a b]) (fun cs _=>cs) (fun cs _=>[.tup cs]) () (fun _ _ _ _=>())
def AV.one:AV->Bool:=AV.rec (motive_1:=fun _=>Bool) (motive_2:=fun _=>Unit) (fun _=>true) (fun _ _=>true) (fun _ _=>true) (fun _=>true) (false) (true) (fun _ _=>true) (fun _ _ _ _ _=>true) (fun _ _ _ _ _=>true) (fun _ _=>false) (fun _ _=>false) () (fun _ _ _ _=>())
def jC:List AV->Bool:=List.rec true (fun a _ ih=>Bool.rec false ih a.one)
def aE:bQa->Option AV
 | .bool b=>some (.b b)
 | .int k (.ofNat n)=>some (.i k n)
 | .int k (.negSucc n)=>some (.m k n)
 | .agg _=>none
 | .tuple _=>none
 |x=>some (.v x)
def aF:List bQa->Option (List AV)
 | []=>some []
 |x::l=>match aE x,aF l with |some a,some r=>some (a::r)|_,_=>none
def aC:bQa->Option AV
 | .agg cs=>match aF cs.toList with |some l=>some (.agg l)|none=>none
 | .tuple vs=>match vs.toList with | []=>some .u|_=>none
 |x=>aE x
abbrev aKo:=aQ->aQ->KA->OR
def bIw(t:Nat):aKo:=fun L V k=>L.lget V t k
def yM:Option AV->aKo:=Option.rec (fun _ _ _=>none) (fun a _ _ k=>k a)
def cE:bQd->aKo:=Operand.rec bIw (fun v=>yM (aC v)) (fun g=>yM (Bool.rec none (some (.ptr (hH g) 0)) (Nat.ble (Nat.succ g) G0))) (fun f=>yM (some (.fn (.func f) [] [])))
def jG:List bQd->aQ->aQ->(List AV->OR)->OR:=
 List.rec (fun _ _ k=>k []) (fun x _ ih L V k=>cE x L V fun a=>ih L V fun r=>k (a::r))
def oJ:AV->(Bool->OR)->OR:=AV.rec (motive_1:=fun _=>(Bool->OR)->OR) (motive_2:=fun _=>Unit) (fun b k=>k b) (fun _ _ _=>none) (fun _ _ _=>none) (fun _ _=>none) (fun _=>none) (fun _=>none) (fun _ _ _=>none) (fun _ _ _ _ _ _=>none) (fun _ _ _ _ _ _=>none) (fun _ _ _=>none) (fun _ _ _=>none) () (fun _ _ _ _=>())
def aKt:AV->OR->(Bool->OR)->OR:=AV.rec (motive_1:=fun _=>OR->(Bool->OR)->OR) (motive_2:=fun _=>Unit) (fun b _ k=>k b) (fun _ _ _ _=>none) (fun _ _ _ _=>none) (fun _ _ _=>none) (fun n _=>n) (fun _ _=>none) (fun _ _ _ _=>none) (fun _ _ _ _ _ _ _=>none) (fun _ _ _ _ _ _ _=>none) (fun _ _ _ _=>none) (fun _ _ _ _=>none) () (fun _ _ _ _=>())
def kQ:bQc->Nat:=IntKind.rec (nat_lit 0) (nat_lit 1) (nat_lit 2) (nat_lit 3) (nat_lit 4) (nat_lit 5) (nat_lit 6) (nat_lit 7)
def iM:AV->(Nat->OR)->OR:=AV.rec (motive_1:=fun _=>(Nat->OR)->OR) (motive_2:=fun _=>Unit) (fun _ _=>none) (fun _ n k=>k n) (fun _ _ _=>none) (fun _ _=>none) (fun _=>none) (fun _=>none) (fun _ _ _=>none) (fun _ _ _ _ _ _=>none) (fun _ _ _ _ _ _=>none) (fun _ _ _=>none) (fun _ _ _=>none) () (fun _ _ _ _=>())
def zO(ki:bQc):AV->(Nat->OR)->OR:=AV.rec (motive_1:=fun _=>(Nat->OR)->OR) (motive_2:=fun _=>Unit) (fun _ _=>none) (fun k n c=>bT (Nat.beq (kQ k) (kQ ki)) (c n) none) (fun _ _ _=>none) (fun _ _=>none) (fun _=>none) (fun _=>none) (fun _ _ _=>none) (fun _ _ _ _ _ _=>none) (fun _ _ _ _ _ _=>none) (fun _ _ _=>none) (fun _ _ _=>none) () (fun _ _ _ _=>())
def rE:AV->(Nat->OR)->(Nat->OR)->OR:=AV.rec (motive_1:=fun _=>(Nat->OR)->(Nat->OR)->OR) (motive_2:=fun _=>Unit) (fun _ _ _=>none) (fun _ n k _=>k n) (fun _ n _ k=>k n) (fun _ _ _=>none) (fun _ _=>none) (fun _ _=>none) (fun _ _ _ _=>none) (fun _ _ _ _ _ _ _=>none) (fun _ _ _ _ _ _ _=>none) (fun _ _ _ _=>none) (fun _ _ _ _=>none) () (fun _ _ _ _=>())
def oF(ki:bQc):AV->(Nat->OR)->(Nat->OR)->OR:=AV.rec (motive_1:=fun _=>(Nat->OR)->(Nat->OR)->OR) (motive_2:=fun _=>Unit) (fun _ _ _=>none) (fun k n c _=>bT (Nat.beq (kQ k) (kQ ki)) (c n) none) (fun k n _ c=>bT (Nat.beq (kQ k) (kQ ki)) (c n) none) (fun _ _ _=>none) (fun _ _=>none) (fun _ _=>none) (fun _ _ _ _=>none) (fun _ _ _ _ _ _ _=>none) (fun _ _ _ _ _ _ _=>none) (fun _ _ _ _=>none) (fun _ _ _ _=>none) () (fun _ _ _ _=>())
def lC:AV->(Id->Nat->OR)->OR:=AV.rec (motive_1:=fun _=>(Id->Nat->OR)->OR) (motive_2:=fun _=>Unit) (fun _ _=>none) (fun _ _ _=>none) (fun _ _ _=>none) (fun _ _=>none) (fun _=>none) (fun _=>none) (fun i o k=>k i o) (fun _ _ _ _ _ _=>none) (fun _ _ _ _ _ _=>none) (fun _ _ _=>none) (fun _ _ _=>none) () (fun _ _ _ _=>())
def asG:AV->(List AV->OR)->OR:=AV.rec (motive_1:=fun _=>(List AV->OR)->OR) (motive_2:=fun _=>Unit) (fun _ _=>none) (fun _ _ _=>none) (fun _ _ _=>none) (fun _ _=>none) (fun _=>none) (fun _=>none) (fun _ _ _=>none) (fun _ _ _ _ _ _=>none) (fun _ _ _ _ _ _=>none) (fun cs _ k=>k cs) (fun _ _ _=>none) () (fun _ _ _ _=>())
def asT:AV->(List AV->OR)->OR:=AV.rec (motive_1:=fun _=>(List AV->OR)->OR) (motive_2:=fun _=>Unit) (fun _ _=>none) (fun _ _ _=>none) (fun _ _ _=>none) (fun _ _=>none) (fun _=>none) (fun _=>none) (fun _ _ _=>none) (fun _ _ _ _ _ _=>none) (fun _ _ _ _ _ _=>none) (fun _ _ _=>none) (fun cs _ k=>k cs) () (fun _ _ _ _=>())
def asF:AV->(Nat->List AV->List AV->OR)->OR:=AV.rec (motive_1:=fun _=>(Nat->List AV->List AV->OR)->OR) (motive_2:=fun _=>Unit) (fun _ _=>none) (fun _ _ _=>none) (fun _ _ _=>none) (fun _ _=>none) (fun _=>none) (fun _=>none) (fun _ _ _=>none) (fun _ _ _ _ _ _=>none) (fun f a b _ _ k=>Fn.rec (fun f=>k f a b) (fun _=>none) (fun _ _=>none) (fun _ _ _ _=>none) (fun _=>none) f) (fun _ _ _=>none) (fun _ _ _=>none) () (fun _ _ _ _=>())
def aE8(n:OR):bQa->OR:=fun x=>match x with | .slice none 0 0=>n|_=>none
def aGV(n:OR):bQa->OR:=fun x=>match x with | .pointer none=>n|_=>none
def aGL(n:OR):bQa->OR:=fun x=>match x with | .nilFunc=>n|_=>none
def iA:AV->OR->OR->(Id->Nat->Nat->Option Nat->Nat->OR)->OR:=AV.rec (motive_1:=fun _=>OR->OR->(Id->Nat->Nat->Option Nat->Nat->OR)->OR) (motive_2:=fun _=>Unit) (fun _ _ _ _=>none) (fun _ _ _ _ _=>none) (fun _ _ _ _ _=>none) (fun x n _ _=>aE8 n x) (fun _ _ _=>none) (fun _ e _=>e) (fun _ _ _ _ _=>none) (fun id off len cap sz _ _ k=>k id off len cap sz) (fun _ _ _ _ _ _ _ _=>none) (fun _ _ _ _ _=>none) (fun _ _ _ _ _=>none) () (fun _ _ _ _=>())
def aGN:AV->(Bool->OR)->OR:=AV.rec (motive_1:=fun _=>(Bool->OR)->OR) (motive_2:=fun _=>Unit) (fun _ _=>none) (fun _ _ _=>none) (fun _ _ _=>none) (fun x k=>aGV (k true) x) (fun _=>none) (fun _=>none) (fun _ _ k=>k false) (fun _ _ _ _ _ _=>none) (fun _ _ _ _ _ _=>none) (fun _ _ _=>none) (fun _ _ _=>none) () (fun _ _ _ _=>())
def aGS:AV->(Bool->OR)->OR:=AV.rec (motive_1:=fun _=>(Bool->OR)->OR) (motive_2:=fun _=>Unit) (fun _ _=>none) (fun _ _ _=>none) (fun _ _ _=>none) (fun x k=>aE8 (k true) x) (fun _=>none) (fun k=>k false) (fun _ _ _=>none) (fun _ _ _ _ _ k=>k false) (fun _ _ _ _ _ _=>none) (fun _ _ _=>none) (fun _ _ _=>none) () (fun _ _ _ _=>())
def aGG:AV->(Bool->OR)->OR:=AV.rec (motive_1:=fun _=>(Bool->OR)->OR) (motive_2:=fun _=>Unit) (fun _ _=>none) (fun _ _ _=>none) (fun _ _ _=>none) (fun x k=>aGL (k true) x) (fun _=>none) (fun _=>none) (fun _ _ _=>none) (fun _ _ _ _ _ _=>none) (fun f _ _ _ _ k=>Fn.rec (fun _=>k false) (fun _=>none) (fun _ _=>none) (fun _ _ _ _=>none) (fun _=>none) f) (fun _ _ _=>none) (fun _ _ _=>none) () (fun _ _ _ _=>())
def fS:bQc->Nat:=IntKind.rec (nat_lit 127) (nat_lit 32767) (nat_lit 2147483647) (nat_lit 9223372036854775807) (nat_lit 255) (nat_lit 65535) (nat_lit 4294967295) (nat_lit 18446744073709551615)
def sgn:bQc->Bool:=IntKind.rec true true true true false false false false
def qQ(k:bQc):Int->AV:=Int.rec (fun n=> .i k n) (fun n=> .m k n)
def jQ(k:bQc)(n:Nat):AV:=Bool.rec (qQ k (k.wrap (Int.ofNat n))) (.i k n) (Nat.ble n (fS k))
def nX(k:bQc)(n:Nat):AV:=Bool.rec (qQ k (k.wrap (Int.negSucc n))) (Bool.rec (qQ k (k.wrap (Int.negSucc n))) (.m k n) (Nat.ble n (fS k))) (sgn k)
def fQ(k:bQc)(a b:Nat):AV:=Bool.rec (nX k (bLj (Nat.sub b a))) (jQ k (Nat.sub a b)) (Nat.ble b a)
abbrev wT:=bQc->AV->AV->KA->OR
def aGI:wT:=fun k x y c=>rE x (fun a=>oF k y (fun b=>c (jQ k (Nat.add a b))) (fun b=>c (fQ k a (Nat.succ b)))) (fun a=>oF k y (fun b=>c (fQ k b (Nat.succ a))) (fun b=>c (nX k (Nat.succ (Nat.add a b)))))
def aGA:wT:=fun k x y c=>rE x (fun a=>oF k y (fun b=>c (fQ k a b)) (fun b=>c (jQ k (Nat.add a (Nat.succ b))))) (fun a=>oF k y (fun b=>c (nX k (Nat.add a b))) (fun b=>c (fQ k b a)))
def aGF:wT:=fun k x y c=>rE x (fun a=>oF k y (fun b=>c (jQ k (Nat.mul a b))) (fun b=>c (fQ k 0 (Nat.mul a (Nat.succ b))))) (fun a=>oF k y (fun b=>c (fQ k 0 (Nat.mul (Nat.succ a) b))) (fun b=>c (jQ k (Nat.mul (Nat.succ a) (Nat.succ b)))))
def nnK(f:Nat->Nat->Nat):wT:=fun k x y c=>iM x fun a=>zO k y fun b=>bT (Nat.ble a (fS k)) (bT (Nat.ble b (fS k)) (c (.i k (f a b))) none) none
def qrK(f:Nat->Nat->Nat):wT:=fun k x y c=>iM x fun a=>zO k y fun b=>bT (Nat.beq b 0) none (bT (Nat.ble a (fS k)) (c (.i k (f a b))) none)
def aAL:bQc->Nat:=IntKind.rec (nat_lit 8) (nat_lit 16) (nat_lit 32) (nat_lit 64) (nat_lit 8) (nat_lit 16) (nat_lit 32) (nat_lit 64)
def aC2(a b:Nat):Nat:=Bool.rec b a (Nat.ble a b)
def aTB:wT:=fun k x y c=>iM x fun a=>iM y fun b=>c (jQ k (Nat.mul a (Nat.pow 2 (aC2 b (aAL k)))))
def aU2:wT:=fun k x y c=>iM x fun a=>iM y fun b=>c (.i k (Nat.div a (Nat.pow 2 (aC2 b (aAL k)))))
def tO(f g:Nat->Nat->Bool)(pm mp:Bool):wT:=fun k x y c=>rE x (fun a=>oF k y (fun b=>c (.b (f a b))) (fun _=>c (.b pm))) (fun a=>oF k y (fun _=>c (.b mp)) (fun b=>c (.b (g a b))))
def yX:BinOp->wT:=BinOp.rec aGI aGA aGF (qrK Nat.div) (qrK Nat.mod) (nnK bKt) (nnK Nat.lor) (nnK Nat.xor) aTB aU2 (nnK fun a b=>Nat.xor a (bKt a b))
  (tO Nat.beq Nat.beq false false) (tO (fun a b=>pJ (Nat.beq a b)) (fun a b=>pJ (Nat.beq a b)) true true) (tO (fun a b=>pJ (Nat.ble b a)) (fun a b=>pJ (Nat.ble a b)) false true) (tO Nat.ble (fun a b=>Nat.ble b a) false true) (tO (fun a b=>pJ (Nat.ble a b)) (fun a b=>pJ (Nat.ble b a)) true false) (tO (fun a b=>Nat.ble b a) Nat.ble true false)
def pY:BinOp->Bool->KA->OR:=BinOp.rec (fun _ _=>none) (fun _ _=>none) (fun _ _=>none) (fun _ _=>none) (fun _ _=>none) (fun _ _=>none) (fun _ _=>none) (fun _ _=>none) (fun _ _=>none) (fun _ _=>none) (fun _ _=>none) (fun b k=>k (.b b)) (fun b k=>k (.b (pJ b))) (fun _ _=>none) (fun _ _=>none) (fun _ _=>none) (fun _ _=>none)
def aJX(f:AV->(Bool->OR)->OR)(op:BinOp)(x y:AV)(k:KA):OR:=f x fun a=>f y fun b=>Bool.rec (Bool.rec none (pY op false k) b) (pY op b k) a
def aKd(op:BinOp)(a b:ByteArray)(k:KA):OR:=match op with
 | .eql=>k (.b (a.toList==b.toList))
 | .neq=>k (.b (!(a.toList==b.toList)))
 | .add=>if a.size+b.size<=100000000 then k (.v (.string (a++b)))else none
 |_=>none
section
variable (P:bQe)
inductive fO where
 |boo|ptr|sli|fun_|other
def fM(t:bQb):fO:=match P.underlying t with |some .bool=> .boo|some (.pointer _)=> .ptr|some (.slice _)=> .sli|some (.func _ _ _)=> .fun_|_=> .other
def aC7(op:BinOp):fO->AV->AV->KA->OR:=fO.rec (fun _ _ _=>none) (aJX aGN op) (aJX aGS op) (aJX aGG op) (fun _ _ _=>none)
def aTe(op:BinOp):fO->Bool->AV->KA->OR:=fO.rec (fun a y k=>oJ y fun b=>pY op (tQ a b) k) (fun _ _ _=>none) (fun _ _ _=>none) (fun _ _ _=>none) (fun _ _ _=>none)
def vK(op:BinOp)(t:fO)(x:bQa)(y:AV)(k:KA):OR:=match x,y with | .string a,.v (.string b)=>aKd op a b k|x,y=>aC7 op t (.v x) y k
def vX(op:BinOp)(t:fO):AV->AV->KA->OR:=AV.rec (motive_1:=fun _=>AV->KA->OR) (motive_2:=fun _=>Unit) (fun a=>aTe op t a) (fun ki a=>yX op ki (.i ki a)) (fun ki a=>yX op ki (.m ki a)) (fun x=>vK op t x) (fun _ _=>none) (aC7 op t .se) (fun i o=>aC7 op t (.ptr i o)) (fun a b c d e=>aC7 op t (.sl a b c d e)) (fun a b c _ _=>aC7 op t (.fn a b c)) (fun _ _ _ _=>none) (fun _ _ _ _=>none) () (fun _ _ _ _=>())
def jY(t:bQb):Bool:=match P.underlying t with |some (.struct _)|some (.array _ _)=>true|_=>false
def aU(t:bQb):Nat:=P.cellsOf t
def iD(t:bQb):Option AV:=match P.info? t with |some i=>(match i.zero with |some z=>aC z|none=>none)|none=>none
def lF(t:bQb)(f:Nat):Option (Nat×bQb):=match P.underlying t with |some (.struct fs)=>(match fs[f]? with |some g=>some (g.offset,g.type)|none=>none)|_=>none
def cU(t:bQb):Option bQb:=match P.underlying t with |some (.slice e)=>some e|_=>none
def oE(s t:bQb):Option bQc:=match P.underlying s,P.underlying t with |some _,some (.int k)=>some k|_,_=>none
def aE0(t:bQb):Option (Nat×bQb):=match P.underlying t with |some (.array n e)=>some (n,e)|_=>none
def dE(t:bQb):Bool:=(P.info? t).isSome&&(P.underlying t).isSome
abbrev dQ:=aQ->aQ->St->KS->OR
def oR{α:Type}(f:α->dQ):Option α->dQ:=Option.rec (fun _ _ _ _=>none) f
def bR(f:dQ):Bool->dQ:=Bool.rec (fun _ _ _ _=>none) f
def oM(t:bQb):Nat->List AV->KA->OR:=Bool.rec aE6 (fun off cells k=>fR (aU P t) off cells fun cs=>k (.agg cs)) (jY P t)
def aGl(x:bQd):dQ:=fun L V st k=>cE x L V fun a=>k a st
def aTd(c a b:bQd):dQ:=fun L V st k=>cE c L V fun y=>oJ y fun t=>cE a L V fun a=>cE b L V fun b=>k (Bool.rec b a t) st
def aKu(cs:List AV)(st:St)(k:KS):OR:=k (.ptr st.nxt 0) (st.new ⟨cs,true⟩)
def aFJ(e:bQb):dQ:=oR (fun z=>fun _ _ st k=>aKu z.cells st k) (iD P e)
def aTz(x:bQd):dQ:=fun L V st k=>cE x L V fun a=>aKu a.cells st k
def aC5(place:Nat->Option (Nat×Nat)):List (Nat×bQd)->aQ->aQ->List AV->(List AV->OR)->OR:=
 List.rec (fun _ _ cs k=>k cs) (fun p _ ih L V cs k=>Option.rec none (fun q=>cE p.2 L V fun a=>bT (Nat.beq (lO a.cells) q.2) (nO a.cells q.1 cs fun cs=>ih L V cs k) none) (place p.1))
def qJ(t:bQb)(f:Nat):Option (Nat×Nat):=match lF P t f with |some (off,ft)=>if dE P ft then some (off,aU P ft)else none|none=>none
def aA1(t:bQb):Bool:=match P.underlying t with |some (.struct fs)=>fs.all fun f=>dE P f.type|_=>false
def aG9(t:bQb)(ps:Array (Nat×bQd)):dQ:=bR (oR (fun z=>fun L V st k=>aC5 (qJ P t) ps.toList L V z.cells fun cs=>k (.agg cs) st) (iD P t)) (aA1 P t)
def aKf(len:Nat)(ps:Array (Nat×bQd))(sz:Nat)(z:List AV):dQ:=fun L V st k=>aC5 (fun i=>some (Nat.mul i sz,sz)) ps.toList L V z fun cs=>k (.sl st.nxt 0 len (some len) sz) (st.new ⟨cs,true⟩)
def dJ(e:bQb):Bool:=match P.info? e,iD P e with |some i,some z=>Nat.beq (lO z.cells) i.size&&Nat.ble 1 i.size&&Nat.ble i.size 1000&&Nat.ble i.bytes 65536|_,_=>false
def aGM(t:bQb)(len:Nat)(ps:Array (Nat×bQd)):dQ:=oR (fun e=>bR (oR (fun z=>aKf len ps (aU P e) (iK len z.cells)) (iD P e)) (dJ P e&&Nat.ble len 1000)) (cU P t)
def yC(t:bQb)(a:bQd):dQ:=bR (fun L V st k=>cE a L V fun y=>lC y fun id off=>eQ st id fun b=>oM P t off b.cells fun v=>k v st) (dE P t)
def nJ(st:St)(id:Id)(b:cH)(k:St->OR):OR:=wrK st id (St.rec (motive:=fun _=>OR) (fun heap nxt ro hid=>k ⟨Tr.put (some b) id heap,nxt,ro,hid⟩) st)
def aBU(t:bQb)(a x:bQd):dQ:=bR (fun L V st k=>cE a L V fun y=>cE x L V fun v=>lC y fun id off=>eQ st id fun b=>bT (Nat.beq (lO v.cells) (aU P t)) (bT (jC v.cells) (nO v.cells off b.cells fun cs=>nJ st id ⟨cs,b.exact⟩ fun st=>k .u st) none) none) (dE P t)
def aTa:AV->OR->OR:=AV.rec (motive_1:=fun _=>OR->OR) (motive_2:=fun _=>Unit) (fun _ _=>none) (fun _ _ _=>none) (fun _ _ _=>none) (fun _ _=>none) (fun _=>none) (fun _=>none) (fun _ _ k=>k) (fun _ _ _ _ _ _=>none) (fun f _ _ _ _ k=>Fn.rec (fun _=>k) (fun _=>none) (fun _ _=>none) (fun _ _ _ _=>none) (fun _=>none) f) (fun _ _ _=>none) (fun _ _ _=>none) () (fun _ _ _ _=>())
def aTR(x:bQd):dQ:=fun L V st k=>cE x L V fun y=>aTa y (k y st)
def nA:bQd->Bool
 | .const .nilIface=>true
 |_=>false
def aAK(t:bQb):Bool:=match P.underlying t with |some (.interface _)=>true|_=>false
def aCn:AV->Option Bool
 | .v .nilIface=>some true
 | .fn (.yield 2) [] []=>some false
 |_=>none
def aTV(op:BinOp)(x:bQd):dQ:=fun L V st k=>cE x L V fun a=>Option.rec none (fun b=>pY op b fun v=>k v st) (aCn a)
def aQH(op:BinOp)(t:bQb)(x y:bQd):dQ:=fun L V st k=>cE x L V fun a=>cE y L V fun b=>vX op (fM P t) a b fun v=>k v st
def aAE(op:BinOp)(t:bQb)(x y:bQd):dQ:=Bool.rec (aQH P op t x y) (aTV op x) (nA y&&aAK P t)
def bIr:AV->KA->OR:=AV.rec (motive_1:=fun _=>KA->OR) (motive_2:=fun _=>Unit) (fun _ _=>none) (fun ki n k=>k (fQ ki 0 n)) (fun ki n k=>k (jQ ki (Nat.succ n))) (fun _ _=>none) (fun _=>none) (fun _=>none) (fun _ _ _=>none) (fun _ _ _ _ _ _=>none) (fun _ _ _ _ _ _=>none) (fun _ _ _=>none) (fun _ _ _=>none) () (fun _ _ _ _=>())
def unK:UnOp->AV->KA->OR:=UnOp.rec bIr (fun _ _=>none) (fun y k=>oJ y fun b=>k (.b (pJ b))) (fun _ _=>none)
def aT1(op:UnOp)(x:bQd):dQ:=fun L V st k=>cE x L V fun a=>unK op a fun v=>k v st
def aGs(s d:bQb)(x:bQd):dQ:=oR (fun ki=>fun L V st k=>cE x L V fun a=>rE a (fun n=>k (jQ ki n) st) (fun n=>k (nX ki n) st)) (oE P s d)
def mfK(f:Fn)(a b:Array bQd):dQ:=fun L V st k=>Fn.rec (fun f=>jG a.toList L V fun a=>jG b.toList L V fun b=>k (.fn (.func f) a b) st) (fun _=>none) (fun _ _=>none) (fun _ _ _ _=>none) (fun _=>none) f
def aTj(sz:Nat)(z:List AV)(l c:bQd):dQ:=fun L V st k=>cE l L V fun l=>cE c L V fun c=>iM l fun n=>iM c fun m=>bT (Nat.ble n m) (bT (Nat.ble m 10000000) (bT (Nat.beq n m) (k (.sl st.nxt 0 n (some m) sz) (st.new ⟨iK m z,true⟩)) (k (.sl st.nxt 0 n none sz) (st.new ⟨iK n z,false⟩))) none) none
def aCk(t:bQb)(l c:bQd):dQ:=oR (fun e=>bR (oR (fun z=>aTj (aU P e) z.cells l c) (iD P e)) (dJ P e)) (cU P t)
def pL(x:Option bQd)(d:Nat)(L V:aQ)(k:Nat->OR):OR:=Option.rec (k d) (fun o=>cE o L V fun a=>iM a k) x
def aTC(id:Id)(off sz:Nat)(cap:Option Nat)(l h:Nat)(k:KA):OR:=
 bT (Nat.beq l h) (bT (Nat.beq l 0) (k (.sl id off 0 cap sz)) (k .se)) (k (.sl id (Nat.add off (Nat.mul l sz)) (Nat.sub h l) (Option.rec none (fun c=>some (Nat.sub c l)) cap) sz))
def pS(id:Id)(off sz len:Nat)(cap:Option Nat)(l h:Nat)(k:KA):OR:=bT (Nat.ble h len) (bT (Nat.ble l h) (aTC id off sz cap l h k) none) none
def bIe(mx:Option bQd)(L V:aQ)(id:Id)(off len:Nat)(cap:Option Nat)(sz l h:Nat)(k:KA):OR:=Option.rec (pS id off sz len cap l h k) (fun m=>cE m L V fun m=>iM m fun m=>bT (Nat.ble m len) (bT (Nat.ble h m) (pS id off sz len (some m) l h k) none) none) mx
def qZ(lo hi mx:Option bQd)(L V:aQ)(id:Id)(off len:Nat)(cap:Option Nat)(sz:Nat)(k:KA):OR:=pL lo 0 L V fun l=>pL hi len L V fun h=>bIe mx L V id off len cap sz l h k
def fB(x:Option bQd)(L V:aQ)(k:OR):OR:=pL x 0 L V fun n=>bT (Nat.beq n 0) k none
def aAP(hi mx:Option bQd):Bool:=mx.isNone||hi.isSome
def nC(t:bQb):Bool:=match P.underlying t with |some .string=>true|_=>false
def aGr:AV->Option ByteArray
 | .v (.string s)=>some s
 |_=>none
def aKb(t:bQb)(x:bQd)(lo hi mx:Option bQd):dQ:=bR (fun L V st k=>cE x L V fun a=>Option.rec none (fun s=>pL lo 0 L V fun l=>pL hi s.size L V fun h=>bT (Nat.ble h s.size) (bT (Nat.ble l h) (k (.v (.string (s.extract l h))) st) none) none) (aGr a)) (nC P t&&mx.isNone)
def tA(t:bQb)(x:bQd)(lo hi mx:Option bQd):dQ:=Option.rec (aKb P t x lo hi mx) (fun e=>bR (fun L V st k=>cE x L V fun a=>iA a (fB lo L V (fB hi L V (fB mx L V (k a st)))) (fB lo L V (fB hi L V (fB mx L V (k .se st)))) fun id off len cap sz=>
 bT (Nat.beq sz (aU P e)) (qZ lo hi mx L V id off len cap sz fun v=>k v st) (bT (Nat.beq len 0) (fB lo L V (fB hi L V (fB mx L V (k .se st)))) none)) (dE P e&&aAP hi mx)) (cU P t)
def aE9(s:bQb)(x:bQd)(f:Nat):dQ:=oR (fun fo=>bR (fun L V st k=>cE x L V fun y=>lC y fun id off=>k (.ptr id (Nat.add off fo.1)) st) (dJ P fo.2)) (lF P s f)
def aGW(t:bQb)(x:bQd)(f:Nat):dQ:=oR (fun fo=>bR (fun L V st k=>cE x L V fun y=>asG y fun cs=>oM P fo.2 fo.1 cs fun v=>k v st) (dE P fo.2)) (lF P t f)
def nF(sz:Nat)(id:Id)(off len n:Nat)(st:St)(k:KS):OR:=bT (Nat.ble (Nat.succ n) len) (k (.ptr id (Nat.add off (Nat.mul n sz))) st) none
def aE3(x ix:bQd)(sz:Nat):dQ:=fun L V st k=>cE x L V fun y=>cE ix L V fun n=>iM n fun n=>iA y none none fun id off len _ _=>nF sz id off len n st k
def aGY(x ix:bQd)(len sz:Nat):dQ:=fun L V st k=>cE x L V fun y=>cE ix L V fun n=>iM n fun n=>lC y fun id off=>nF sz id off len n st k
def aEd(t:bQb)(x ix:bQd):dQ:=Option.rec (oR (fun a=>bR (aGY x ix a.1 (aU P a.2)) (dE P a.2)) (aE0 P t)) (fun e=>bR (aE3 x ix (aU P e)) (dE P e)) (cU P t)
def tH(s:ByteArray)(n:Nat):Option Nat:=match s[n]? with |some b=>some b.toNat|none=>none
def aGQ(t:bQb)(x ix:bQd):dQ:=bR (fun L V st k=>cE x L V fun y=>cE ix L V fun n=>iM n fun n=>match y with
  | .v (.string s)=>Option.rec none (fun b=>k (.i .u8 b) st) (tH s n)
  |_=>none) (nC P t)
def aTQ(x:bQd)(i:Nat):dQ:=fun L V st k=>cE x L V fun y=>asT y fun vs=>aE6 i vs fun v=>k v st
def wA(t:bQb):AV->KA->OR:=Option.rec (fun y k=>match y with | .v (.string s)=>bT (nC P t) (k (.i .i64 s.size)) none|_=>none) (fun _ y k=>iA y (k (.i .i64 0)) (k (.i .i64 0)) fun _ _ len _ _=>k (.i .i64 len)) (cU P t)
def aGU(st:St)(sz:Nat)(y:AV)(k:List AV->Nat->OR):OR:=iA y (k [] 0) (k [] 0) fun id off len _ _=>eQ st id fun b=>fR (Nat.mul len sz) off b.cells fun cs=>k cs len
def tU(st:St)(sz:Nat)(new:List AV)(n:Nat)(k:KS):OR:=k (.sl st.nxt 0 n none sz) (st.new ⟨new,false⟩)
def tY(st:St)(sz:Nat)(id:Id)(off len n:Nat)(new:List AV)(k:KS):OR:=eQ st id fun b=>fR (Nat.mul len sz) off b.cells fun old=>tU st sz (lQ old new) (Nat.add len n) k
def oA(st:St)(sz:Nat)(id:Id)(off len n c:Nat)(new:List AV)(k:KS):OR:=bT (Nat.ble (Nat.add len n) c) (eQ st id fun b=>nO new (Nat.add off (Nat.mul len sz)) b.cells fun cs=>nJ st id ⟨cs,b.exact⟩ fun st=>k (.sl id off (Nat.add len n) (some c) sz) st) (tY st sz id off len n new k)
def uE(st:St)(sz:Nat)(id:Id)(off len n:Nat)(new:List AV)(k:KS):OR:=bT (Nat.beq off 0) (eQ st id fun b=>fR (Nat.mul len sz) 0 b.cells fun old=>wrK st id (St.rec (motive:=fun _=>OR) (fun heap nxt ro hid=>k (.sl nxt 0 (Nat.add len n) none sz) ⟨Tr.put (some ⟨lQ old new,false⟩) nxt (Tr.put none id heap),Id.succ nxt,ro,hid⟩) st)) none
def vN(sz:Nat)(s x:AV)(st:St)(k:KS):OR:=aGU st sz x fun new n=>bT (Nat.beq n 0) (iA s (k s st) (k s st) fun _ _ _ _ _=>k s st) (bT (Nat.ble n 10000000&&jC new) (iA s (tU st sz new n k) none fun id off len cap A=>
 bT (Nat.beq A sz&&Nat.ble len 10000000) (Option.rec (uE st sz id off len n new k) (fun c=>oA st sz id off len n c new k) cap) none) none)
def pP(t:bQb):AV->AV->St->KS->OR:=Option.rec (fun _ _ _ _=>none) (fun e=>Bool.rec (fun _ _ _ _=>none) (vN (aU P e)) (dJ P e)) (cU P t)
def aCd(sz:Nat)(z:List AV)(s x:AV)(st:St)(k:KS):OR:=zO .i64 x fun n=>iA s (bT (Nat.beq n 0) (k s st) (bT (Nat.ble n 10000000) (tU st sz (iK n z) n k) none)) none (fun _ _ _ _ _=>none)
def aEa(t:bQb):AV->AV->St->KS->OR:=Option.rec (fun _ _ _ _=>none) (fun e=>Bool.rec (fun _ _ _ _=>none) (Option.rec (fun _ _ _ _=>none) (fun z=>aCd (aU P e) z.cells) (iD P e)) (dJ P e)) (cU P t)
def xQ(t:bQb):Bool:=match P.underlying t with |some (.int _)=>true|_=>false
def aGB(t:bQb):AV->KA->OR:=Option.rec (fun _ _=>none) (fun _ y k=>iA y (k (.i .i64 0)) none fun _ _ _ cap _=>Option.rec none (fun c=>k (.i .i64 c)) cap) (cU P t)
def aGp(z:List AV)(s:AV)(st:St)(k:KS):OR:=iA s (k (.tup []) st) (k (.tup []) st) fun id off len _ _=>bT (Nat.beq len 0) (k (.tup []) st) (bT (Nat.ble len 10000000&&jC (iK len z)) (eQ st id fun b=>nO (iK len z) off b.cells fun cs=>nJ st id ⟨cs,b.exact⟩ fun st=>k (.tup []) st) none)
def aGT(t:bQb):AV->St->KS->OR:=Option.rec (fun _ _ _=>none) (fun e=>Bool.rec (fun _ _ _=>none) (Option.rec (fun _ _ _=>none) (fun z=>aGp z.cells) (iD P e)) (dJ P e)) (cU P t)
def aCp(y:AV)(k:Nat->OR):OR:=iA y (k 0) (k 0) fun _ _ len _ _=>k len
def aB1(sz n:Nat)(d s:AV)(st:St)(k:KS):OR:=bT (Nat.beq n 0) (k (.i .i64 0) st) (bT (Nat.ble n 10000000) (iA s none none fun is os _ _ _=>iA d none none fun id od _ _ _=>eQ st is fun b=>fR (Nat.mul n sz) os b.cells fun new=>bT (jC new) (eQ st id fun B=>nO new od B.cells fun cs=>nJ st id ⟨cs,B.exact⟩ fun st=>k (.i .i64 n) st) none) none)
def aDQ(sz:Nat)(d s:AV)(st:St)(k:KS):OR:=aCp d fun ld=>aCp s fun ls=>aB1 sz (Bool.rec ld ls (Nat.ble ls ld)) d s st k
def pN(t:bQb):AV->AV->St->KS->OR:=Option.rec (fun _ _ _ _=>none) (fun e=>Bool.rec (fun _ _ _ _=>none) (aDQ (aU P e)) (dJ P e)) (cU P t)
def mmK(op:BinOp)(l:List AV)(k:KA):OR:=match l with
  | [x,y]=>rE x (fun _=>vX op .other x y fun t=>oJ t fun t=>k (Bool.rec y x t)) (fun _=>vX op .other x y fun t=>oJ t fun t=>k (Bool.rec y x t))
  |_=>none
def qT(l:List AV)(k:KA):OR:=List.rec none (fun a l _=>List.rec (k a) (fun _ _ _=>none) l) l
def wH(l:List AV)(k:AV->AV->OR):OR:=List.rec none (fun a l _=>List.rec none (fun b l _=>List.rec (k a b) (fun _ _ _=>none) l) l) l
def aGv:List bQb->AV->AV->St->KS->OR:=List.rec (fun _ _ _ _=>none) (fun t l _=>List.rec (fun _ _ _ _=>none) (fun u l _=>List.rec (Option.rec (Bool.rec (fun _ _ _ _=>none) (aEa P t) (xQ P u)) (fun _=>pP P t) (cU P u)) (fun _ _ _ _ _ _ _=>none) l) l)
def qV(b:Builtin)(j:Array bQb):List AV->St->KS->OR:=
 match b with
  | .len=>Option.rec (fun _ _ _=>none) (fun t l st k=>qT l fun y=>wA P t y fun v=>k v st) (j[0]?)
  | .cap=>Option.rec (fun _ _ _=>none) (fun t l st k=>qT l fun y=>aGB P t y fun v=>k v st) (j[0]?)
  | .clear=>Option.rec (fun _ _ _=>none) (fun t l st k=>qT l fun y=>aGT P t y st k) (j[0]?)
  | .copy=>Option.rec (fun _ _ _=>none) (fun t l st k=>wH l fun d s=>pN P t d s st k) (j[0]?)
  | .append=>fun l st k=>wH l fun s x=>aGv P j.toList s x st k
  | .max=>fun l st k=>mmK .geq l fun v=>k v st
  | .min=>fun l st k=>mmK .leq l fun v=>k v st
  |_=>fun _ _ _=>none
end
end
section
variable {r:AV×St}
def aQ.find:aQ->Nat->Option AV
 | .nil,_=>none
 | .cons t a e,n=>if t=n then some a else e.find n
 | .del t e,n=>if t=n then none else e.find n
def aQ.look:aQ->aQ->Nat->Option AV
 | .nil,V,n=>V.find n
 | .cons t a e,V,n=>if t=n then some a else e.look V n
 | .del t e,V,n=>if t=n then none else e.look V n
theorem aQ.vget_spec{k:KA}:∀(V:aQ) (n:Nat),V.vget n k=some r->∃a,V.find n=some a/\k a=some r:=by
 intro V
 induction V with
 |nil=>intro n h;cases h
 | cons t a e ih=>
  intro n h
  have h':(Bool.rec (motive:=fun _=>KA->OR) (e.vget n) (fun k=>k a) (Nat.beq t n)) k=some r:=h
  cases d:Nat.beq t n with
  |true=>rw[d]at h';exact⟨a,by simp [aQ.find,bJ0 d],h'⟩
  |false=>
   rw[d]at h'
   obtain⟨b,h1,h2⟩:=ih n h'
   exact⟨b,by simp [aQ.find,bKa d,h1],h2⟩
 | del t e ih=>
  intro n h
  have h':(Bool.rec (motive:=fun _=>KA->OR) (e.vget n) (fun _=>none) (Nat.beq t n)) k=some r:=h
  cases d:Nat.beq t n with
  |true=>rw[d]at h';cases h'
  |false=>
   rw[d]at h'
   obtain⟨b,h1,h2⟩:=ih n h'
   exact⟨b,by simp [aQ.find,bKa d,h1],h2⟩
theorem aQ.lget_spec{k:KA}{V:aQ}:∀(L:aQ) (n:Nat),L.lget V n k=some r->∃a,L.look V n=some a/\k a=some r:=by
 intro L
 induction L with
 |nil=>intro n h;exact aQ.vget_spec V n h
 | cons t a e ih=>
  intro n h
  have h':(Bool.rec (motive:=fun _=>KA->OR) (e.lget V n) (fun k=>k a) (Nat.beq t n)) k=some r:=h
  cases d:Nat.beq t n with
  |true=>rw[d]at h';exact⟨a,by simp [aQ.look,bJ0 d],h'⟩
  |false=>
   rw[d]at h'
   obtain⟨b,h1,h2⟩:=ih n h'
   exact⟨b,by simp [aQ.look,bKa d,h1],h2⟩
 | del t e ih=>
  intro n h
  have h':(Bool.rec (motive:=fun _=>KA->OR) (e.lget V n) (fun _=>none) (Nat.beq t n)) k=some r:=h
  cases d:Nat.beq t n with
  |true=>rw[d]at h';cases h'
  |false=>
   rw[d]at h'
   obtain⟨b,h1,h2⟩:=ih n h'
   exact⟨b,by simp [aQ.look,bKa d,h1],h2⟩
theorem aQ.find_rem(t:Nat):∀(V:aQ) (n:Nat) (b:AV),t≠n->(aQ.rem t V).find n=some b->V.find n=some b:=by
 intro V
 induction V with
 |nil=>intro n b _ h;cases h
 | cons A a' e ih=>
  intro n b o h
  have h':(Bool.rec (motive:=fun _=>aQ) (.cons A a' (aQ.rem t e)) e (Nat.beq A t)).find n=some b:=h
  cases d:Nat.beq A t with
  |true=>
   rw[d]at h'
   have:=bJ0 d
   subst this
   have h':e.find n=some b:=h'
   simp [aQ.find,o,h']
  |false=>
   rw[d]at h'
   have h2:(if A=n then some a' else(aQ.rem t e).find n)=some b:=h'
   clear h' h
   split at h2
   ·rename_i C;subst C;simp only[aQ.find,if_true];exact h2
   ·rename_i C;simp [aQ.find,C,ih n b o h2]
 |del A e ih=>intro n b _ h;exact h
theorem aQ.find_vset(t:Nat)(a:AV):∀(V:aQ) (n:Nat) (b:AV),(aQ.vset t a V).find n=some b->(t=n/\b=a)\/(t≠n/\V.find n=some b):=by
 intro V n b h
 have h':(if t=n then some a else(aQ.rem t V).find n)=some b:=h
 split at h'
 ·rename_i e;injection h' with h';exact .inl ⟨e,h'.symm⟩
 ·rename_i o;exact .inr ⟨o,aQ.find_rem t V n b o h'⟩
theorem uN{b:Bool}{y n:OR}(h:bT b y n=some r):(b=true/\y=some r)\/(b=false/\n=some r):=by
 cases b with
 |true=>exact .inl ⟨rfl,h⟩
 |false=>exact .inr ⟨rfl,h⟩
theorem eF{b:Bool}{y:OR}(h:bT b y none=some r):b=true/\y=some r:=by
 rcases uN h with h|⟨_,h⟩
 ·exact h
 ·cases h
theorem aBR(l:List AV):lO l=l.length:=by
 induction l with
 |nil=>rfl
 |cons a l ih=>show Nat.succ (lO l)=_;rw[ih];rfl
theorem aBI(l m:List AV):lQ l m=l++m:=by
 induction l with
 |nil=>rfl
 |cons a l ih=>show a::lQ l m=_;rw[ih];rfl
theorem aFs(n:Nat)(z:List AV):iK n z=(bIQ n z).flatten:=by
 induction n with
 |zero=>rfl
 |succ n ih=>show lQ z (iK n z)=_;rw[ih,aBI,bK9,bKR]
theorem aWu:∀(n:Nat) (l:List AV) (k:List AV->OR),aGn n l k=some r->n<=l.length/\k (l.take n)=some r:=by
 intro n
 induction n with
 |zero=>intro l k h;exact⟨bIR _,h⟩
 | succ n ih=>
  intro l k h
  cases l with
  |nil=>cases h
  |cons a l=>
   obtain⟨h1,h2⟩:=ih l (fun r=>k (a::r)) h
   exact⟨by simp;omega,h2⟩
theorem aCQ(n:Nat):∀(off:Nat) (l:List AV) (k:List AV->OR),fR n off l k=some r->off+n<=l.length/\k ((l.drop off).take n)=some r:=by
 intro off
 induction off with
 |zero=>intro l k h;obtain⟨h1,h2⟩:=aWu n l k h;exact⟨by omega,h2⟩
 |succ off ih=>
  intro l k h
  cases l with
  |nil=>cases h
  |cons a l=>obtain⟨h1,h2⟩:=ih l k h;exact⟨by simp;omega,h2⟩
theorem aNE:∀(n:Nat) (l:List AV) (k:KA),aE6 n l k=some r->∃a,l[n]? =some a/\k a=some r:=by
 intro n
 induction n with
 |zero=>intro l k h;cases l with
  |nil=>cases h
  |cons a l=>exact⟨a,rfl,h⟩
 |succ n ih=>intro l k h;cases l with
  |nil=>cases h
  |cons a l=>obtain⟨b,h1,h2⟩:=ih l k h;exact⟨b,by simpa using h1,h2⟩
theorem aVM:∀(cs l:List AV) (k:List AV->OR),aDK cs l k=some r->cs.length<=l.length/\k (cs++l.drop cs.length)=some r:=by
 intro cs
 induction cs with
 |nil=>intro l k h;exact⟨bIR _,h⟩
 |cons a cs ih=>intro l k h;cases l with
  |nil=>cases h
  |cons b l=>obtain⟨h1,h2⟩:=ih l (fun r=>k (a::r)) h;exact⟨by simp;omega,h2⟩
theorem aBm(cs:List AV):∀(off:Nat) (l:List AV) (k:List AV->OR),nO cs off l k=some r->off+cs.length<=l.length/\k (l.take off++cs++l.drop (off+cs.length))=some r:=by
 intro off
 induction off with
 |zero=>intro l k h;obtain⟨h1,h2⟩:=aVM cs l k h;exact⟨by omega,by simpa using h2⟩
 | succ off ih=>intro l k h;cases l with
  |nil=>cases h
  |cons b l=>
   obtain⟨h1,h2⟩:=ih l (fun r=>k (b::r)) h
   refine⟨by simp;omega, ?_⟩
   rw[show off+1+cs.length=(off+cs.length)+1 by omega]
   exact h2
theorem aFg{y:AV}{k:Bool->OR}(h:oJ y k=some r):∃b,y= .b b/\k b=some r:=by
 cases y<;>first|exact⟨_,rfl,h⟩|cases h
theorem oV{y:AV}{k:Nat->OR}(h:iM y k=some r):∃ki n,y= .i ki n/\k n=some r:=by
 cases y<;>first|exact⟨_,_,rfl,h⟩|cases h
theorem aId{a b:bQc}(h:Nat.beq (kQ a) (kQ b)=true):a=b:=by
 cases a<;>cases b<;>first|rfl|(exfalso;revert h;decide)
theorem aIS{ki:bQc}{y:AV}{k:Nat->OR}(h:zO ki y k=some r):∃n,y= .i ki n/\k n=some r:=by
 cases y<;>first
  | (obtain⟨h1,h2⟩:=eF h;obtain rfl:=aId h1;exact⟨_,rfl,h2⟩)
  |cases h
theorem aIO{y:AV}{k j:Nat->OR}(h:rE y k j=some r):(∃ki n,y= .i ki n/\k n=some r)\/(∃ki n,y= .m ki n/\j n=some r):=by
 cases y<;>first|exact .inl ⟨_,_,rfl,h⟩|exact .inr ⟨_,_,rfl,h⟩|cases h
theorem aYb{ki:bQc}{y:AV}{k j:Nat->OR}(h:oF ki y k j=some r):(∃n,y= .i ki n/\k n=some r)\/(∃n,y= .m ki n/\j n=some r):=by
 cases y<;>first
  | (obtain⟨h1,h2⟩:=eF h;obtain rfl:=aId h1;exact .inl ⟨_,rfl,h2⟩)
  | (obtain⟨h1,h2⟩:=eF h;obtain rfl:=aId h1;exact .inr ⟨_,rfl,h2⟩)
  |cases h
theorem xF{y:AV}{k:Id->Nat->OR}(h:lC y k=some r):∃id off,y= .ptr id off/\k id off=some r:=by
 cases y<;>first|exact⟨_,_,rfl,h⟩|cases h
theorem bBc{y:AV}{k:List AV->OR}(h:asG y k=some r):∃cs,y= .agg cs/\k cs=some r:=by
 cases y<;>first|exact⟨_,rfl,h⟩|cases h
theorem bBt{y:AV}{k:List AV->OR}(h:asT y k=some r):∃cs,y= .tup cs/\k cs=some r:=by
 cases y<;>first|exact⟨_,rfl,h⟩|cases h
theorem bBH{y:AV}{k:Nat->List AV->List AV->OR}(h:asF y k=some r):∃f a b,y= .fn (.func f) a b/\k f a b=some r:=by
 cases y with
 |fn f a b=>cases f<;>first|exact⟨_,_,_,rfl,h⟩|cases h
 |_=>cases h
theorem aMm{n:OR}{x:bQa}(h:aE8 n x=some r):x= .slice none 0 0/\n=some r:=by
 unfold aE8 at h
 split at h
 ·exact⟨rfl,h⟩
 ·cases h
theorem sJ{y:AV}{n e:OR}{k:Id->Nat->Nat->Option Nat->Nat->OR}(h:iA y n e k=some r):
  (y= .v (.slice none 0 0)/\n=some r)\/(y= .se/\e=some r)\/∃id off len cap sz,y= .sl id off len cap sz/\k id off len cap sz=some r:=by
 cases y with
 |v x=>obtain⟨h1,h2⟩:=aMm h;exact .inl ⟨by rw[h1],h2⟩
 |se=>exact .inr (.inl ⟨rfl,h⟩)
 |sl=>exact .inr (.inr ⟨_,_,_,_,_,rfl,h⟩)
 |_=>cases h
theorem CR.inv_b{Γ:aP}{x:Bool}{v:bQa}(h:CR Γ (.b x) v):v= .bool x:=by cases h;rfl
theorem CR.inv_i{Γ:aP}{k:bQc}{n:Nat}{v:bQa}(h:CR Γ (.i k n) v):v= .int k (n:Int):=by cases h;rfl
theorem CR.inv_m{Γ:aP}{k:bQc}{n:Nat}{v:bQa}(h:CR Γ (.m k n) v):v= .int k (Int.negSucc n):=by cases h;rfl
theorem CR.inv_v{Γ:aP}{x v:bQa}(h:CR Γ (.v x) v):v=x/\aGf x:=by cases h with |v h=>exact⟨rfl,h⟩
theorem CR.inv_ptr{Γ:aP}{id:Id}{off:Nat}{v:bQa}(h:CR Γ (.ptr id off) v):∃p s,Γ id=some (p,s)/\v= .pointer (some ⟨p,off,none⟩):=by cases h with |ptr h=>exact⟨_,_,h,rfl⟩
theorem CR.inv_se{Γ:aP}{v:bQa}(h:CR Γ .se v):∃a c,v= .slice (some a) 0 c:=by cases h;exact⟨_,_,rfl⟩
theorem CR.inv_sl{Γ:aP}{id:Id}{off len:Nat}{cap:Option Nat}{sz:Nat}{v:bQa}(h:CR Γ (.sl id off len cap sz) v):
  ∃p s c,Γ id=some (p,s)/\v= .slice (some ⟨p,off,none⟩) len c/\len<=c/\(∀k,cap=some k->c=k)/\off+c*sz<=s:=by
 cases h with |sl h D hc hs=>exact⟨_,_,_,h,rfl,D,hc,hs⟩
theorem CR.inv_fn{Γ:aP}{f:FuncId}{a b:List AV}{v:bQa}(h:CR Γ (.fn (.func f) a b) v):∃va vb,v= .func (.func f) (bLk va) (bLk vb)/\bU Γ a va/\bU Γ b vb:=by
 cases h with |fn w d=>exact⟨_,_,rfl,w,d⟩
theorem CR.inv_agg{Γ:aP}{cs:List AV}{v:bQa}(h:CR Γ (.agg cs) v):∃vs,v= .agg (bLk vs)/\bU Γ cs vs:=by
 cases h with |agg h=>exact⟨_,rfl,h⟩
theorem CR.inv_tup{Γ:aP}{cs:List AV}{v:bQa}(h:CR Γ (.tup cs) v):∃vs,v= .tuple (bLk vs)/\bU Γ cs vs:=by
 cases h with |tup h=>exact⟨_,rfl,h⟩
theorem CR.cells{Γ:aP}{a:AV}{v:bQa}(h:CR Γ a v):bU Γ a.cells v.cells.toList:=by
 cases h with
 |agg h=>exact h
 |v B=>
  cases v<;>first|exact .cons (.v B) .nil|exact absurd rfl (B.1 _)
 |b=>exact .cons (.b _) .nil
 |i=>exact .cons (.i _ _) .nil
 |m=>exact .cons (.m _ _) .nil
 |u=>exact .cons .u .nil
 |se a c=>exact .cons (.se a c) .nil
 |ptr h=>exact .cons (.ptr h) .nil
 |sl h h1 h2 E=>exact .cons (.sl h h1 h2 E) .nil
 |fn w d=>exact .cons (.fn w d) .nil
 |mp h=>exact .cons (.mp h) .nil
 |anyI z=>exact .cons (.anyI z) .nil
 |anyE t v=>exact .cons (.anyE t v) .nil
 |tup h=>exact .cons (.tup h) .nil
theorem CR.one{Γ:aP}{a:AV}{v:bQa}(h:CR Γ a v)(h1:a.one=true):v.oneCell'=true:=by
 cases h with
 |v B=>cases v<;>first|rfl|exact absurd rfl (B.1 _)|exact absurd rfl (B.2 _)
 |agg=>cases h1
 |tup=>cases h1
 |u=>cases h1
 |_=>rfl
theorem aCF{Γ:aP}:∀ {l:List AV} {m:List bQa},bU Γ l m->jC l=true->∀v∈m,v.oneCell'=true:=by
 intro l
 induction l with
 |nil=>intro m h _ v hv;cases h;cases hv
 | cons a l ih=>
  intro m h h1 v hv
  cases h with
  | cons h t=>
   have q:Bool.rec (motive:=fun _=>Bool) false (jC l) a.one=true:=h1
   cases w:a.one with
   |false=>rw[w]at q;cases q
   |true=>
    rw[w]at q
    rcases bJ4.1 hv with rfl|hv
    ·exact h.one w
    ·exact ih t q v hv
theorem aLr(Γ:aP){x:bQa}{a:AV}(h:aE x=some a):CR Γ a x/\a.cells=[a]:=by
 cases x with
 |bool b=>simp [aE]at h;subst h;exact⟨.b b,rfl⟩
 |int k n=>cases n with
  |ofNat n=>simp [aE]at h;subst h;exact⟨.i k n,rfl⟩
  |negSucc n=>simp [aE]at h;subst h;exact⟨.m k n,rfl⟩
 |agg cs=>simp [aE]at h
 |tuple vs=>simp [aE]at h
 |_=>simp [aE]at h;subst h;exact⟨.v ⟨(fun _ e=>by cases e),(fun _ e=>by cases e)⟩,rfl⟩
theorem aVa(Γ:aP):∀ {l:List bQa} {m:List AV},aF l=some m->bU Γ m l:=by
 intro l
 induction l with
 |nil=>intro m h;simp [aF]at h;subst h;exact .nil
 | cons x l ih=>
  intro m h
  simp only[aF]at h
  split at h
  ·rename_i a r h1 h2
   injection h with h;subst h
   exact .cons (aLr Γ h1).1 (ih h2)
  ·cases h
theorem aHp(Γ:aP){x:bQa}{a:AV}(h:aC x=some a):CR Γ a x:=by
 cases x with
 | agg cs=>
  simp only[aC]at h
  split at h
  ·rename_i l D
   injection h with h;subst h
   have:=CR.agg (aVa Γ D)
   simpa using this
  ·cases h
 | tuple vs=>
  simp only[aC]at h
  split at h
  ·rename_i hv
   injection h with h;subst h
   have:vs= #[]:=by apply bKB;simpa using hv
   rw[this];exact .u
  ·cases h
 |_=>simp only[aC]at h;exact(aLr Γ h).1
def fI(Γ:aP)(L V:aQ)(tmps:Array bQa):Prop:=∀t a,L.look V t=some a->t<tmps.size/\CR Γ a (tmps.getD t undef)
theorem fI.mono{Γ Γ':aP}(H:aP.le Γ Γ'){L V:aQ}{tmps:Array bQa}(h:fI Γ L V tmps):fI Γ' L V tmps:=fun t a G=>⟨(h t a G).1,(h t a G).2.mono H⟩
theorem fP{Γ:aP}(F:pT Γ){L V:aQ}{a:Act}(hs:fI Γ L V a.tmps){x:bQd}{k:KA}(h:cE x L V k=some r):∃y,CR Γ y (a.eval x)/\k y=some r:=by
 cases x with
 |tmp t=>
  obtain⟨y,h1,h2⟩:=aQ.lget_spec L t (h:L.lget V t k=some r)
  exact⟨y,(hs t y h1).2,h2⟩
 |const v=>
  have h':yM (aC v) L V k=some r:=h
  cases hv:aC v with
  |none=>rw[hv]at h';cases h'
  |some y=>rw[hv]at h';exact⟨y,aHp Γ hv,h'⟩
 | global g=>
  have h':yM (Bool.rec none (some (.ptr (hH g) 0)) (Nat.ble (Nat.succ g) G0)) L V k=some r:=h
  cases d:Nat.ble (Nat.succ g) G0 with
  |false=>rw[d]at h';cases h'
  |true=>
   rw[d]at h'
   obtain⟨s,e⟩:=F g (bIU d)
   exact⟨.ptr (hH g) 0,.ptr e,h'⟩
 |func f=>exact⟨_,.fn .nil .nil,h⟩
theorem aEH{Γ:aP}(F:pT Γ){L V:aQ}{a:Act}(hs:fI Γ L V a.tmps):∀ {l:List bQd} {k:List AV->OR},jG l L V k=some r->∃ys,bU Γ ys (l.map a.eval)/\k ys=some r:=by
 intro l
 induction l with
 |nil=>intro k h;exact⟨[],.nil,h⟩
 |cons x l ih=>
  intro k h
  obtain⟨y,h1,h2⟩:=fP F hs (h:cE x L V (fun a=>jG l L V fun r=>k (a::r))=some r)
  obtain⟨ys,E,I⟩:=ih h2
  exact⟨y::ys,.cons h1 E,I⟩
end
section
variable {r:AV×St}
theorem aHF(Γ:aP)(k:bQc)(n:Int):CR Γ (qQ k n) (.int k n):=by
 cases n with
 |ofNat n=>exact .i k n
 |negSucc n=>exact .m k n
theorem xN(k:bQc){n:Nat}(h:n<=fS k):k.wrap (n:Int)=(n:Int):=by
 have h':∀x:Nat,fS k=x->n<=x:=fun x e=>e ▸ h
 cases k
 ·have:=h' 127 rfl;simp [IntKind.wrap,IntKind.bits,IntKind.signed];omega
 ·have:=h' 32767 rfl;simp [IntKind.wrap,IntKind.bits,IntKind.signed];omega
 ·have:=h' 2147483647 rfl;simp [IntKind.wrap,IntKind.bits,IntKind.signed];omega
 ·have:=h' 9223372036854775807 rfl;simp [IntKind.wrap,IntKind.bits,IntKind.signed];omega
 ·have:=h' 255 rfl;simp [IntKind.wrap,IntKind.bits,IntKind.signed];omega
 ·have:=h' 65535 rfl;simp [IntKind.wrap,IntKind.bits,IntKind.signed];omega
 ·have:=h' 4294967295 rfl;simp [IntKind.wrap,IntKind.bits,IntKind.signed];omega
 ·have:=h' 18446744073709551615 rfl;simp [IntKind.wrap,IntKind.bits,IntKind.signed];omega
theorem aG1(k:bQc)(n:Int)(hs:k.signed=true):k.wrap n=if (2:Int)^(k.bits-1)<=n%2^k.bits then n%2^k.bits-2^k.bits else n%2^k.bits:=by
 unfold IntKind.wrap;simp [hs]
theorem aNR(k:bQc){n:Nat}(hs:sgn k=true)(h:n<=fS k):k.wrap (Int.negSucc n)=Int.negSucc n:=by
 have h':∀x:Nat,fS k=x->n<=x:=fun x e=>e ▸ h
 have e:Int.negSucc n= -(n:Int)-1:=by omega
 rw[e]
 cases k
 ·have:=h' 127 rfl
  refine(aG1 _ _ rfl).trans ((if_pos (show(2:Int)^7<=(-(n:Int)-1)%2^8 by omega)).trans ?_)
  show(-(n:Int)-1)%(2:Int)^8-2^8=_
  omega
 ·have:=h' 32767 rfl
  refine(aG1 _ _ rfl).trans ((if_pos (show(2:Int)^15<=(-(n:Int)-1)%2^16 by omega)).trans ?_)
  show(-(n:Int)-1)%(2:Int)^16-2^16=_
  omega
 ·have:=h' 2147483647 rfl
  refine(aG1 _ _ rfl).trans ((if_pos (show(2:Int)^31<=(-(n:Int)-1)%2^32 by omega)).trans ?_)
  show(-(n:Int)-1)%(2:Int)^32-2^32=_
  omega
 ·have:=h' 9223372036854775807 rfl
  refine(aG1 _ _ rfl).trans ((if_pos (show(2:Int)^63<=(-(n:Int)-1)%2^64 by omega)).trans ?_)
  show(-(n:Int)-1)%(2:Int)^64-2^64=_
  omega
 all_goals cases hs
theorem wX(Γ:aP)(k:bQc)(n:Nat):CR Γ (jQ k n) (.int k (k.wrap (n:Int))):=by
 unfold jQ
 cases c:Nat.ble n (fS k)with
 |true=>rw[xN k (bIU c)];exact .i k n
 |false=>exact aHF Γ k _
theorem aEB(Γ:aP)(k:bQc)(n:Nat):CR Γ (nX k n) (.int k (k.wrap (Int.negSucc n))):=by
 unfold nX
 cases hs:sgn k with
 |false=>exact aHF Γ k _
 |true=>
  cases c:Nat.ble n (fS k)with
  |true=>rw[aNR k hs (bIU c)];exact .m k n
  |false=>exact aHF Γ k _
theorem aA2(Γ:aP)(k:bQc)(a b:Nat):CR Γ (fQ k a b) (.int k (k.wrap ((a:Int)-(b:Int)))):=by
 unfold fQ
 cases c:Nat.ble b a with
 |true=>
  have j:=bIU c
  rw[show(a:Int)-(b:Int)=((a-b:Nat):Int) by omega]
  exact wX Γ k _
 | false=>
  have l:a<b:=by
   rcases bIT a b with h|h
   ·exact h
   ·rw[bK0 h]at c;cases c
  rw[show(a:Int)-(b:Int)=Int.negSucc (bLj (Nat.sub b a)) by
   rw[bJf];show _= -((bLj (b-a):Nat)+1:Int);have:bLj (b-a)=b-a-1:=rfl;omega]
  exact aEB Γ k _
theorem gE(b:Bool):pJ b= !b:=by cases b<;>rfl
theorem aD3(a b:Bool):tQ a b=(a==b):=by cases a<;>cases b<;>rfl
theorem aNU(k:bQc):aAL k=k.bits:=by cases k<;>rfl
theorem aEO(a b:Nat):aC2 a b=min a b:=by
 unfold aC2
 cases h:Nat.ble a b with
 |true=>rw[bJc (bIU h)]
 |false=>
  rcases bIT a b with h'|h'
  ·rw[bK0 (Nat.le_of_lt h')]at h;cases h
  ·rw[bM0 h']
theorem bA4(k:bQc):fS k<2^k.bits:=by cases k<;>decide
theorem aYr(k:bQc):∃n,fS k+1=2^n/\n<=k.bits:=by
 cases k
 ·exact⟨7,by decide,by decide⟩
 ·exact⟨15,by decide,by decide⟩
 ·exact⟨31,by decide,by decide⟩
 ·exact⟨63,by decide,by decide⟩
 ·exact⟨8,by decide,by decide⟩
 ·exact⟨16,by decide,by decide⟩
 ·exact⟨32,by decide,by decide⟩
 ·exact⟨64,by decide,by decide⟩
theorem wZ(k:bQc){n:Nat}(h:n<=fS k):(BitVec.ofInt k.bits (n:Int)).toNat=n:=by
 rw[BitVec.toNat_ofInt]
 have:=bA4 k
 have h2:((n:Int)%((2^k.bits:Nat):Int))=(n:Int):=Int.emod_eq_of_lt (by omega) (by exact_mod_cast (by omega:n<2^k.bits))
 rw[h2];rfl
theorem aFM{f:Bool->Bool->Bool}{op:Nat->Nat->Nat}(g:∀a b i,(op a b).testBit i=f (a.testBit i) (b.testBit i))(hf:f false false=false)(k:bQc){a b:Nat}(o:a<=fS k)(c:b<=fS k):op a b<=fS k:=by
 obtain⟨n,hn,_⟩:=aYr k
 have:op a b<2^n:=by
  apply Nat.lt_pow_two_of_testBit
  intro i d
  rw[g,Nat.testBit_lt_two_pow (bIP (by omega:a<2^n) (bJ9 (by omega) d)),Nat.testBit_lt_two_pow (bIP (by omega:b<2^n) (bJ9 (by omega) d)),hf]
 omega
theorem aWd(w a b:Nat)(x y:BitVec w)(hx:x.toNat=a)(m:y.toNat=b):(x&&& ~~~y).toNat=Nat.xor a (bKt a b):=by
 apply Nat.eq_of_testBit_eq
 intro i
 have h1:(x&&& ~~~y).toNat.testBit i=(a.testBit i&&(decide (i<w)&& !b.testBit i)):=by
  rw[←BitVec.getLsbD,BitVec.getLsbD_and,BitVec.getLsbD_not,BitVec.getLsbD,BitVec.getLsbD,hx,m]
 have h2:(Nat.xor a (bKt a b)).testBit i=(a.testBit i^^ (a.testBit i&&b.testBit i)):=by
  show(a^^^ (a&&& b)).testBit i=_
  rw[Nat.testBit_xor,Nat.testBit_and]
 rw[h1,h2]
 by_cases d:i<w
 ·cases a.testBit i<;>cases b.testBit i<;>simp [d]
 ·have:a.testBit i=false:=by
   rw[←hx];exact Nat.testBit_lt_two_pow (bIP x.isLt (bJ9 (by omega) (by omega)))
  rw[this];simp
end
section
variable {r:AV×St}{P:bQe}{Γ:aP}
theorem CR.cast{a:AV}{k:bQc}{m n:Int}(h:CR Γ a (.int k m))(e:m=n):CR Γ a (.int k n):=e ▸ h
def pQ(P:bQe)(Γ:aP)(op:BinOp)(t:bQb)(vx vy:bQa)(c:KA)(r:AV×St):Prop:=∃av v,CR Γ av v/\c av=some r/\∀w,(binOp op t vx vy).run P w= .ok v w
theorem bE6{x:AV}{vx:bQa}(hx:CR Γ x vx){f g:Nat->OR}(h:rE x f g=some r):∃k n,vx= .int k n/\((∃a:Nat,x= .i k a/\n=a/\f a=some r)\/(∃a:Nat,x= .m k a/\n=Int.negSucc a/\g a=some r)):=by
 rcases aIO h with ⟨k,a,rfl,h'⟩|⟨k,a,rfl,h'⟩
 ·exact⟨k,_,hx.inv_i,.inl ⟨a,rfl,rfl,h'⟩⟩
 ·exact⟨k,_,hx.inv_m,.inr ⟨a,rfl,rfl,h'⟩⟩
theorem aP0{k:bQc}{x:AV}{vx:bQa}(hx:CR Γ x vx){f g:Nat->OR}(h:oF k x f g=some r):∃n,vx= .int k n/\((∃a:Nat,n=a/\f a=some r)\/(∃a:Nat,n=Int.negSucc a/\g a=some r)):=by
 rcases aYb h with ⟨a,rfl,h'⟩|⟨a,rfl,h'⟩
 ·exact⟨_,hx.inv_i,.inl ⟨a,rfl,h'⟩⟩
 ·exact⟨_,hx.inv_m,.inr ⟨a,rfl,h'⟩⟩
def aAM(k:bQc)(x:AV):Prop:=(∃n,x= .i k n)\/(∃n,x= .m k n)
theorem aCV{k:bQc}{x y:AV}{vx vy:bQa}(d:aAM k x)(hx:CR Γ x vx)(j:CR Γ y vy){f1 f2 g1 g2:Nat->Nat->OR}(h:rE x (fun a=>oF k y (f1 a) (f2 a)) (fun a=>oF k y (g1 a) (g2 a))=some r):
  ∃m n:Int,vx= .int k m/\vy= .int k n/\((∃a b:Nat,m=a/\n=b/\f1 a b=some r)\/(∃a b:Nat,m=a/\n=Int.negSucc b/\f2 a b=some r)\/(∃a b:Nat,m=Int.negSucc a/\n=b/\g1 a b=some r)\/(∃a b:Nat,m=Int.negSucc a/\n=Int.negSucc b/\g2 a b=some r)):=by
 obtain⟨p,m,h1,h2⟩:=bE6 hx h
 rcases h2 with ⟨a,C,A,F⟩|⟨a,C,A,F⟩
 ·obtain rfl:p=k:=by rcases d with ⟨n,e⟩|⟨n,e⟩<;>rw[C]at e<;>injection e
  obtain⟨n,D,s⟩:=aP0 j F
  rcases s with ⟨b,s,B⟩|⟨b,s,B⟩
  ·exact⟨m,n,h1,D,.inl ⟨a,b,A,s,B⟩⟩
  ·exact⟨m,n,h1,D,.inr (.inl ⟨a,b,A,s,B⟩)⟩
 ·obtain rfl:p=k:=by rcases d with ⟨n,e⟩|⟨n,e⟩<;>rw[C]at e<;>injection e
  obtain⟨n,D,s⟩:=aP0 j F
  rcases s with ⟨b,s,B⟩|⟨b,s,B⟩
  ·exact⟨m,n,h1,D,.inr (.inr (.inl ⟨a,b,A,s,B⟩))⟩
  ·exact⟨m,n,h1,D,.inr (.inr (.inr ⟨a,b,A,s,B⟩))⟩
theorem qG(k:bQc)(t:bQb)(m n:Int)(w:bQ9):
  (binOp .add t (.int k m) (.int k n)).run P w= .ok (.int k (k.wrap (m+n))) w/\(binOp .sub t (.int k m) (.int k n)).run P w= .ok (.int k (k.wrap (m-n))) w/\(binOp .mul t (.int k m) (.int k n)).run P w= .ok (.int k (k.wrap (m*n))) w:=by
 simp [binOp,Op.intArith]
theorem aBQ(k:bQc)(t:bQb)(m n:Int)(w:bQ9):
  (binOp .eql t (.int k m) (.int k n)).run P w= .ok (.bool (m==n)) w/\(binOp .neq t (.int k m) (.int k n)).run P w= .ok (.bool (m != n)) w/\(binOp .lss t (.int k m) (.int k n)).run P w= .ok (.bool (decide (m<n))) w/\
  (binOp .leq t (.int k m) (.int k n)).run P w= .ok (.bool (decide (m<=n))) w/\(binOp .gtr t (.int k m) (.int k n)).run P w= .ok (.bool (decide (m>n))) w/\(binOp .geq t (.int k m) (.int k n)).run P w= .ok (.bool (decide (m≥n))) w:=by
 simp [binOp,Op.intCmp]
section
variable {k:bQc}{x y:AV}{vx vy:bQa}(d:aAM k x)(hx:CR Γ x vx)(j:CR Γ y vy){c:KA}(t:bQb)
include d hx j
theorem aYJ(h:aGI k x y c=some r):pQ P Γ .add t vx vy c r:=by
 obtain⟨m,n,rfl,rfl,h⟩:=aCV d hx j h
 rcases h with ⟨a,b,rfl,rfl,h⟩|⟨a,b,rfl,rfl,h⟩|⟨a,b,rfl,rfl,h⟩|⟨a,b,rfl,rfl,h⟩
 ·exact⟨_,_,(wX Γ k _),h,fun w=>(qG k t _ _ w).1⟩
 ·exact⟨_,_,(aA2 Γ k _ _).cast (n:=k.wrap ((a:Int)+Int.negSucc b)) (congrArg _ (by omega)),h,fun w=>(qG k t _ _ w).1⟩
 ·exact⟨_,_,(aA2 Γ k _ _).cast (n:=k.wrap (Int.negSucc a+(b:Int))) (congrArg _ (by omega)),h,fun w=>(qG k t _ _ w).1⟩
 ·exact⟨_,_,(aEB Γ k _),h,fun w=>(qG k t _ _ w).1⟩
theorem aXe(h:aGA k x y c=some r):pQ P Γ .sub t vx vy c r:=by
 obtain⟨m,n,rfl,rfl,h⟩:=aCV d hx j h
 rcases h with ⟨a,b,rfl,rfl,h⟩|⟨a,b,rfl,rfl,h⟩|⟨a,b,rfl,rfl,h⟩|⟨a,b,rfl,rfl,h⟩
 ·exact⟨_,_,(aA2 Γ k _ _),h,fun w=>(qG k t _ _ w).2.1⟩
 ·exact⟨_,_,(wX Γ k _).cast (n:=k.wrap ((a:Int)-Int.negSucc b)) (congrArg _ (by show((a+(b+1):Nat):Int)=_;omega)),h,fun w=>(qG k t _ _ w).2.1⟩
 ·exact⟨_,_,(aEB Γ k _).cast (n:=k.wrap (Int.negSucc a-(b:Int))) (congrArg _ (by show Int.negSucc (a+b)=_;omega)),h,fun w=>(qG k t _ _ w).2.1⟩
 ·exact⟨_,_,(aA2 Γ k _ _).cast (n:=k.wrap (Int.negSucc a-Int.negSucc b)) (congrArg _ (by omega)),h,fun w=>(qG k t _ _ w).2.1⟩
theorem aXr(h:aGF k x y c=some r):pQ P Γ .mul t vx vy c r:=by
 obtain⟨m,n,rfl,rfl,h⟩:=aCV d hx j h
 rcases h with ⟨a,b,rfl,rfl,h⟩|⟨a,b,rfl,rfl,h⟩|⟨a,b,rfl,rfl,h⟩|⟨a,b,rfl,rfl,h⟩
 ·exact⟨_,_,(wX Γ k _),h,fun w=>(qG k t _ _ w).2.2⟩
 ·exact⟨_,_,(aA2 Γ k _ _).cast (n:=k.wrap ((a:Int)*Int.negSucc b)) (congrArg _ (by rw[bJf];show((0:Nat):Int)-((a*(b+1):Nat):Int)=_;rw[bKb,Int.mul_neg];simp)),h,fun w=>(qG k t _ _ w).2.2⟩
 ·exact⟨_,_,(aA2 Γ k _ _).cast (n:=k.wrap (Int.negSucc a*(b:Int))) (congrArg _ (by rw[bJf];show((0:Nat):Int)-(((a+1)*b:Nat):Int)=_;rw[bKb,Int.neg_mul];simp)),h,fun w=>(qG k t _ _ w).2.2⟩
 ·exact⟨_,_,(wX Γ k _).cast (n:=k.wrap (Int.negSucc a*Int.negSucc b)) (congrArg _ (by rw[bJf,bJf];show(((a+1)*(b+1):Nat):Int)=_;rw[bKb,Int.neg_mul_neg];simp)),h,fun w=>(qG k t _ _ w).2.2⟩
theorem aBl{f g:Nat->Nat->Bool}{pm mp:Bool}{op:BinOp}{q:Int->Int->Bool}(hq:∀(m n:Int) w,(binOp op t (.int k m) (.int k n)).run P w= .ok (.bool (q m n)) w)
  (h1:∀a b:Nat,q a b=f a b) (h2:∀a b:Nat,q a (Int.negSucc b)=pm) (C:∀a b:Nat,q (Int.negSucc a) b=mp) (A:∀a b:Nat,q (Int.negSucc a) (Int.negSucc b)=g a b)
  (h:tO f g pm mp k x y c=some r):pQ P Γ op t vx vy c r:=by
 obtain⟨m,n,rfl,rfl,h⟩:=aCV d hx j h
 rcases h with ⟨a,b,rfl,rfl,h⟩|⟨a,b,rfl,rfl,h⟩|⟨a,b,rfl,rfl,h⟩|⟨a,b,rfl,rfl,h⟩
 ·exact⟨_,_,.b _,h,fun w=>by rw[hq,h1]⟩
 ·exact⟨_,_,.b _,h,fun w=>by rw[hq,h2]⟩
 ·exact⟨_,_,.b _,h,fun w=>by rw[hq,C]⟩
 ·exact⟨_,_,.b _,h,fun w=>by rw[hq,A]⟩
theorem aFe{f:Nat->Nat->Nat}{op:BinOp}(hq:∀(a b:Nat) w,a<=fS k->b<=fS k->(binOp op t (.int k a) (.int k b)).run P w= .ok (.int k (f a b:Nat)) w)(h:nnK f k x y c=some r):pQ P Γ op t vx vy c r:=by
 obtain⟨p,a,rfl,g⟩:=oV h
 clear h
 obtain⟨b,rfl,h⟩:=aIS g
 clear g
 obtain rfl:p=k:=by rcases d with ⟨n,e⟩|⟨n,e⟩<;>injection e
 obtain⟨h1,h⟩:=eF h
 obtain⟨h2,h⟩:=eF h
 rw[hx.inv_i,j.inv_i]
 exact⟨_,_,.i p _,h,fun w=>hq a b w (bIU h1) (bIU h2)⟩
theorem aNL{f:Nat->Nat->Nat}{op:BinOp}(hq:∀(a b:Nat) w,a<=fS k->b≠0->(binOp op t (.int k a) (.int k b)).run P w= .ok (.int k (f a b:Nat)) w)(h:qrK f k x y c=some r):pQ P Γ op t vx vy c r:=by
 obtain⟨p,a,rfl,g⟩:=oV h
 clear h
 obtain⟨b,rfl,h⟩:=aIS g
 clear g
 obtain rfl:p=k:=by rcases d with ⟨n,e⟩|⟨n,e⟩<;>injection e
 rcases uN h with ⟨_,h⟩|⟨h0,h⟩
 ·cases h
 obtain⟨h1,h⟩:=eF h
 rw[hx.inv_i,j.inv_i]
 exact⟨_,_,.i p _,h,fun w=>hq a b w (bIU h1) (bKa h0)⟩
theorem aXK(h:aTB k x y c=some r):pQ P Γ .shl t vx vy c r:=by
 obtain⟨p,a,rfl,g⟩:=oV h
 clear h
 obtain⟨k2,b,rfl,h⟩:=oV g
 clear g
 obtain rfl:p=k:=by rcases d with ⟨n,e⟩|⟨n,e⟩<;>injection e
 rw[hx.inv_i,j.inv_i]
 refine⟨_,_,(wX Γ p _),h,fun w=> ?_⟩
 simp only[binOp,Op.shift]
 rw[Sem.run_ite,if_neg (by omega),aEO,aNU]
 simp
theorem aXF(h:aU2 k x y c=some r):pQ P Γ .shr t vx vy c r:=by
 obtain⟨p,a,rfl,g⟩:=oV h
 clear h
 obtain⟨k2,b,rfl,h⟩:=oV g
 clear g
 obtain rfl:p=k:=by rcases d with ⟨n,e⟩|⟨n,e⟩<;>injection e
 rw[hx.inv_i,j.inv_i]
 refine⟨_,_,.i p _,h,fun w=> ?_⟩
 simp only[binOp,Op.shift]
 rw[Sem.run_ite,if_neg (by omega),aEO,aNU]
 have e:(a:Int).fdiv (2^min b p.bits)=((Nat.div a (Nat.pow 2 (min b p.bits)):Nat):Int):=by
  rw[show((2:Int)^min b p.bits)=((2^min b p.bits:Nat):Int) by simp,Int.fdiv_eq_ediv_of_nonneg _ (Int.natCast_nonneg _)]
  rfl
 simp [e]
end
theorem aEV(k:bQc)(t:bQb)(a b:Nat)(w:bQ9)(o:a<=fS k)(l:b<=fS k):
  (binOp .and t (.int k a) (.int k b)).run P w= .ok (.int k (bKt a b:Nat)) w/\(binOp .or t (.int k a) (.int k b)).run P w= .ok (.int k (Nat.lor a b:Nat)) w/\(binOp .xor t (.int k a) (.int k b)).run P w= .ok (.int k (Nat.xor a b:Nat)) w/\
  (binOp .andNot t (.int k a) (.int k b)).run P w= .ok (.int k (Nat.xor a (bKt a b):Nat)) w:=by
 have G:(BitVec.ofInt k.bits a&&& BitVec.ofInt k.bits b).toNat=bKt a b:=by rw[BitVec.toNat_and,wZ k o,wZ k l];rfl
 have H:(BitVec.ofInt k.bits a|||BitVec.ofInt k.bits b).toNat=Nat.lor a b:=by rw[BitVec.toNat_or,wZ k o,wZ k l];rfl
 have J:(BitVec.ofInt k.bits a^^^ BitVec.ofInt k.bits b).toNat=Nat.xor a b:=by rw[BitVec.toNat_xor,wZ k o,wZ k l];rfl
 have K:=aWd k.bits a b _ _ (wZ k o) (wZ k l)
 have I:=aFM (f:=fun a b=>a&&b) (op:=bKt) (fun a b i=>Nat.testBit_and a b i) rfl k o l
 have l2:=aFM (f:=fun a b=>a||b) (op:=Nat.lor) (fun a b i=>bLB a b i) rfl k o l
 have L:=aFM (f:=fun a b=>a^^ b) (op:=Nat.xor) (fun a b i=>Nat.testBit_xor a b i) rfl k o l
 have M:=aFM (f:=fun a b=>a^^ b) (op:=Nat.xor) (fun a b i=>Nat.testBit_xor a b i) rfl k o I
 refine⟨?_, ?_, ?_, ?_⟩
 ·simp only[binOp,ne_eq,not_true_eq_false,if_false,Op.intBits];rw[G,xN k I];rfl
 ·simp only[binOp,ne_eq,not_true_eq_false,if_false,Op.intBits];rw[H,xN k l2];rfl
 ·simp only[binOp,ne_eq,not_true_eq_false,if_false,Op.intBits];rw[J,xN k L];rfl
 ·simp only[binOp,ne_eq,not_true_eq_false,if_false,Op.intBits];rw[K,xN k M];rfl
theorem aQk(k:bQc)(t:bQb)(a b:Nat)(w:bQ9)(o:a<=fS k)(l:b≠0):
  (binOp .quo t (.int k a) (.int k b)).run P w= .ok (.int k (Nat.div a b:Nat)) w/\(binOp .rem t (.int k a) (.int k b)).run P w= .ok (.int k (Nat.mod a b:Nat)) w:=by
 have E:¬((b:Int)=0):=by omega
 have G:(a:Int).tdiv (b:Int)=((a/b:Nat):Int):=rfl
 have H:(a:Int).tmod (b:Int)=((a%b:Nat):Int):=rfl
 refine⟨?_, ?_⟩
 ·simp only[binOp,ne_eq,not_true_eq_false,if_false,Op.intDiv]
  rw[if_neg E,G,xN k (bIO (Nat.div_le_self _ _) o)];rfl
 ·simp only[binOp,ne_eq,not_true_eq_false,if_false,Op.intDiv]
  rw[if_neg E,H];rfl
theorem aPH(a b:Nat):((a:Int)==(b:Int))=Nat.beq a b:=by
 rw[bJr];simp;omega
theorem aBB(a b:Nat):decide ((a:Int)<=(b:Int))=Nat.ble a b:=by
 rw[bJr];simp
theorem aP8{k:bQc}{x y:AV}{vx vy:bQa}(d:aAM k x)(hx:CR Γ x vx)(j:CR Γ y vy){c:KA}(t:bQb)(op:BinOp)(h:yX op k x y c=some r):pQ P Γ op t vx vy c r:=by
 have l:∀a b:Nat,(Int.negSucc a==Int.negSucc b)=Nat.beq a b:=fun a b=>by rw[bJr];simp
 have u:∀a b:Nat,decide (Int.negSucc a<=Int.negSucc b)=Nat.ble b a:=fun a b=>by rw[bJr];simp;omega
 have z:∀m n:Int,decide (m<n)= !decide (n<=m):=fun m n=>by rw[bJr];simp
 cases op with
 |add=>exact aYJ d hx j t h
 |sub=>exact aXe d hx j t h
 |mul=>exact aXr d hx j t h
 |quo=>exact aNL d hx j t (fun a b w o l=>(aQk k t a b w o l).1) h
 |rem=>exact aNL d hx j t (fun a b w o l=>(aQk k t a b w o l).2) h
 |and=>exact aFe d hx j t (fun a b w o l=>(aEV k t a b w o l).1) h
 |or=>exact aFe d hx j t (fun a b w o l=>(aEV k t a b w o l).2.1) h
 |xor=>exact aFe d hx j t (fun a b w o l=>(aEV k t a b w o l).2.2.1) h
 |andNot=>exact aFe d hx j t (fun a b w o l=>(aEV k t a b w o l).2.2.2) h
 |shl=>exact aXK d hx j t h
 |shr=>exact aXF d hx j t h
 |eql=>exact aBl d hx j t (q:=fun m n=>m==n) (fun m n w=>(aBQ k t m n w).1) aPH (fun a b=>by simp) (fun a b=>by simp) l h
 |neq=>exact aBl d hx j t (q:=fun m n=>m != n) (fun m n w=>(aBQ k t m n w).2.1) (fun a b=>by rw[gE,←aPH];rfl) (fun a b=>by simp) (fun a b=>by simp) (fun a b=>by rw[gE,←l];rfl) h
 |lss=>exact aBl d hx j t (q:=fun m n=>decide (m<n)) (fun m n w=>(aBQ k t m n w).2.2.1) (fun a b=>by rw[gE,z,aBB]) (fun a b=>by simp;omega) (fun a b=>by simp;omega) (fun a b=>by rw[gE,z,u]) h
 |leq=>exact aBl d hx j t (q:=fun m n=>decide (m<=n)) (fun m n w=>(aBQ k t m n w).2.2.2.1) aBB (fun a b=>by simp;omega) (fun a b=>by simp;omega) u h
 |gtr=>exact aBl d hx j t (q:=fun m n=>decide (m>n)) (fun m n w=>(aBQ k t m n w).2.2.2.2.1) (fun a b=>by rw[gE];show decide ((b:Int)<a)=_;rw[z,aBB]) (fun a b=>by simp;omega) (fun a b=>by simp;omega) (fun a b=>by rw[gE];show decide (Int.negSucc b<Int.negSucc a)=_;rw[z,u]) h
 |geq=>exact aBl d hx j t (q:=fun m n=>decide (m≥n)) (fun m n w=>(aBQ k t m n w).2.2.2.2.2) (fun a b=>aBB b a) (fun a b=>by simp;omega) (fun a b=>by simp;omega) (fun a b=>u b a) h
end
section
variable {r:AV×St}{P:bQe}{Γ:aP}
def aEc:bQa->Bool
 | .nilIface=>false
 | .agg _=>false
 |_=>true
theorem aVw(op:BinOp)(t:bQb)(x y:bQd)(a b:bQa)(w:bQ9)(h:aEc a=true):(eqGuard op t x y a b).run P w= .ok () w:=by
 unfold eqGuard
 cases a<;>first
  | (cases op<;>rfl)
  | (simp [aEc]at h)
theorem aIP{op:BinOp}{b:Bool}{k:KA}(h:pY op b k=some r):(op= .eql/\k (.b b)=some r)\/(op= .neq/\k (.b (!b))=some r):=by
 cases op<;>first
  |exact .inl ⟨rfl,h⟩
  |exact .inr ⟨rfl,by rw[←gE];exact h⟩
  |cases h
theorem aXg{n:OR}{x:bQa}(h:aGV n x=some r):x= .pointer none/\n=some r:=by
 unfold aGV at h
 split at h
 ·exact⟨rfl,h⟩
 ·cases h
theorem aWK{n:OR}{x:bQa}(h:aGL n x=some r):x= .nilFunc/\n=some r:=by
 unfold aGL at h
 split at h
 ·exact⟨rfl,h⟩
 ·cases h
theorem aMi{x:AV}{vx:bQa}(hx:CR Γ x vx){k:Bool->OR}(h:aGN x k=some r):∃a,vx= .pointer a/\k a.isNone=some r:=by
 cases x with
 |v x=>
  obtain⟨rfl,h'⟩:=aXg (h:aGV (k true) x=some r)
  obtain⟨rfl,_⟩:=hx.inv_v;exact⟨none,rfl,h'⟩
 |ptr i o=>obtain⟨p,s,_,rfl⟩:=hx.inv_ptr;exact⟨some _,rfl,h⟩
 |_=>cases h
theorem aML{x:AV}{vx:bQa}(hx:CR Γ x vx){k:Bool->OR}(h:aGS x k=some r):∃a n c,vx= .slice a n c/\k a.isNone=some r:=by
 cases x with
 |v x=>
  obtain⟨rfl,h'⟩:=aMm (h:aE8 (k true) x=some r)
  obtain⟨rfl,_⟩:=hx.inv_v;exact⟨none,0,0,rfl,h'⟩
 |se=>obtain⟨a,c,rfl⟩:=hx.inv_se;exact⟨some a,0,c,rfl,h⟩
 |sl=>obtain⟨p,s,c,_,rfl,_⟩:=hx.inv_sl;exact⟨some _,_,_,rfl,h⟩
 |_=>cases h
def rW:bQa->Option Bool
 | .nilFunc=>some true
 | .func .. =>some false
 |_=>none
theorem aMh{x:AV}{vx:bQa}(hx:CR Γ x vx){k:Bool->OR}(h:aGG x k=some r):∃b,rW vx=some b/\k b=some r:=by
 cases x with
 |v x=>
  obtain⟨rfl,h'⟩:=aWK (h:aGL (k true) x=some r)
  obtain⟨rfl,_⟩:=hx.inv_v;exact⟨true,rfl,h'⟩
 |fn f a b=>cases f<;>first|(obtain⟨va,vb,rfl,_⟩:=hx.inv_fn;exact⟨false,rfl,h⟩)|cases h
 |_=>cases h
theorem aIQ{op:BinOp}{a b:Bool}{k:KA}(h:Bool.rec (motive:=fun _=>OR) (Bool.rec (motive:=fun _=>OR) none (pY op false k) b) (pY op b k) a=some r):
  (a=true\/b=true)/\pY op (a&&b) k=some r:=by
 cases a with
 |true=>exact⟨.inl rfl,by simpa using h⟩
 |false=>cases b with
  |true=>exact⟨.inr rfl,h⟩
  |false=>cases h
theorem aEK{op:BinOp}{t:bQb}{vx vy:bQa}{b:Bool}(F:op= .eql\/op= .neq)(h1:∀w:bQ9,(binOp .eql t vx vy).run P w=((Op.equal t vx vy).run P w).andThen fun b w=> .ok (.bool b) w)(h2:∀w:bQ9,(binOp .neq t vx vy).run P w=((Op.equal t vx vy).run P w).andThen fun b w=> .ok (.bool (!b)) w)
  (B:∀w:bQ9,(Op.equal t vx vy).run P w= .ok b w) {k:KA} (h:pY op b k=some r):pQ P Γ op t vx vy k r:=by
 rcases aIP h with ⟨rfl,g⟩|⟨rfl,g⟩
 ·exact⟨_,.bool b,.b b,g,fun w=>by rw[h1,B];rfl⟩
 ·exact⟨_,.bool (!b),.b _,g,fun w=>by rw[h2,B];rfl⟩
theorem aG8{op:BinOp}{b:Bool}{k:KA}(h:pY op b k=some r):op= .eql\/op= .neq:=by
 rcases aIP h with ⟨h,_⟩|⟨h,_⟩
 ·exact .inl h
 ·exact .inr h
theorem fC{t:bQb}{d:TypeDesc}(h:P.underlying t=some d)(w:bQ9):(underlying t).run P w= .ok d w:=run_underlying h w
theorem bEi{t:bQb}(h:fM P t= .ptr):∃e,P.underlying t=some (.pointer e):=by unfold fM at h;split at h<;>first|exact⟨_,by assumption⟩|cases h
theorem bC3{t:bQb}(h:fM P t= .sli):∃e,P.underlying t=some (.slice e):=by unfold fM at h;split at h<;>first|exact⟨_,by assumption⟩|cases h
theorem bCw{t:bQb}(h:fM P t= .fun_):∃a b c,P.underlying t=some (.func a b c):=by unfold fM at h;split at h<;>first|exact⟨_,_,_,by assumption⟩|cases h
theorem bCn{t:bQb}(h:fM P t= .boo):P.underlying t=some .bool:=by unfold fM at h;split at h<;>first|assumption|cases h
theorem aVE(d:Nat){t e:bQb}(l:P.underlying t=some (.pointer e))(a b:Option bQh)(h:a.isNone=true\/b.isNone=true)(w:bQ9):(Op.equalIn (d+1) t (.pointer a) (.pointer b)).run P w= .ok (a.isNone&&b.isNone) w:=by
 simp only[Op.equalIn,Sem.run_bind,fC l,Result.andThen_ok]
 cases a<;>cases b<;>simp_all
theorem aVF(d:Nat){t e:bQb}(l:P.underlying t=some (.slice e))(a b:Option bQh)(n c n' c':Nat)(h:a.isNone=true\/b.isNone=true)(w:bQ9):(Op.equalIn (d+1) t (.slice a n c) (.slice b n' c')).run P w= .ok (a.isNone&&b.isNone) w:=by
 simp only[Op.equalIn,Sem.run_bind,fC l,Result.andThen_ok]
 cases a<;>cases b<;>simp_all
theorem aVb(d:Nat){t:bQb}{C D:Array bQb}{E:Bool}(l:P.underlying t=some (.func C D E)){x y:bQa}{a b:Bool}(hx:rW x=some a)(j:rW y=some b)(h:a=true\/b=true)(w:bQ9):(Op.equalIn (d+1) t x y).run P w= .ok (a&&b) w:=by
 simp only[Op.equalIn,Sem.run_bind,fC l,Result.andThen_ok]
 cases x<;>first|(simp [rW]at hx;done)|(cases y<;>first|(simp [rW]at j;done)|(simp [rW]at hx j;subst hx j;simp_all))
theorem aV5(d:Nat){t:bQb}(l:P.underlying t=some .bool)(a b:Bool)(w:bQ9):(Op.equalIn (d+1) t (.bool a) (.bool b)).run P w= .ok (a==b) w:=by
 simp only[Op.equalIn,Sem.run_bind,fC l,Result.andThen_ok]
 rfl
theorem aCH{op:BinOp}{t:bQb}{x y:AV}{vx vy:bQa}(hx:CR Γ x vx)(j:CR Γ y vy){k:KA}(h:aC7 op (fM P t) x y k=some r):pQ P Γ op t vx vy k r/\aEc vx=true:=by
 cases q:fM P t with
 |boo=>rw[q]at h;cases h
 |other=>rw[q]at h;cases h
 |ptr=>
  rw[q]at h
  obtain⟨e,l⟩:=bEi q
  obtain⟨a,rfl,h⟩:=aMi hx (h:aGN x (fun a=>aGN y fun b=>_)=some r)
  obtain⟨b,rfl,h⟩:=aMi j h
  obtain⟨u,h⟩:=aIQ h
  exact⟨aEK (aG8 h) (fun w=>by simp [binOp]) (fun w=>by simp [binOp]) (fun w=>aVE 9999 l a b u w) h,rfl⟩
 |sli=>
  rw[q]at h
  obtain⟨e,l⟩:=bC3 q
  obtain⟨a,n,c,rfl,h⟩:=aML hx (h:aGS x (fun a=>aGS y fun b=>_)=some r)
  obtain⟨b,n',c',rfl,h⟩:=aML j h
  obtain⟨u,h⟩:=aIQ h
  exact⟨aEK (aG8 h) (fun w=>by simp [binOp]) (fun w=>by simp [binOp]) (fun w=>aVF 9999 l a b n c n' c' u w) h,rfl⟩
 |fun_=>
  rw[q]at h
  obtain⟨C,D,E,l⟩:=bCw q
  obtain⟨a,z,h⟩:=aMh hx (h:aGG x (fun a=>aGG y fun b=>_)=some r)
  obtain⟨b,A,h⟩:=aMh j h
  obtain⟨u,h⟩:=aIQ h
  have hf:aEc vx=true:=by cases vx<;>first|rfl|(simp [rW]at z)
  refine⟨aEK (aG8 h) (fun w=> ?_) (fun w=> ?_) (fun w=> ?_) h,hf⟩
  ·cases vx<;>first|(simp [rW]at z;done)|(cases vy<;>first|(simp [rW]at A;done)|(simp [binOp];done))
  ·cases vx<;>first|(simp [rW]at z;done)|(cases vy<;>first|(simp [rW]at A;done)|(simp [binOp];done))
  ·exact aVb 9999 l z A u w
theorem aWD{op:BinOp}{t:bQb}{a b:ByteArray}{k:KA}(h:aKd op a b k=some r):pQ P Γ op t (.string a) (.string b) k r:=by
 unfold aKd at h
 split at h
 ·exact⟨_,_,.b _,h,fun w=>by simp [binOp,Op.stringOp]⟩
 ·exact⟨_,_,.b _,h,fun w=>by simp [binOp,Op.stringOp]⟩
 ·split at h
  ·rename_i G
   refine⟨_,.string (a++b),.v ⟨(fun _ e=>by cases e),(fun _ e=>by cases e)⟩,h,fun w=> ?_⟩
   have:¬(((a.size+b.size:Nat):Int)>IntKind.i64.max):=by
    have e:IntKind.i64.max=9223372036854775807:=by decide
    rw[e];omega
   simp only[binOp,Op.stringOp]
   rw[Sem.run_ite,if_neg this];rfl
  ·cases h
 ·cases h
theorem aXt{op:BinOp}{t:bQb}{x y:AV}{vx vy:bQa}(hx:CR Γ x vx)(j:CR Γ y vy){k:KA}(h:vX op (fM P t) x y k=some r):pQ P Γ op t vx vy k r/\aEc vx=true:=by
 cases x with
 | b a=>
  have h:aTe op (fM P t) a y k=some r:=h
  cases q:fM P t with
  |boo=>
   rw[q]at h
   have l:=bCn q
   obtain⟨b,rfl,h'⟩:=aFg (h:oJ y (fun b=>pY op (tQ a b) k)=some r)
   rw[hx.inv_b,j.inv_b]
   rw[aD3]at h'
   exact⟨aEK (aG8 h') (fun w=>by simp [binOp]) (fun w=>by simp [binOp]) (fun w=>aV5 9999 l a b w) h',rfl⟩
  |_=>rw[q]at h;cases h
 |i ki a=>exact⟨aP8 (.inl ⟨a,rfl⟩) hx j t op h,by rw[hx.inv_i];rfl⟩
 |m ki a=>exact⟨aP8 (.inr ⟨a,rfl⟩) hx j t op h,by rw[hx.inv_m];rfl⟩
 | v x=>
  have h:vK op (fM P t) x y k=some r:=h
  unfold vK at h
  split at h
  ·obtain⟨rfl,_⟩:=hx.inv_v
   obtain⟨rfl,_⟩:=j.inv_v
   exact⟨aWD h,rfl⟩
  ·exact aCH hx j h
 |se=>exact aCH hx j h
 |ptr i o=>exact aCH hx j h
 |sl a b c d e=>exact aCH hx j h
 |fn a b c=>exact aCH hx j h
 |_=>cases h
theorem bAg{op:UnOp}{x:AV}{vx:bQa}(hx:CR Γ x vx){k:KA}(h:unK op x k=some r):∃av v,CR Γ av v/\k av=some r/\∀w,(Op.unary op vx).run P w= .ok v w:=by
 cases op with
 |neg=>
  cases x with
  |i ki n=>rw[hx.inv_i];exact⟨_,_,(aA2 Γ ki 0 n),h,fun w=>by simp [Op.unary,Op.intArith]⟩
  |m ki n=>rw[hx.inv_m];exact⟨_,_,(wX Γ ki (n+1)).cast (n:=ki.wrap (0-Int.negSucc n)) (congrArg _ (by omega)),h,fun w=>by simp [Op.unary,Op.intArith]⟩
  |_=>cases h
 |not=>
  obtain⟨b,rfl,h'⟩:=aFg (h:oJ x (fun b=>k (.b (pJ b)))=some r)
  rw[hx.inv_b]
  exact⟨_,.bool (!b),by rw[←gE];exact .b _,h',fun w=>rfl⟩
 |_=>cases h
end
section
variable {r:AV×St}{P:bQe}{Γ:aP}
theorem aIj{st:St}{id:Id}{b:Option cH}(F:Id):Tr.find F (Tr.put b id st.heap)=if F=id then b else Tr.find F st.heap:=by
 split
 ·rename_i h;rw[h];exact Tr.put_same _ _ _
 ·rename_i h;exact Tr.put_other _ _ _ _ (fun e=>h e.symm)
structure aDw(w w':bQ9)(p:Nat)(cs:Array bQa)(el:bQb):Prop where
 here:w'.heap[p]? =some (.cells cs el (0,0))
 far:∀q,q≠p->w'.heap[q]? =w.heap[q]?
 size:w'.heap.size=w.heap.size
 os:w'.os=w.os
 tape:w'.tape=w.tape
 output:w'.output=w.output
structure bDN(w w':bQ9)(p:Nat)(ob:Obj):Prop where
 here:w'.heap[p]? =some ob
 far:∀q,q≠p->w'.heap[q]? =w.heap[q]?
 size:w'.heap.size=w.heap.size
 os:w'.os=w.os
 tape:w'.tape=w.tape
 output:w'.output=w.output
theorem dF.putO{st:St}{w w':bQ9}(h:dL st Γ w){id:Id}{b b':cH}(m:st.look id b)(i:st.ro<=id.nat){p s:Nat}(n:Γ id=some (p,s)){ob:Obj}(g:bDN w w' p ob)(L:BR Γ b' s (some ob)):
  dF st Γ w ⟨Tr.put (some b') id st.heap,st.nxt,st.ro,st.hid⟩ Γ w':=by
 have a:∀ {x:Id} {c:cH},St.look ⟨Tr.put (some b') id st.heap,st.nxt,st.ro,st.hid⟩ x c->(x=id/\c=b')\/(x≠id/\st.look x c):=fun {x c} hx=>by
  obtain⟨h1,h2⟩:=hx
  have f:Tr.find x (Tr.put (some b') id st.heap)=some c:=h2
  rw[aIj]at f
  split at f
  ·rename_i e;injection f with f;exact .inl ⟨e,f.symm⟩
  ·rename_i e;exact .inr ⟨e,h1,f⟩
 have G:id.nat<st.nxt.nat:=by
  rcases bIT id.nat st.nxt.nat with h1|h1
  ·exact h1
  ·have:=h.top id h1;rw[m.2]at this;cases this
 refine⟨⟨?_, ?_,h.fresh,fun x hx=>(Tr.put_other _ _ _ _ (fun e=>by rw[←e]at hx;have t:st.nxt.nat<=id.nat:=hx;omega)).trans (h.top x hx),h.glob,h.flo⟩,aP.le_refl _,rfl,fun _ _=>rfl,g.os,g.tape,g.output,by rw[g.size];exact bIK _,rfl,rfl,bIK _, ?_, ?_, ?_⟩
 ·intro x c hx
  rcases a hx with ⟨rfl,rfl⟩|⟨o,hx⟩
  ·obtain⟨A,s',j,u,_⟩:=h.blk x b m
   obtain⟨rfl,rfl⟩:A=p/\s'=s:=by rw[n]at j;injection j with j;injection j with C B;exact⟨C.symm,B.symm⟩
   exact⟨A,s',n,by rw[g.size];exact u,by rw[g.here];exact L.thw⟩
  ·obtain⟨A,s',j,u,L⟩:=h.blk x c hx
   refine⟨A,s',j,by rw[g.size];exact u, ?_⟩
   rw[g.far A (fun e=>o (h.inj x id c b A s' s hx m (.inr (bIO h.flo i)) j (by rw[e];exact n)))]
   exact L
 ·intro x y c d q s1 Q hx E H l k
  have:∀ {x:Id} {c:cH},St.look ⟨Tr.put (some b') id st.heap,st.nxt,st.ro,st.hid⟩ x c->∃c',st.look x c':=fun {x c} hx=>by
   rcases a hx with ⟨rfl,_⟩|⟨_,hx⟩
   ·exact⟨b,m⟩
   ·exact⟨c,hx⟩
  obtain⟨c',R⟩:=this hx
  obtain⟨Y,S⟩:=this E
  exact h.inj x y c' Y q s1 Q R S H l k
 ·intro q _ hn
  exact g.far q (fun e=>hn id b s m i (by rw[e];exact n))
 ·intro q x c s' _ hx hr hq
  rcases a hx with ⟨rfl,_⟩|⟨_,hx⟩
  ·exact⟨x,b,s',m,hr,hq⟩
  ·exact⟨x,c,s',hx,hr,hq⟩
 ·intro x hx hr
  have o:x≠id:=fun e=>by
   subst e
   rcases hr with hr|hr
   ·omega
   ·exact hr m.1
  exact Tr.put_other _ _ _ _ (fun e=>o e.symm)
theorem dF.put{st:St}{w w':bQ9}(h:dL st Γ w){id:Id}{b b':cH}(m:st.look id b)(i:st.ro<=id.nat){p s:Nat}(n:Γ id=some (p,s)){cs:Array bQa}{el:bQb}(g:aDw w w' p cs el)
  (hs:cs.size=s) (v:b'.cells.length<=s) (hc:bU Γ b'.cells (cs.toList.take b'.cells.length)) (T:b'.exact=true->s=b'.cells.length):
  dF st Γ w ⟨Tr.put (some b') id st.heap,st.nxt,st.ro,st.hid⟩ Γ w':=
 dF.putO h m i n ⟨g.here,g.far,g.size,g.os,g.tape,g.output⟩ (.of rfl hs v hc T)
theorem dF.move{st:St}{w w':bQ9}(h:dL st Γ w){id:Id}{b b':cH}(m:st.look id b)(i:st.ro<=id.nat){p s:Nat}(n:Γ id=some (p,s)){cs:Array bQa}{el:bQb}(g:aDw w w' p cs el)
  (hs:cs.size=s) (v:b'.cells.length<=s) (hc:bU Γ b'.cells (cs.toList.take b'.cells.length)) (T:b'.exact=true->s=b'.cells.length):
  dF st Γ w ⟨Tr.put (some b') st.nxt (Tr.put none id st.heap),Id.succ st.nxt,st.ro,st.hid⟩ (Γ.add st.nxt p s) w':=by
 have hn:Γ st.nxt=none:=h.fresh _ (bIK _)
 have z:aP.le Γ (Γ.add st.nxt p s):=aP.add_le hn _ _
 have hid:id≠st.nxt:=fun e=>by rw[e,hn]at n;cases n
 have U:(Id.succ st.nxt).nat=st.nxt.nat+1:=Id.nat_succ _
 have a:∀ {x:Id} {c:cH},St.look ⟨Tr.put (some b') st.nxt (Tr.put none id st.heap),Id.succ st.nxt,st.ro,st.hid⟩ x c->(x=st.nxt/\c=b')\/(x≠st.nxt/\x≠id/\st.look x c):=fun {x c} hx=>by
  obtain⟨h1,h2⟩:=hx
  have f:Tr.find x (Tr.put (some b') st.nxt (Tr.put none id st.heap))=some c:=h2
  by_cases e:x=st.nxt
  ·subst e;rw[Tr.put_same]at f;injection f with f;exact .inl ⟨rfl,f.symm⟩
  ·rw[Tr.put_other _ _ _ _ (fun V=>e V.symm)]at f
   by_cases B:x=id
   ·subst B;rw[Tr.put_same]at f;cases f
   ·rw[Tr.put_other _ _ _ _ (fun V=>B V.symm)]at f
    exact .inr ⟨e,B,h1,f⟩
 obtain⟨X,I,D,u,_⟩:=h.blk id b m
 obtain⟨rfl,rfl⟩:X=p/\I=s:=by rw[n]at D;injection D with D;injection D with C B;exact⟨C.symm,B.symm⟩
 refine⟨⟨?_, ?_, ?_, ?_,h.glob.mono z,h.flo⟩,z,rfl,fun id Z=>aP.add_ne _ (fun e=>by rw[e]at Z;omega) _ _,g.os,g.tape,g.output,by rw[g.size];exact bIK _,rfl,rfl,by show st.nxt.nat<=(Id.succ st.nxt).nat;omega, ?_, ?_, ?_⟩
 ·intro x c hx
  rcases a hx with ⟨rfl,rfl⟩|⟨o,M,hx⟩
  ·exact⟨X,I,aP.add_self _ _ _ _,by rw[g.size];exact u,.thw (.of g.here hs v (hc.mono z) T)⟩
  ·obtain⟨A,s',j,N,L⟩:=h.blk x c hx
   refine⟨A,s',z _ _ j,by rw[g.size];exact N, ?_⟩
   rw[g.far A (fun e=>M (h.inj x id c b A s' I hx m (.inr (bIO h.flo i)) j (by rw[e];exact n)))]
   exact L.mono z
 ·intro x y c d q s1 Q hx E H l k
  rcases a hx with ⟨rfl,_⟩|⟨J,W,hx⟩
  ·rcases a E with ⟨rfl,_⟩|⟨K,O,E⟩
   ·rfl
   ·rw[aP.add_self]at l;injection l with l;injection l with C B
    rw[aP.add_ne _ K]at k
    exact absurd (h.inj y id d b q Q I E m (.inr (bIO h.flo i)) k (by rw[←C];exact n)) O
  ·rw[aP.add_ne _ J]at l
   rcases a E with ⟨rfl,_⟩|⟨K,O,E⟩
   ·rw[aP.add_self]at k;injection k with k;injection k with C B
    exact absurd (h.inj x id c b q s1 I hx m (.inr (bIO h.flo i)) l (by rw[←C];exact n)) W
   ·rw[aP.add_ne _ K]at k
    exact h.inj x y c d q s1 Q hx E H l k
 ·intro x hx
  have t:(Id.succ st.nxt).nat<=x.nat:=hx
  have:x≠st.nxt:=fun e=>by rw[e]at t;omega
  rw[aP.add_ne _ this];exact h.fresh x (by omega)
 ·intro x hx
  have t:(Id.succ st.nxt).nat<=x.nat:=hx
  have G:id.nat<st.nxt.nat:=by
   rcases bIT id.nat st.nxt.nat with h1|h1
   ·exact h1
   ·have:=h.top id h1;rw[m.2]at this;cases this
  show Tr.find x (Tr.put (some b') st.nxt (Tr.put none id st.heap))=none
  rw[Tr.put_other _ _ _ _ (fun e=>by rw[←e]at t;omega),Tr.put_other _ _ _ _ (fun e=>by rw[←e]at t;omega)]
  exact h.top x (by omega)
 ·intro q _ hq
  exact g.far q (fun e=>hq id b I m i (by rw[e];exact n))
 ·intro q x c s' _ hx hr hq
  rcases a hx with ⟨rfl,_⟩|⟨J,_,hx⟩
  ·rw[aP.add_self]at hq;injection hq with hq;injection hq with C B
   exact⟨id,b,I,m,i,by rw[←C];exact n⟩
  ·rw[aP.add_ne _ J]at hq;exact⟨x,c,s',hx,hr,hq⟩
 ·intro x hx hr
  have o:x≠id:=fun e=>by
   subst e
   rcases hr with hr|hr
   ·omega
   ·exact hr m.1
  show Tr.find x (Tr.put (some b') st.nxt (Tr.put none id st.heap))=_
  rw[Tr.put_other _ _ _ _ (fun e=>by rw[←e]at hx;omega),Tr.put_other _ _ _ _ (fun e=>o e.symm)]
end
section
variable {r:AV×St}{P:bQe}{Γ:aP}
def rS(P:bQe)(o:bQg)(a:Act)(st:St)(Γ:aP)(w:bQ9)(av:AV)(st':St):Prop:=
 ∀(Q:Exit->Act->bQ9->Prop) (K:Act->bQ9->Prop),(∀v w' Γ',dF st Γ w st' Γ' w'->CR Γ' av v->K (a.put o.dst v) w')->o.wp P a w K Q
def iF(P:bQe)(s:dQ)(op:Op):Prop:=
 ∀ {L V:aQ} {st:St} {k:KS} {r:AV×St} {Γ:aP} {a:Act} {w:bQ9} {o:bQg},o.op=op->s L V st k=some r->dL st Γ w->fI Γ L V a.tmps->∃av st',k av st'=some r/\rS P o a st Γ w av st'
theorem rS.value{o:bQg}{a:Act}{st:St}{w:bQ9}{av:AV}{st':St}{v:bQa}{w':bQ9}{Γ':aP}(E:(execOp a.eval o).run P w= .ok (.value v) w')(H:dF st Γ w st' Γ' w')(hc:CR Γ' av v):rS P o a st Γ w av st':=
 fun Q K hK=>by unfold Oper.wp;rw[E];exact hK v w' Γ' H hc
theorem rS.skip{o:bQg}{a:Act}{st:St}{w:bQ9}{st':St}{w':bQ9}{Γ':aP}(E:(execOp a.eval o).run P w= .ok .skip w')(H:dF st Γ w st' Γ' w'):rS P o a st Γ w .u st':=
 fun Q K hK=>by unfold Oper.wp;rw[E];exact hK undef w' Γ' H .u
theorem rS.pure{o:bQg}{a:Act}{st:St}{w:bQ9}{av:AV}{v:bQa}(hs:dL st Γ w)(E:(execOp a.eval o).run P w= .ok (.value v) w)(hc:CR Γ av v):rS P o a st Γ w av st:= .value E (.refl hs) hc
theorem sS{α:Type}{f:α->dQ}{x:Option α}{L V:aQ}{st:St}{k:KS}(h:oR f x L V st k=some r):∃y,x=some y/\f y L V st k=some r:=by
 cases x with
 |none=>cases h
 |some y=>exact⟨y,rfl,h⟩
theorem qK{f:dQ}{b:Bool}{L V:aQ}{st:St}{k:KS}(h:bR f b L V st k=some r):b=true/\f L V st k=some r:=by
 cases b with
 |false=>cases h
 |true=>exact⟨rfl,h⟩
theorem bB6(x:bQd):iF P (aGl x) (.move x):=fun {L V st k r Γ a w o} B h hs A=>by
 obtain⟨y,I,h⟩:=fP hs.glob A h
 exact⟨y,st,h,.pure hs (by simp only[execOp,B];rfl) I⟩
theorem aVH(x:bQd):iF P (aGl x) (.assign x):=fun {L V st k r Γ a w o} B h hs A=>by
 obtain⟨y,I,h⟩:=fP hs.glob A h
 exact⟨y,st,h,.pure hs (by simp only[execOp,B];rfl) I⟩
theorem aZB(c x y:bQd):iF P (aTd c x y) (.pick c x y):=fun {L V st k r Γ a w o} B h hs A=>by
 obtain⟨vc,hc,h⟩:=fP hs.glob A h
 obtain⟨t,rfl,h'⟩:=aFg h
 obtain⟨vx,hx,h'⟩:=fP hs.glob A h'
 obtain⟨vy,I,h'⟩:=fP hs.glob A h'
 refine⟨_,st,h',.pure hs (v:=if t then a.eval x else a.eval y) ?_ ?_⟩
 ·simp only[execOp,B,hc.inv_b];cases t<;>rfl
 ·cases t<;>simpa
theorem aZJ(op:UnOp)(t:bQb)(x:bQd):iF P (aT1 op x) (.unOp op t x):=fun {L V st k r Γ a w o} B h hs A=>by
 obtain⟨vx,hx,h⟩:=fP hs.glob A h
 obtain⟨av,v,hc,h,E⟩:=bAg (P:=P) hx h
 exact⟨av,st,h,.pure hs (v:=v) (by simp only[execOp,B,Sem.run_bind,E w,Result.andThen_ok];rfl) hc⟩
theorem aWe(op:BinOp)(t:bQb)(x y:bQd)(u:bQb):iF P (aQH P op t x y) (.binOp op t x y u):=fun {L V st k r Γ a w o} B h hs A=>by
 obtain⟨vx,hx,h⟩:=fP hs.glob A h
 obtain⟨vy,I,h⟩:=fP hs.glob A h
 obtain⟨⟨av,v,hc,h,E⟩,hf⟩:=aXt (P:=P) hx I h
 exact⟨av,st,h,.pure hs (v:=v) (by simp only[execOp,B,Sem.run_bind,aVw _ _ _ _ _ _ _ hf,E w,Result.andThen_ok];rfl) hc⟩
theorem aN1{a:AV}{b:Bool}{v:bQa}(h:aCn a=some b)(hc:CR Γ a v):(b=true/\v= .nilIface)\/(b=false/\∃t u,v= .iface t u):=by
 unfold aCn at h
 split at h
 ·injection h with h;exact .inl ⟨h.symm,hc.inv_v.1⟩
 ·injection h with h;cases hc with |anyE t v=>exact .inr ⟨h.symm,t,v,rfl⟩
 ·cases h
theorem aVd(d:Nat){t:bQb}{ms:Array (String×bQb)}(W:P.underlying t=some (.interface ms)){x:bQa}{b:Bool}(h:(b=true/\x= .nilIface)\/(b=false/\∃t u,x= .iface t u))(w:bQ9):(Op.equalIn (d+1) t x .nilIface).run P w= .ok b w:=by
 simp only[Op.equalIn,Sem.run_bind,fC W,Result.andThen_ok]
 rcases h with ⟨rfl,rfl⟩|⟨rfl,t',u',rfl⟩<;>rfl
theorem bDZ{op:BinOp}{t:bQb}{x y:bQd}{u:bQb}(hc:(nA y&&aAK P t)=true):iF P (aTV op x) (.binOp op t x y u):=fun {L V st k r Γ a w o} B h hs A=>by
 rw[bIN]at hc
 obtain⟨h1,h2⟩:=hc
 have I:y= .const .nilIface:=by
  unfold nA at h1
  split at h1
  ·rfl
  ·cases h1
 subst I
 obtain⟨ms,W⟩:∃ms,P.underlying t=some (.interface ms):=by
  unfold aAK at h2
  split at h2
  ·exact⟨_,by assumption⟩
  ·cases h2
 obtain⟨av,hx,h⟩:=fP hs.glob A h
 cases Y:aCn av with
 |none=>rw[Y]at h;cases h
 | some b=>
  rw[Y]at h
  have h:pY op b (fun v=>k v st)=some r:=h
  have H:∀w:bQ9,(eqGuard op t x (.const .nilIface) (a.eval x) .nilIface).run P w= .ok () w:=fun w=>by
   unfold eqGuard
   cases op<;>cases a.eval x<;>first|rfl|simp
  have Z:∀w:bQ9,(Op.equal t (a.eval x) .nilIface).run P w= .ok b w:=fun w=>by
   exact aVd 9999 W (aN1 Y hx) w
  have e0:a.eval (.const .nilIface)= .nilIface:=rfl
  have J:∀(op:BinOp),op= .eql\/op= .neq->∀w:bQ9,(binOp op t (a.eval x) .nilIface).run P w= .ok (.bool (if op= .eql then b else !b)) w:=by
   intro op a' w
   rcases aN1 Y hx with ⟨rfl,e⟩|⟨rfl,t',u',e⟩<;>rcases a' with rfl|rfl<;>(have Z:=Z w;rw[e]at Z ⊢;simp [binOp,Z])
  rcases aIP h with ⟨rfl,g⟩|⟨rfl,g⟩
  ·exact⟨_,st,g,.pure hs (v:= .bool b) (by simp only[execOp,B,Sem.run_bind,e0,H,Result.andThen_ok,J .eql (.inl rfl)];rfl) (.b _)⟩
  ·exact⟨_,st,g,.pure hs (v:= .bool !b) (by simp only[execOp,B,Sem.run_bind,e0,H,Result.andThen_ok,J .neq (.inr rfl)];rfl) (.b _)⟩
theorem aX7(op:BinOp)(t:bQb)(x y:bQd)(u:bQb):iF P (aAE P op t x y) (.binOp op t x y u):=by
 unfold aAE
 cases hc:(nA y&&aAK P t)with
 |true=>exact bDZ hc
 |false=>exact aWe op t x y u
theorem aZH(s d:bQb)(x:bQd):iF P (aGs P s d x) (.convert s d x):=fun {L V st k r Γ a w o} B h hs A=>by
 obtain⟨ki,C,h⟩:=sS h
 obtain⟨vx,hx,h⟩:=fP hs.glob A h
 unfold oE at C
 split at C
 ·rename_i us k0 h1 h2
  injection C with C;subst C
  have E:∀n:Int,a.eval x= .int (match a.eval x with | .int k _=>k|_=> .i8) n->(convert s d (a.eval x)).run P w= .ok (.int k0 (k0.wrap n)) w:=fun n e=>by
   rw[e]
   unfold convert
   simp only[Sem.run_bind,fC h1,fC h2,Result.andThen_ok]
   cases us<;>rfl
  rcases aIO h with ⟨k',n,rfl,h'⟩|⟨k',n,rfl,h'⟩
  ·exact⟨_,st,h',.pure hs (by simp only[execOp,B,Sem.run_bind,E n (by rw[hx.inv_i]),Result.andThen_ok];rfl) (wX Γ k0 n)⟩
  ·exact⟨_,st,h',.pure hs (by simp only[execOp,B,Sem.run_bind,E (Int.negSucc n) (by rw[hx.inv_m]),Result.andThen_ok];rfl) (aEB Γ k0 n)⟩
 ·cases C
theorem bEB(x:bQd):iF P (aTR x) (.nilCheck x):=fun {L V st k r Γ a w o} B h hs A=>by
 obtain⟨vx,hx,h⟩:=fP hs.glob A h
 cases vx with
 |ptr id off=>
  obtain⟨p,s,hp,e⟩:=hx.inv_ptr
  exact⟨_,st,(h:k (.ptr id off) st=some r),.pure hs (by simp only[execOp,B,e];rfl) (by rw[←e];exact hx)⟩
 | fn f l m=>
  cases f with
  |func f=>
   obtain⟨va,vb,e,_⟩:=hx.inv_fn
   exact⟨_,st,(h:k (.fn (.func f) l m) st=some r),.pure hs (by simp only[execOp,B,e];rfl) (by rw[←e];exact hx)⟩
  |_=>cases h
 |_=>cases h
theorem bCA(x:bQd)(i:Nat):iF P (aTQ x i) (.extract x i):=fun {L V st k r Γ a w o} B h hs A=>by
 obtain⟨vx,hx,h⟩:=fP hs.glob A h
 obtain⟨cs,rfl,h'⟩:=bBt h
 obtain⟨av,hn,h'⟩:=aNE _ _ _ h'
 obtain⟨vs,e,A⟩:=hx.inv_tup
 obtain⟨v,S,hc⟩:=A.get hn
 exact⟨av,st,h',.pure hs (v:=v) (by simp only[execOp,B,e,Instr.extract,bLl,S];rfl) hc⟩
theorem bEZ(f:Fn)(x y:Array bQd):iF P (mfK f x y) (.makeFunc f x y):=fun {L V st k r Γ a w o} B h hs A=>by
 cases f with
 |func f=> ?_
 |_=>cases h
 obtain⟨l,h1,h⟩:=aEH hs.glob A (h:jG x.toList L V (fun a=>jG y.toList L V fun b=>k (.fn (.func f) a b) st)=some r)
 obtain⟨m,h2,h⟩:=aEH hs.glob A h
 refine⟨_,st,h,.pure hs (v:= .func (.func f) (x.map a.eval) (y.map a.eval)) (by simp only[execOp,B];rfl) ?_⟩
 have e:∀z:Array bQd,(z.toList.map a.eval).toArray=z.map a.eval:=fun z=>by apply bKB;simp
 have:=CR.fn (f:=f) h1 h2
 rw[e,e]at this
 exact this
theorem aHK{t:bQb}(h:dE P t=true):∃i d,P.info? t=some i/\P.underlying t=some d:=by
 unfold dE at h
 rw[bIN]at h
 obtain⟨i,F⟩:=bLC.1 h.1
 obtain⟨d,X⟩:=bLC.1 h.2
 exact⟨i,d,F,X⟩
theorem aES{t:bQb}(h:dE P t=true)(w:bQ9):(isAgg t).run P w= .ok (jY P t) w:=by
 obtain⟨i,d,F,X⟩:=aHK h
 unfold isAgg jY
 simp only[Sem.run_bind,fC X,Result.andThen_ok,X]
 cases d<;>rfl
theorem run_sizeOf{t:bQb}(h:dE P t=true)(w:bQ9):(sizeOf t).run P w= .ok (aU P t) w:=by
 obtain⟨i,d,F,X⟩:=aHK h
 simp [sizeOf,typeInfo,F,aU,Program.cellsOf]
theorem aIs{t:bQb}{off:Nat}{cells:List AV}{k:KA}(h:oM P t off cells k=some r):
  ∃av,k av=some r/\((jY P t=true/\off+aU P t<=cells.length/\av= .agg ((cells.drop off).take (aU P t)))\/(jY P t=false/\cells[off]? =some av)):=by
 unfold oM at h
 cases T:jY P t with
 |true=>rw[T]at h;obtain⟨h1,h2⟩:=aCQ _ _ _ _ h;exact⟨_,h2,.inl ⟨rfl,h1,rfl⟩⟩
 |false=>rw[T]at h;obtain⟨av,h1,h2⟩:=aNE _ _ _ h;exact⟨av,h2,.inr ⟨rfl,h1⟩⟩
theorem uU{w:bQ9}{p:Nat}{cs:Array bQa}{el:bQb}{fr:Nat×Nat}(h:w.heap[p]? =some (.cells cs el fr))(i:Nat):w.cell? ⟨p,i,none⟩=cs[i]? :=by
 simp [World.cell?,h]
theorem nB(p off j:Nat):(⟨p,off,none⟩:bQh).add j=⟨p,off+j,none⟩:=by
 unfold Addr.add;split<;>simp_all
theorem aLa{t:bQb}(C:dE P t=true){w:bQ9}{p off:Nat}{cs:Array bQa}{el:bQb×Nat×Nat}{cells:List AV}(U:w.heap[p]? =some (.cells cs el.1 el.2))(D:cells.length<=cs.size)
  (hc:bU Γ cells (cs.toList.take cells.length)) {av:AV} (h2:(jY P t=true/\off+aU P t<=cells.length/\av= .agg ((cells.drop off).take (aU P t)))\/(jY P t=false/\cells[off]? =some av)):∃v,CR Γ av v/\(loadVar t ⟨p,off,none⟩).run P w= .ok v w:=by
 unfold loadVar
 rcases h2 with ⟨T,e',rfl⟩|⟨T,hn⟩
 ·refine⟨_,.agg ((hc.drop off).take (aU P t)), ?_⟩
  have N:(((cs.toList.take cells.length).drop off).take (aU P t)).length=aU P t:=by simp;omega
  have M:=run_loadCells_list (P:=P) w ⟨p,off,none⟩ (((cs.toList.take cells.length).drop off).take (aU P t)) (fun j v O=>by
   rw[nB,uU U]
   rw[bK1]at O
   split at O
   ·rw[bKd,bK1]at O
    split at O
    ·simpa using O
    ·cases O
   ·cases O)
  rw[N]at M
  simp only[Sem.run_bind,aES C,Result.andThen_ok,T,if_true,run_sizeOf C,M]
  rfl
 ·obtain⟨v,S,R⟩:=hc.get hn
  refine⟨v,R, ?_⟩
  have:w.cell? ⟨p,off,none⟩=some v:=by
   rw[uU U]
   rw[bK1]at S
   split at S
   ·simpa using S
   ·cases S
  simp only[Sem.run_bind,aES C,Result.andThen_ok,T,bIY,if_false,run_load,this]
theorem aVe{t:bQb}(C:dE P t=true){w:bQ9}{p off:Nat}{cs:Array bQa}{el:bQb×Nat×Nat}{cells:List AV}(U:w.heap[p]? =some (.cells cs el.1 el.2))(D:cells.length<=cs.size)
  (hc:bU Γ cells (cs.toList.take cells.length)) {k:KA} (h:oM P t off cells k=some r):∃av v,CR Γ av v/\k av=some r/\(loadVar t ⟨p,off,none⟩).run P w= .ok v w:=by
 obtain⟨av,h1,h2⟩:=aIs h
 obtain⟨v,h3,h4⟩:=aLa (P:=P) C U D hc h2
 exact⟨av,v,h3,h1,h4⟩
theorem aZ7(t:bQb)(x:bQd):iF P (yC P t x) (.load t x):=fun {L V st k r Γ a w o} B h hs A=>by
 obtain⟨C,h⟩:=qK h
 obtain⟨vx,hx,h⟩:=fP hs.glob A h
 obtain⟨id,off,rfl,h'⟩:=xF h
 obtain⟨b,b',h'⟩:=rI h'
 obtain⟨p,s,hp,e⟩:=hx.inv_ptr
 obtain⟨p',s',G,f',cs,el,U,hsz,D,hc,_⟩:=hs.blkc id b b'
 obtain⟨rfl,rfl⟩:p'=p/\s'=s:=by rw[hp]at G;injection G with G;injection G with e1 e2;exact⟨e1.symm,e2.symm⟩
 obtain⟨av,v,R,h',E⟩:=aVe (P:=P) C U (by omega) hc h'
 exact⟨av,st,h',.pure hs (v:=v) (by simp only[execOp,B,e,Instr.loadAt,Instr.sureAddr,Sem.run_bind,Sem.run_pure,Result.andThen_ok,E]) R⟩
theorem aMy{o:bQg}{a:Act}{st:St}{w:bQ9}(hs:dL st Γ w){cs:List AV}{v:bQa}(el:bQb)(hc:bU Γ cs v.cells.toList)(E:(execOp a.eval o).run P w= .ok (.value (.pointer (some ⟨w.heap.size,0,none⟩))) { w with heap:=w.heap.push (.cells v.cells el) }):
  rS P o a st Γ w (.ptr st.nxt 0) (st.new ⟨cs,true⟩):=by
 have D:cs.length=v.cells.size:=by rw[hc.length];simp
 refine .value E (dF.new hs (b:=⟨cs,true⟩) (cs:=v.cells) el ?_ (by show cs.length<=_;omega) (fun _=>D.symm)) (.ptr (aP.add_self _ _ _ _))
 show bU Γ cs (v.cells.toList.take cs.length)
 rw[D,←bKM,bJy];exact hc
theorem bDb(t:bQb)(x:bQd):iF P (aTz x) (.box t x):=fun {L V st k r Γ a w o} B h hs A=>by
 obtain⟨vx,hx,h⟩:=fP hs.glob A h
 exact⟨_,_,h,aMy hs t hx.cells (by simp only[execOp,B];rfl)⟩
theorem aHE{e:bQb}{z:AV}(h:iD P e=some z):∃i zv,P.info? e=some i/\i.zero=some zv/\∀Γ,CR Γ z zv:=by
 unfold iD at h
 split at h
 ·rename_i i F
  split at h
  ·rename_i zv hz;exact⟨i,zv,F,hz,fun Γ=>aHp Γ h⟩
  ·cases h
 ·cases h
theorem aX2(e:bQb):iF P (aFJ P e) (.alloc e):=fun {L V st k r Γ a w o} B h hs A=>by
 obtain⟨z,hz,h⟩:=sS h
 obtain⟨i,zv,F,c',hc⟩:=aHE hz
 refine⟨_,_,h,aMy hs e (hc Γ).cells ?_⟩
 simp only[execOp,B,Instr.alloc,Sem.run_bind,zeroValue,typeInfo,run_program,Result.andThen_ok,F,c',Sem.run_pure]
 rfl
theorem bEA(s:bQb)(x:bQd)(f:Nat):iF P (aE9 P s x f) (.fieldAddr s x f):=fun {L V st k r Γ a w o} B h hs A=>by
 obtain⟨fo,hf,h⟩:=sS h
 obtain⟨C,h⟩:=qK h
 obtain⟨vx,hx,h⟩:=fP hs.glob A h
 obtain⟨id,off,rfl,h'⟩:=xF h
 obtain⟨p,q,hp,e⟩:=hx.inv_ptr
 unfold lF at hf
 split at hf
 ·rename_i fs W
  split at hf
  ·rename_i g H
   injection hf with hf;subst hf
   refine⟨_,st,h',.pure hs (v:= .pointer (some ⟨p,off+g.offset,none⟩)) ?_ (.ptr hp)⟩
   have hsz:∃n,(sizeOf g.type).run P w= .ok n w/\n≠0:=by
    unfold dJ at C
    split at C
    ·rename_i i z F _
     simp only[bIN]at C
     refine⟨i.size,by simp [sizeOf,typeInfo,F], ?_⟩
     have:=bIU C.1.1.2
     omega
    ·cases C
   obtain⟨n,hn,d'⟩:=hsz
   simp only[execOp,B,e,Instr.fieldAt,Instr.sureAddr,Sem.run_bind,fC W,Result.andThen_ok,H,Sem.run_pure,fieldPlace,hn,Sem.run_ite,if_neg d',nB]
  ·cases hf
 ·cases hf
end
section
variable {r:AV×St}{P:bQe}{Γ:aP}
theorem aZ4{α:Type}(m vs:List α)(off n:Nat)(h:off+vs.length<=n)(hn:n<=m.length):(m.take off++vs++m.drop (off+vs.length)).take n=(m.take n).take off++vs++(m.take n).drop (off+vs.length):=by
 rw[bJC,bJc (by omega),bM2,bM2,List.drop_take]
 have C:(m.take off).length=off:=by simp;omega
 rw[C,bJ2 (by omega),bJ2 (l:=vs) (by omega),bJ3,C]
theorem bU.put{l new:List AV}{m vs:List bQa}{off:Nat}(h:bU Γ l (m.take l.length))(j:l.length<=m.length)(G:bU Γ new vs)(I:off+new.length<=l.length):
  (l.take off++new++l.drop (off+new.length)).length=l.length/\bU Γ (l.take off++new++l.drop (off+new.length)) ((m.take off++vs++m.drop (off+vs.length)).take l.length):=by
 have e:new.length=vs.length:=G.length
 refine⟨by simp;omega, ?_⟩
 rw[aZ4 m vs off _ (by omega) j,e]
 exact((h.take off).app G).app (h.drop _)
theorem aHj{w:bQ9}{p:Nat}{cs cs':Array bQa}{el:bQb}(h:w.heap[p]? =some (.cells cs el (0,0))):aDw w (w.setRow p cs') p cs' el:=
 ⟨setRow_heap w p cs cs' el (0,0) h,fun q hq=>setRow_other w p q cs' hq,by simp [World.setRow],rfl,rfl,rfl⟩
theorem aCP{st:St}{id:Id}{b:cH}{k:St->OR}(h:nJ st id b k=some r):st.ro<=id.nat/\k ⟨Tr.put (some b) id st.heap,st.nxt,st.ro,st.hid⟩=some r:=aPk h
theorem aCL{st:St}{w:bQ9}(hs:dL st Γ w){id:Id}{b:cH}(u:st.lookc id b)(J:st.ro<=id.nat){p s:Nat}(N:Γ id=some (p,s)){new:List AV}{vs:List bQa}(G:bU Γ new vs)(h1:jC new=true){off:Nat}(I:off+new.length<=b.cells.length):
  ∃w',(storeCells ⟨p,off,none⟩ vs).run P w= .ok () w'/\(∃cs el,aDw w w' p cs el)/\dF st Γ w ⟨Tr.put (some ⟨b.cells.take off++new++b.cells.drop (off+new.length),b.exact⟩) id st.heap,st.nxt,st.ro,st.hid⟩ Γ w':=by
 obtain⟨p',s',A,d',cs,el,Q,hsz,c',hc,he⟩:=hs.blkw id b u J
 obtain⟨rfl,rfl⟩:p'=p/\s'=s:=by rw[N]at A;injection A with A;injection A with C K;exact⟨C.symm,K.symm⟩
 have e':new.length=vs.length:=G.length
 have D:=run_storeCells_at P p' off el vs 0 cs w Q (by omega) (aCF G h1)
 simp only[Nat.add_zero]at D
 obtain⟨g1,g2⟩:=bU.put hc (by simp;omega) G I
 refine⟨_,D,⟨_,_,aHj Q⟩,dF.put hs u.lk J N (b':=⟨_,b.exact⟩) (aHj Q) ?_ ?_ ?_ ?_⟩
 ·simp;omega
 ·show(b.cells.take off++new++b.cells.drop (off+new.length)).length<=_;omega
 ·show bU Γ _ (bKS (b.cells.take off++new++b.cells.drop (off+new.length)).length _);rw[g1];exact g2
 ·intro hx;show _=(b.cells.take off++new++b.cells.drop (off+new.length)).length;rw[g1];exact he hx
theorem aWP(t:bQb)(x y:bQd):iF P (aBU P t x y) (.store t x y):=fun {L V st k r Γ a w o} R h hs j=>by
 obtain⟨hk,h⟩:=qK h
 obtain⟨vx,hx,h⟩:=fP hs.glob j h
 obtain⟨vy,H,h⟩:=fP hs.glob j h
 obtain⟨id,off,rfl,h'⟩:=xF h
 obtain⟨b,u,h'⟩:=rI h'
 obtain⟨g1,h'⟩:=eF h'
 obtain⟨g2,h'⟩:=eF h'
 obtain⟨g3,h'⟩:=aBm _ _ _ _ h'
 obtain⟨g4,h'⟩:=aCP h'
 obtain⟨p,s,N,e⟩:=hx.inv_ptr
 obtain⟨w',hr,_,M⟩:=aCL (P:=P) hs u g4 N H.cells g2 g3
 refine⟨_,_,h',.skip (w':=w') ?_ M⟩
 have hsz:(a.eval y).cells.size=aU P t:=by
  have:=bJ0 g1
  rw[aBR,H.cells.length]at this;simpa using this
 simp only[execOp,R,e,Instr.storeAt,Instr.sureAddr,Sem.run_bind,Sem.run_pure,Result.andThen_ok,storeVar,run_sizeOf hk,Sem.run_ite,hsz,ne_eq,not_true_eq_false,if_false,hr]
theorem aVW:∀(l:List bQa) (k off:Nat) (cells:Array bQa),off+k+l.length<=cells.size->
  ((l.zipIdx k).foldl (fun cs (q:bQa×Nat)=>cs.setIfInBounds (off+q.2) q.1) cells).toList=cells.toList.take (off+k)++l++cells.toList.drop (off+k+l.length):=by
 intro l
 induction l with
 |nil=>intro k off cells _;simp
 |cons v l ih=>
  intro k off cells h
  simp only[List.zipIdx_cons,bKT]
  rw[ih (k+1) off _ (by simp at h ⊢;omega)]
  have e:=list_seg_step cells.toList (off+k) v l (by simp at h ⊢;omega)
  simpa [Array.toList_setIfInBounds,Nat.add_assoc]using e
theorem aMb(M:pT Γ){L V:aQ}{a:Act}(j:fI Γ L V a.tmps){pl pl':Nat->Option (Nat×Nat)}(F:∀i q,pl' i=some q->pl i=some q):∀(ps:List (Nat×bQd)) (cs:List AV) (vs:Array bQa) (k:List AV->OR),bU Γ cs vs.toList->aC5 pl' ps L V cs k=some r->
  ∃cs' vs',k cs'=some r/\bU Γ cs' vs'.toList/\Instr.fill pl vs (ps.map fun p=>(p.1,a.eval p.2))=some vs'/\vs'.size=vs.size:=by
 intro ps
 induction ps with
 |nil=>intro cs vs k hc h;exact⟨cs,vs,h,hc,rfl,rfl⟩
 | cons p ps ih=>
  intro cs vs k hc h
  have h:(Option.rec (motive:=fun _=>OR) none (fun q=>cE p.2 L V fun a=>bT (Nat.beq (lO a.cells) q.2) (nO a.cells q.1 cs fun cs=>aC5 pl' ps L V cs k) none) (pl' p.1))=some r:=h
  cases hq:pl' p.1 with
  |none=>rw[hq]at h;cases h
  | some q=>
   rw[hq]at h
   obtain⟨y,H,h⟩:=fP M j (h:cE p.2 L V _=some r)
   obtain⟨g1,h⟩:=eF h
   obtain⟨g2,h⟩:=aBm _ _ _ _ h
   have S:y.cells.length=(a.eval p.2).cells.size:=by rw[H.cells.length];simp
   have T:y.cells.length=q.2:=by rw[←aBR];exact bJ0 g1
   have f':cs.length=vs.size:=by rw[hc.length];simp
   have hf:=aVW (a.eval p.2).cells.toList 0 q.1 vs (by simp;omega)
   obtain⟨cs',vs',C,K,U,e4⟩:=ih _ ((a.eval p.2).cells.zipIdx.foldl (fun cs (E:bQa×Nat)=>cs.setIfInBounds (q.1+E.2) E.1) vs) k (by
    have W:((a.eval p.2).cells.zipIdx.foldl (fun cs (E:bQa×Nat)=>cs.setIfInBounds (q.1+E.2) E.1) vs).toList=vs.toList.take q.1++(a.eval p.2).cells.toList++vs.toList.drop (q.1+(a.eval p.2).cells.toList.length):=by
     rw[←Array.foldl_toList,Array.toList_zipIdx];simpa using hf
    rw[W,←H.cells.length]
    exact((hc.take _).app H.cells).app (hc.drop _)) h
   refine⟨cs',vs',C,K, ?_, ?_⟩
   ·simp only[bJu,Instr.fill,F _ _ hq]
    rw[if_neg]
    ·exact U
    ·simp only[ne_eq,bKk,decide_eq_true_eq,not_or]
     exact⟨by rw[←S,T];simp,by omega⟩
   ·rw[e4]
    have X:∀(l:List (bQa×Nat)) (c:Array bQa),(l.foldl (fun cs (E:bQa×Nat)=>cs.setIfInBounds (q.1+E.2) E.1) c).size=c.size:=by
     intro l
     induction l with
     |nil=>intro c;rfl
     |cons x l ih=>intro c;simp only[bKT];rw[ih];simp
    rw[←Array.foldl_toList];exact X _ _
theorem aYR(t:bQb)(ps:Array (Nat×bQd)):iF P (aG9 P t ps) (.build t ps):=fun {L V st k r Γ a w o} R h hs j=>by
 obtain⟨O,h⟩:=qK h
 obtain⟨z,X,h⟩:=sS h
 obtain⟨i,zv,hi,Y,hc⟩:=aHE X
 unfold aA1 at O
 split at O
 ·rename_i fs hu
  have Z:∀f∈fs.toList,dE P f.type=true:=fun f hf=>by
   have:=Array.all_eq_true'.1 O f (by simpa using hf);exact this
  have hm:∀l:List Field,(∀f∈l,dE P f.type=true)->l.mapM (fun f=>(P.info? f.type).map fun i=>(f.offset,i.size))=some (l.map fun f=>(f.offset,aU P f.type)):=by
   intro l
   induction l with
   |nil=>intro _;rfl
   |cons f l ih=>
    intro j
    obtain⟨i',d,a',_⟩:=aHK (j f (by simp))
    simp only[bM3,a',bJk,Option.bind_eq_bind,Option.bind_some,ih (fun g M=>j g (by simp [M])),Option.pure_def,bJu,aU,Program.cellsOf,bKC]
  have F:∀x q,qJ P t x=some q->((fs.toList.map fun f=>(f.offset,aU P f.type)).toArray)[x]? =some q:=fun x q hq=>by
   unfold qJ lF at hq
   rw[hu]at hq
   simp only at hq
   cases hx:fs[x]? with
   |none=>rw[hx]at hq;cases hq
   | some g=>
    rw[hx]at hq
    simp only at hq
    split at hq
    ·injection hq with hq
     simp only[bLl,bKv,Array.getElem?_toList,hx,bJk,hq]
    ·cases hq
  obtain⟨cs',vs',C,K,U,e4⟩:=aMb hs.glob j (pl:=fun x=>((fs.toList.map fun f=>(f.offset,aU P f.type)).toArray)[x]?) F _ _ _ _ (hc Γ).cells h
  refine⟨_,st,C,.pure hs (v:= .agg vs') ?_ ?_⟩
  ·have B:P.built t (ps.map fun(i,x)=>(i,a.eval x)).toList=some vs':=by
    unfold Program.built
    simp only[hi,hu,Y,hm _ Z]
    rw[←U];congr 1;simp
   simp only[execOp,R,Sem.run_bind,run_build w t _ vs' B,Result.andThen_ok,Sem.run_pure]
  ·have:=CR.agg K;simpa using this
 ·cases O
end
section
variable {r:AV×St}{P:bQe}{Γ:aP}
theorem bAC{α:Type}{l:List α}{s:Nat}(A:l.length=s)(_:0<s):∀(n j:Nat),j<n*s->(bIQ n l).flatten[j]? =l[j%s]? :=by
 intro n
 induction n with
 |zero=>intro j h;omega
 | succ n ih=>
  intro j h
  rw[bK9,bKR,List.getElem?_append,A]
  split
  ·rename_i S;rw[Nat.mod_eq_of_lt S]
  ·rename_i S
   rw[ih (j-s) (by rw[Nat.succ_mul]at h;omega)]
   rw[show j%s=(j-s)%s by rw[←Nat.mod_eq_sub_mod (by omega)]]
theorem aOv{α:Type}(l:List α)(n:Nat):(bIQ n l).flatten.length=n*l.length:=by simp
def lB(z:Array bQa)(n:Nat):Array bQa:=(bM4 n).map (z[· % z.size]!)
theorem aCZ{cs:List AV}{z:Array bQa}(h:bU Γ cs z.toList)(hs:0<z.size)(n:Nat):bU Γ (iK n cs) (lB z (n*z.size)).toList:=by
 have A:cs.length=z.size:=by rw[h.length];simp
 rw[aFs]
 refine bU.of_get (by rw[aOv,A];simp [lB]) fun j a v ha R=> ?_
 have S:j<n*z.size:=by
  have:=(bJs.1 ha).1
  rw[aOv,A]at this;exact this
 rw[bAC A hs n j S]at ha
 obtain⟨v',b',hc⟩:=h.get ha
 have J:j%z.size<z.size:=Nat.mod_lt _ hs
 have e:v=v':=by
  simp only[lB,Array.toList_map,Array.toList_range,bKv,List.getElem?_range S,bJk]at R
  injection R with R
  rw[←R]
  have:z[j%z.size]? =some v':=by simpa using b'
  simp [Array.getElem!_eq_getD,bL7,this]
 rw[e];exact hc
theorem rG{t e:bQb}(h:cU P t=some e):P.underlying t=some (.slice e):=by
 unfold cU at h
 split at h
 ·rename_i D;injection h with h;rw[←h];exact D
 ·cases h
structure vO(P:bQe)(e:bQb)(z:AV)(i:TypeInfo)(zv:bQa):Prop where
 info:P.info? e=some i
 zero:i.zero=some zv
 rel:∀Γ,CR Γ z zv
 size:zv.cells.size=i.size
 pos:1<=i.size
 small:i.size<=1000
 bytes:i.bytes<=65536
theorem aBd{e:bQb}(h:dJ P e=true){z:AV}(H:iD P e=some z):∃i zv,vO P e z i zv:=by
 obtain⟨i,zv,hi,c',hc⟩:=aHE H
 unfold dJ at h
 rw[hi,H]at h
 simp only[bIN]at h
 refine⟨i,zv,hi,c',hc, ?_,bIU h.1.1.2,bIU h.1.2,bIU h.2⟩
 have:=bJ0 h.1.1.1
 rw[aBR,(hc ⟨fun _=>none,0⟩).cells.length]at this
 simpa using this
theorem vO.szOf{e:bQb}{z:AV}{i:TypeInfo}{zv:bQa}(h:vO P e z i zv):aU P e=i.size:=by
 simp [Ev.aU,Program.cellsOf,h.info]
theorem aUR{t e:bQb}{z:AV}{i:TypeInfo}{zv:bQa}(D:P.underlying t=some (.slice e))(hc:vO P e z i zv){len:Nat}(B:len<=1000){parts:Array (Nat×bQa)}{cells:Array bQa}
  (hf:Instr.fill (fun j=>some (j*i.size,i.size)) (lB zv.cells (len*zv.cells.size)) parts.toList=some cells) (w:bQ9):
  (Instr.buildSlice t len parts).run P w= .ok (.slice (some ⟨w.heap.size,0,none⟩) len len) { w with heap:=w.heap.push (.cells cells e) }:=by
 have h1:¬(len*i.size>2^24):=by
  have:=bKl B hc.small;omega
 rw[hc.size]at hf
 by_cases h0:len*i.size=0
 ·have H:lB zv.cells (len*i.size)=(bM4 (len*i.size)).map ((#[]:Array bQa)[· % (#[]:Array bQa).size]!):=by rw[h0];simp [lB]
  rw[H]at hf
  simp only[Instr.buildSlice,Sem.run_bind,fC D,Result.andThen_ok,sizeOf,typeInfo,run_program,hc.info,Sem.run_pure,Sem.run_ite,h0,if_true]at hf ⊢
  rw[hf]
  rfl
 ·simp only[Instr.buildSlice,Sem.run_bind,fC D,Result.andThen_ok,sizeOf,typeInfo,run_program,hc.info,Sem.run_pure,Sem.run_ite,if_neg h1,if_neg h0,zeroValue,hc.zero]
  have d':Instr.fill (fun j=>some (j*i.size,i.size)) ((bM4 (len*i.size)).map (zv.cells[· % zv.cells.size]!)) parts.toList=some cells:=hf
  rw[d']
  rfl
theorem aMJ{o:bQg}{a:Act}{st:St}{w:bQ9}(hs:dL st Γ w){cs:List AV}{vs:Array bQa}{el:bQb}{n m sz:Nat}(hc:bU Γ cs vs.toList)(C:n<=m)(J:m*sz<=vs.size)
  (hr:(execOp a.eval o).run P w= .ok (.value (.slice (some ⟨w.heap.size,0,none⟩) n m)) { w with heap:=w.heap.push (.cells vs el) }):
  rS P o a st Γ w (.sl st.nxt 0 n (some m) sz) (st.new ⟨cs,true⟩):=by
 have B:cs.length=vs.size:=by rw[hc.length];simp
 refine .value hr (dF.new hs (b:=⟨cs,true⟩) (cs:=vs) el ?_ (by show cs.length<=_;omega) (fun _=>B.symm)) (.sl (aP.add_self _ _ _ _) C (fun k e=>by injection e) (by omega))
 show bU Γ cs (vs.toList.take cs.length)
 rw[B,←bKM,bJy];exact hc
theorem aXl{o:bQg}{a:Act}{st:St}{w:bQ9}(hs:dL st Γ w){cs:List AV}{vs:Array bQa}{el:bQb}{n m sz:Nat}(hc:bU Γ cs (vs.toList.take cs.length))(C:n<=m)(A:cs.length<=vs.size)(J:m*sz<=vs.size)(_hn:n*sz<=cs.length)
  (hr:(execOp a.eval o).run P w= .ok (.value (.slice (some ⟨w.heap.size,0,none⟩) n m)) { w with heap:=w.heap.push (.cells vs el) }):
  rS P o a st Γ w (.sl st.nxt 0 n none sz) (st.new ⟨cs,false⟩):=by
 refine .value hr (dF.new hs (b:=⟨cs,false⟩) (cs:=vs) el hc A (fun h=>by cases h)) (.sl (aP.add_self _ _ _ _) C (fun k e=>by cases e) (by omega))
theorem bEf(t:bQb)(len:Nat)(ps:Array (Nat×bQd)):iF P (aGM P t len ps) (.buildSlice t len ps):=fun {L V st k r Γ a w o} G h hs A=>by
 obtain⟨e,K,h⟩:=sS h
 obtain⟨E,h⟩:=qK h
 obtain⟨z,H,h⟩:=sS h
 rw[bIN]at E
 obtain⟨i,zv,u⟩:=aBd E.1 H
 have B:=bIU E.2
 have F:0<zv.cells.size:=by have:=u.pos;have:=u.size;omega
 obtain⟨cs',vs',e1,T,e3,e4⟩:=aMb hs.glob A (pl:=fun j=>some (j*i.size,i.size)) (fun j q hq=>by injection hq with hq;subst hq;rw[u.szOf];rfl) _ _ _ _ (aCZ (u.rel Γ).cells F len) h
 have f':Instr.fill (fun j=>some (j*i.size,i.size)) (lB zv.cells (len*zv.cells.size)) (ps.map fun(i,x)=>(i,a.eval x)).toList=some vs':=by rw[←e3];congr 1;simp
 refine⟨_,_,e1,aMJ hs T (bIK _) ?_ (by simp only[execOp,G,Sem.run_bind,aUR (rG K) u B f' w,Result.andThen_ok];rfl)⟩
 rw[e4,u.szOf,←u.size];simp [lB]
theorem wrap_small(n:Nat)(h:n<=10000000):IntKind.i64.wrap (n:Int)=n:=xN .i64 (bIO h (by show 10000000<=9223372036854775807;omega))
theorem run_makeSlice{t e:bQb}{z:AV}{i:TypeInfo}{zv:bQa}(D:P.underlying t=some (.slice e))(hc:vO P e z i zv){n m:Nat}(C:n<=m)(J:m<=10000000)(k1 k2:bQc)(w:bQ9):
  (Instr.makeSlice t (.int k1 n) (.int k2 m)).run P w= .ok (.slice (some ⟨w.heap.size,0,none⟩) n m) { w with heap:=w.heap.push (.cells (lB zv.cells (m*zv.cells.size)) e) }:=by
 have h1:¬((i.bytes:Int)*(m:Int)>2^48):=by
  have:=bKl hc.bytes J
  have h2:((i.bytes*m:Nat):Int)<=((65536*10000000:Nat):Int):=by exact_mod_cast this
  rw[bKb]at h2;omega
 have U:=wrap_small n (by omega)
 have W:=wrap_small m J
 have X:¬((n:Int)<0):=by omega
 have Y:¬((m:Int)<0):=by omega
 have Z:¬((n:Int)>(m:Int)):=by omega
 rw[hc.size]
 by_cases h0:m*i.size=0
 ·have H:lB zv.cells (m*i.size)=(bM4 (m*i.size)).map ((#[]:Array bQa)[· % (#[]:Array bQa).size]!):=by rw[h0];simp [lB]
  rw[H]
  simp only[Instr.makeSlice,Sem.run_bind,fC D,Result.andThen_ok,asInt,asIntOf,Sem.run_pure,typeInfo,run_program,hc.info,U,W,X,Y,h1,Z,decide_false,bM5,bIY,if_false,Sem.run_ite,run_askRoom,sizeOf,bKe,h0,if_true]
  rfl
 ·simp only[Instr.makeSlice,Sem.run_bind,fC D,Result.andThen_ok,asInt,asIntOf,Sem.run_pure,typeInfo,run_program,hc.info,U,W,X,Y,h1,Z,decide_false,bM5,bIY,if_false,Sem.run_ite,run_askRoom,sizeOf,bKe,if_neg h0,zeroValue,hc.zero]
  rfl
theorem bCC(t:bQb)(x y:bQd):iF P (aCk P t x y) (.makeSlice t x y):=fun {L V st k r Γ a w o} G h hs A=>by
 obtain⟨e,K,h⟩:=sS h
 obtain⟨E,h⟩:=qK h
 obtain⟨z,H,h⟩:=sS h
 obtain⟨i,zv,u⟩:=aBd E H
 obtain⟨vx,hx,h⟩:=fP hs.glob A h
 obtain⟨vy,M,h⟩:=fP hs.glob A h
 obtain⟨k1,n,rfl,h'⟩:=oV h
 obtain⟨k2,m,rfl,d⟩:=oV h'
 obtain⟨g1,d⟩:=eF d
 obtain⟨g2,d⟩:=eF d
 have C:=bIU g1
 have J:=bIU g2
 have F:0<zv.cells.size:=by have:=u.pos;have:=u.size;omega
 have I:(execOp a.eval o).run P w= .ok (.value (.slice (some ⟨w.heap.size,0,none⟩) n m)) { w with heap:=w.heap.push (.cells (lB zv.cells (m*zv.cells.size)) e) }:=by simp only[execOp,G,hx.inv_i,M.inv_i,Sem.run_bind,run_makeSlice (rG K) u C J,Result.andThen_ok];rfl
 cases E:Nat.beq n m with
 |true=>
  rw[E]at d
  refine⟨_,_,d,aMJ hs (aCZ (u.rel Γ).cells F m) C ?_ I⟩
  rw[u.szOf,←u.size];simp [lB]
 | false=>
  rw[E]at d
  have h3:=aCZ (u.rel Γ).cells F n
  have N:(iK n z.cells).length=n*zv.cells.size:=by rw[h3.length];simp [lB]
  have O:=bJ8 zv.cells.size C
  have hsz:(lB zv.cells (m*zv.cells.size)).size=m*zv.cells.size:=by simp [lB]
  refine⟨_,_,d,aXl hs ?_ C (by rw[N,hsz];exact O) ?_ ?_ I⟩
  ·rw[N]
   have e:(lB zv.cells (m*zv.cells.size)).toList.take (n*zv.cells.size)=(lB zv.cells (n*zv.cells.size)).toList:=by
    simp only[lB,Array.toList_map,Array.toList_range,←List.map_take,List.take_range,bJc O]
   rw[e];exact h3
  ·rw[u.szOf,←u.size,hsz];exact bIK _
  ·rw[u.szOf,←u.size,N];exact bIK _
theorem bE7(t:bQb)(x:bQd)(f:Nat):iF P (aGW P t x f) (.field t x f):=fun {L V st k r Γ a w o} G h hs A=>by
 obtain⟨fo,hf,h⟩:=sS h
 obtain⟨Q,h⟩:=qK h
 obtain⟨vx,hx,h⟩:=fP hs.glob A h
 obtain⟨cs,rfl,h'⟩:=bBc h
 obtain⟨vs,e,hc⟩:=hx.inv_agg
 obtain⟨av,h9,h2⟩:=aIs h'
 clear h h'
 unfold lF at hf
 split at hf
 ·rename_i fs D
  split at hf
  ·rename_i g hg
   injection hf with hf;subst hf
   rcases h2 with ⟨E,O,rfl⟩|⟨E,hn⟩
   ·refine⟨_,st,h9,.pure hs (v:= .agg (vs.toArray.extract g.offset (g.offset+aU P g.type))) ?_ ?_⟩
    ·simp only[execOp,G,e,Instr.field,Sem.run_bind,fC D,Result.andThen_ok,hg,asAgg,Sem.run_pure,part,aES Q,E,if_true,run_sizeOf Q]
    ·have:=CR.agg ((hc.drop g.offset).take (aU P g.type))
     have e':vs.toArray.extract g.offset (g.offset+aU P g.type)=((vs.drop g.offset).take (aU P g.type)).toArray:=by
      apply bKB;simp
     rw[e'];exact this
   ·obtain⟨v,R,g'⟩:=hc.get hn
    refine⟨av,st,h9,.pure hs (v:=v) ?_ g'⟩
    simp only[execOp,G,e,Instr.field,Sem.run_bind,fC D,Result.andThen_ok,hg,asAgg,Sem.run_pure,part,aES Q,E,bIY,if_false,bLl,R]
  ·cases hf
 ·cases hf
theorem aM4{sz:Nat}{id:Id}{off len n:Nat}{st:St}{k:KS}(h:nF sz id off len n st k=some r):n<len/\k (.ptr id (off+n*sz)) st=some r:=by
 obtain⟨h1,h2⟩:=eF h
 exact⟨bIU h1,h2⟩
theorem bEn(t:bQb)(x y:bQd):iF P (aEd P t x y) (.indexAddr t x y):=fun {L V st k r Γ a w o} G h hs A=>by
 unfold aEd at h
 cases K:cU P t with
 | some e=>
  rw[K]at h
  have D:=rG K
  obtain⟨Q,h⟩:=qK (h:bR (aE3 x y (aU P e)) (dE P e) L V st k=some r)
  obtain⟨vx,hx,h⟩:=fP hs.glob A h
  obtain⟨vy,M,h⟩:=fP hs.glob A h
  obtain⟨k1,n,rfl,h'⟩:=oV h
  rcases sJ h' with ⟨_,d⟩|⟨_,d⟩|⟨id,off,len,cap,sz,rfl,d⟩
  ·cases d
  ·cases d
  ·obtain⟨a',d⟩:=aM4 d
   obtain⟨p,s,c,hp,T,_⟩:=hx.inv_sl
   refine⟨_,st,d,.pure hs (v:= .pointer (some ⟨p,off+n*aU P e,none⟩)) ?_ (.ptr hp)⟩
   have h0:(0:Int)<=(n:Int)/\(n:Int)<(len:Int):=by omega
   simp only[execOp,G,T,M.inv_i,Instr.indexAt,asIntOf,Sem.run_bind,Sem.run_pure,Result.andThen_ok,fC D,Sem.run_ite,if_pos h0,run_sizeOf Q,bKe,nB]
 | none=>
  rw[K]at h
  obtain⟨q,hq,h⟩:=sS (h:oR (fun a=>bR (aGY x y a.1 (aU P a.2)) (dE P a.2)) (aE0 P t) L V st k=some r)
  obtain⟨Q,h⟩:=qK h
  obtain⟨vx,hx,h⟩:=fP hs.glob A h
  obtain⟨vy,M,h⟩:=fP hs.glob A h
  obtain⟨k1,n,rfl,h'⟩:=oV h
  obtain⟨id,off,rfl,d⟩:=xF h'
  obtain⟨a',d⟩:=aM4 d
  obtain⟨p,s,hp,T⟩:=hx.inv_ptr
  unfold aE0 at hq
  split at hq
  ·rename_i len e D
   injection hq with hq;subst hq
   refine⟨_,st,d,.pure hs (v:= .pointer (some ⟨p,off+n*aU P e,none⟩)) ?_ (.ptr hp)⟩
   have h0:(0:Int)<=(n:Int)/\(n:Int)<(len:Int):=by have:n<len:=a';omega
   simp only[execOp,G,T,M.inv_i,Instr.indexAt,asIntOf,Sem.run_bind,Sem.run_pure,Result.andThen_ok,fC D,Instr.sureAddr,Sem.run_ite,if_pos h0,run_sizeOf Q,bKe,nB]
  ·cases hq
theorem bC8(t:bQb)(x y:bQd):iF P (aGQ P t x y) (.index t x y):=fun {L V st k r Γ a w o} G h hs A=>by
 obtain⟨ht,h⟩:=qK h
 obtain⟨vx,hx,h⟩:=fP hs.glob A h
 obtain⟨vy,M,h⟩:=fP hs.glob A h
 obtain⟨k1,n,rfl,h'⟩:=oV h
 have D:P.underlying t=some .string:=by unfold nC at ht;split at ht<;>first|assumption|cases ht
 cases vx with
 | v x=>
  cases x with
  | string s=>
   have h':Option.rec (motive:=fun _=>OR) none (fun b=>k (.i .u8 b) st) (tH s n)=some r:=h'
   unfold tH at h'
   cases E:s[n]? with
   |none=>rw[E]at h';cases h'
   |some b=>
    rw[E]at h'
    refine⟨_,st,h',.pure hs (v:= .int .u8 (b.toNat:Int)) ?_ (.i _ _)⟩
    simp only[execOp,G,(hx.inv_v).1,M.inv_i,Instr.index,asIntOf,Sem.run_bind,Sem.run_pure,Result.andThen_ok,fC D]
    rw[if_pos (by omega),bKe,E]
    rfl
  |_=>cases h'
 |_=>cases h'
end
section
variable {r:AV×St}{P:bQe}{Γ:aP}
theorem sG(hg:pT Γ){L V:aQ}{a:Act}(f:fI Γ L V a.tmps){x:Option bQd}{d:Nat}{k:Nat->OR}(h:pL x d L V k=some r):∃n,k n=some r/\((x=none/\n=d)\/∃o ki,x=some o/\a.eval o= .int ki (n:Int)):=by
 cases x with
 |none=>exact⟨d,h,.inl ⟨rfl,rfl⟩⟩
 |some o=>
  obtain⟨v,X,h⟩:=fP hg f (h:cE o L V (fun a=>iM a k)=some r)
  obtain⟨ki,n,rfl,h'⟩:=oV h
  exact⟨n,h',.inr ⟨o,ki,rfl,X.inv_i⟩⟩
theorem oS(k:bQc)(n y:Nat)(c:BoundsCode)(h:n<=y)(w:bQ9):(Instr.sliceBound (.int k (n:Int)) y c).run P w= .ok n w:=by
 have h':(0:Int)<=(n:Int)/\(n:Int)<=(y:Int):=by omega
 simp only[Instr.sliceBound,asIntOf,Sem.run_bind,Sem.run_pure,Result.andThen_ok,Sem.run_ite,if_pos h',bKe]
def yY(ρ:bQd->bQa)(x:Option bQd)(d n:Nat):Prop:=(x=none/\n=d)\/∃o ki,x=some o/\ρ o= .int ki (n:Int)
theorem aED{ρ:bQd->bQa}{lo i mx:Option bQd}{len cap l h m:Nat}(f:yY ρ lo 0 l)(hh:yY ρ i len h)(hm:yY ρ mx cap m)(h1:l<=h)(h2:h<=m)(u:m<=cap)(hx:mx≠none->i≠none)(w:bQ9):
  (Instr.sliceBounds true len cap (lo.map ρ) (i.map ρ) (mx.map ρ)).run P w= .ok (l,h,m) w:=by
 unfold Instr.sliceBounds
 rcases hm with ⟨rfl,rfl⟩|⟨om,km,rfl,em⟩
 ·rcases hh with ⟨rfl,rfl⟩|⟨oh,kh,rfl,eh⟩
  ·rcases f with ⟨rfl,rfl⟩|⟨ol,kl,rfl,el⟩
   ·simp
   ·simp [el,oS _ _ _ _ h1]
  ·rcases f with ⟨rfl,rfl⟩|⟨ol,kl,rfl,el⟩
   ·simp [eh,oS _ _ _ _ h2]
   ·simp [eh,el,oS _ _ _ _ h2,oS _ _ _ _ h1]
 ·rcases hh with ⟨rfl,rfl⟩|⟨oh,kh,rfl,eh⟩
  ·exact absurd rfl (hx (by simp))
  ·rcases f with ⟨rfl,rfl⟩|⟨ol,kl,rfl,el⟩
   ·simp [em,eh,oS _ _ _ _ h2,oS _ _ _ _ u]
   ·simp [em,eh,el,oS _ _ _ _ h2,oS _ _ _ _ h1,oS _ _ _ _ u]
theorem aEJ{t e:bQb}(A:P.underlying t=some (.slice e))(z:dE P e=true){x:bQa}{base:Option bQh}{len cap l h m:Nat}(hx:x= .slice base len cap){lo i mx:Option bQa}{w:bQ9}
  (C:(Instr.sliceBounds true len cap lo i mx).run P w= .ok (l,h,m) w):
  (Instr.sliceAt t x lo i mx).run P w= .ok (.slice (if m=l then base else base.map (·.add (l*aU P e))) (h-l) (m-l)) w:=by
 subst hx
 simp only[Instr.sliceAt,Instr.slice,Sem.run_bind,fC A,Result.andThen_ok,C,run_sizeOf z,Sem.run_pure]
theorem aNa{id:Id}{off sz len:Nat}{cap:Option Nat}{l h:Nat}{k:KA}(hh:pS id off sz len cap l h k=some r):
  h<=len/\l<=h/\((l=h/\l=0/\k (.sl id off 0 cap sz)=some r)\/(l=h/\l≠0/\k .se=some r)\/(l≠h/\k (.sl id (off+l*sz) (h-l) (cap.map (· - l)) sz)=some r)):=by
 obtain⟨h1,hh⟩:=eF hh
 obtain⟨h2,hh⟩:=eF hh
 refine⟨bIU h1,bIU h2, ?_⟩
 rcases uN hh with ⟨u,hh⟩|⟨u,hh⟩
 ·have u:=bJ0 u
  rcases uN hh with ⟨Y,hh⟩|⟨Y,hh⟩
  ·exact .inl ⟨u,bJ0 Y,hh⟩
  ·exact .inr (.inl ⟨u,bKa Y,hh⟩)
 ·refine .inr (.inr ⟨bKa u, ?_⟩)
  cases cap<;>exact hh
theorem aMK{id:Id}{off sz len p s c l h m:Nat}{cap:Option Nat}{k:KA}(hh:pS id off sz len cap l h k=some r)(I:Γ id=some (p,s))(hm:h<=m)(H:∀q,cap=some q->m=q)(O:m<=c)(hs:off+c*sz<=s):
  l<=h/\h<=len/\∃av,k av=some r/\CR Γ av (.slice (if m=l then some ⟨p,off,none⟩else(some (⟨p,off,none⟩:bQh)).map (·.add (l*sz))) (h-l) (m-l)):=by
 obtain⟨h1,h2,u⟩:=aNa hh
 refine⟨h2,h1, ?_⟩
 have Z:off+m*sz<=s:=by have:=bJ8 sz O;omega
 rcases u with ⟨rfl,rfl,u⟩|⟨rfl,h0,u⟩|⟨b',u⟩
 ·refine⟨_,u, ?_⟩
  have e:(if m=0 then some (⟨p,off,none⟩:bQh)else(some (⟨p,off,none⟩:bQh)).map (·.add (0*sz)))=some ⟨p,off,none⟩:=by
   split
   ·rfl
   ·simp [nB]
  rw[e]
  exact .sl I (by omega) (fun q hq=>by rw[H q hq];omega) (by simpa using Z)
 ·refine⟨_,u, ?_⟩
  have e:∃a,(if m=l then some (⟨p,off,none⟩:bQh)else(some (⟨p,off,none⟩:bQh)).map (·.add (l*sz)))=some a:=by
   split
   ·exact⟨_,rfl⟩
   ·exact⟨_,rfl⟩
  obtain⟨a,e⟩:=e
  rw[e,show l-l=0 by omega]
  exact .se a _
 ·refine⟨_,u, ?_⟩
  rw[if_neg (by omega)]
  simp only[bJk,nB]
  refine .sl I (by omega) (fun q hq=> ?_) ?_
  ·cases cap with
   |none=>cases hq
   |some q0=>simp only[bJk,Option.some.injEq]at hq;rw[←hq,H q0 rfl]
  ·have:l*sz+(m-l)*sz=m*sz:=by rw[←bJp];congr 1;omega
   omega
theorem aWA{a:AV}{s:ByteArray}(h:aGr a=some s):a= .v (.string s):=by
 unfold aGr at h
 split at h
 ·injection h with h;subst h;rfl
 ·cases h
theorem aVr{ρ:bQd->bQa}{lo i:Option bQd}{len l h:Nat}(f:yY ρ lo 0 l)(hh:yY ρ i len h)(h1:l<=h)(h2:h<=len)(w:bQ9):
  (Instr.sliceBounds false len len (lo.map ρ) (i.map ρ) none).run P w= .ok (l,h,len) w:=by
 unfold Instr.sliceBounds
 rcases hh with ⟨rfl,rfl⟩|⟨oh,kh,rfl,eh⟩
 ·rcases f with ⟨rfl,rfl⟩|⟨ol,kl,rfl,el⟩
  ·simp
  ·simp [el,oS _ _ _ _ h1]
 ·rcases f with ⟨rfl,rfl⟩|⟨ol,kl,rfl,el⟩
  ·simp [eh,oS _ _ _ _ h2]
  ·simp [eh,el,oS _ _ _ _ h2,oS _ _ _ _ h1]
theorem bBj(t:bQb)(x:bQd)(lo i mx:Option bQd):iF P (aKb P t x lo i mx) (.slice t x lo i mx):=fun {L V st k r Γ a w o} U h hs f=>by
 obtain⟨z,h0⟩:=qK h
 clear h
 rw[bIN]at z
 obtain⟨z,D⟩:=z
 have A:P.underlying t=some .string:=by
  unfold nC at z
  split at z
  ·assumption
  ·cases z
 cases mx with
 |some _=>cases D
 |none=>
 obtain⟨vx,hx,h⟩:=fP hs.glob f h0
 cases Q:aGr vx with
 |none=>rw[Q]at h;cases h
 |some s=>
  rw[Q]at h
  obtain rfl:=aWA Q
  obtain⟨B,_⟩:=hx.inv_v
  obtain⟨l,h',J⟩:=sG hs.glob f (h:pL lo 0 L V _=some r)
  obtain⟨n,h',K⟩:=sG hs.glob f h'
  obtain⟨g1,h'⟩:=eF h'
  obtain⟨g2,h'⟩:=eF h'
  have C:=aVr (P:=P) (ρ:=a.eval) (len:=s.size) J K (bIU g2) (bIU g1) w
  refine⟨_,st,h',.pure hs (v:= .string (s.extract l n)) ?_ (.v ⟨fun _ e=>(by cases e),fun _ e=>(by cases e)⟩)⟩
  simp only[execOp,U,Instr.sliceAt,Instr.slice,Sem.run_bind,fC A,Result.andThen_ok,B,Option.map_none,C,Option.isSome_none,bIY,if_false,Sem.run_pure]
theorem aYP(t:bQb)(x:bQd)(lo i mx:Option bQd):iF P (tA P t x lo i mx) (.slice t x lo i mx):=fun {L V st k r Γ a w o} U h hs f=>by
 cases E:cU P t with
 |none=>
  have h:aKb P t x lo i mx L V st k=some r:=by unfold tA at h;rw[E]at h;exact h
  exact bBj t x lo i mx U h hs f
 |some e=>
 unfold tA at h
 rw[E]at h
 have h:=h
 obtain⟨z,h⟩:=qK (b:=dE P e&&aAP i mx) h
 rw[bIN]at z
 obtain⟨z,R⟩:=z
 have D:mx≠none->i≠none:=fun h1 h2=>by
  subst h2
  cases mx with
  |none=>exact h1 rfl
  |some _=>cases R
 obtain⟨vx,hx,h⟩:=fP hs.glob f h
 have A:=rG E
 have j:∀v,(Instr.sliceAt t (a.eval x) (lo.map a.eval) (i.map a.eval) (mx.map a.eval)).run P w= .ok v w->(execOp a.eval o).run P w= .ok (.value v) w:=fun v X=>by
  simp only[execOp,U,Sem.run_bind,X,Result.andThen_ok];rfl
 have seC:∀ {ad:bQh} {c:Nat},a.eval x= .slice (some ad) 0 c->fB lo L V (fB i L V (fB mx L V (k .se st)))=some r->∃av st',k av st'=some r/\rS P o a st Γ w av st':=fun {ad c} B h'=>by
  obtain⟨n1,h',J⟩:=sG hs.glob f h'
  obtain⟨z1,h'⟩:=eF h'
  obtain⟨n2,h',K⟩:=sG hs.glob f h'
  obtain⟨z2,h'⟩:=eF h'
  obtain⟨n3,h',b3⟩:=sG hs.glob f h'
  obtain⟨z3,h'⟩:=eF h'
  obtain rfl:=bJ0 z1
  obtain rfl:=bJ0 z2
  obtain rfl:=bJ0 z3
  have M:∃m,m<=c/\yY a.eval mx c m:=by
   rcases b3 with ⟨h1,_⟩|h1
   ·exact⟨c,bIK _,.inl ⟨h1,rfl⟩⟩
   ·exact⟨0,bIR _,.inr h1⟩
  obtain⟨m,H,M⟩:=M
  have C:=aED (P:=P) (ρ:=a.eval) (len:=0) (cap:=c) J K M (by omega) (by omega) H D w
  have:=aEJ A z B C
  refine⟨_,st,h',.pure hs (j _ this) ?_⟩
  have S:∃ad',(if m=0 then some ad else(some ad:Option bQh).map (·.add (0*aU P e)))=some ad':=by
   split
   ·exact⟨_,rfl⟩
   ·exact⟨_,rfl⟩
  obtain⟨ad',S⟩:=S
  rw[S]
  exact .se ad' _
 rcases sJ h with ⟨rfl,h'⟩|⟨_,h'⟩|⟨id,off,len,cap,sz,rfl,h'⟩
 ·obtain⟨B,_⟩:=hx.inv_v
  obtain⟨n1,h',J⟩:=sG hs.glob f h'
  obtain⟨z1,h'⟩:=eF h'
  obtain⟨n2,h',K⟩:=sG hs.glob f h'
  obtain⟨z2,h'⟩:=eF h'
  obtain⟨n3,h',b3⟩:=sG hs.glob f h'
  obtain⟨z3,h'⟩:=eF h'
  obtain rfl:=bJ0 z1
  obtain rfl:=bJ0 z2
  obtain rfl:=bJ0 z3
  have C:=aED (P:=P) (ρ:=a.eval) (len:=0) (cap:=0) J K b3 (by omega) (by omega) (by omega) D w
  have:=aEJ A z B C
  refine⟨_,st,h',.pure hs (j _ this) ?_⟩
  have S:(if (0:Nat)=0 then(none:Option bQh)else(none:Option bQh).map (·.add (0*aU P e)))=none:=by simp
  rw[S];exact .v ⟨(fun _ e=>by cases e),(fun _ e=>by cases e)⟩
 ·rename_i Q
  obtain rfl:=Q
  obtain⟨ad,c,B⟩:∃ad c,a.eval x= .slice (some ad) 0 c:=by
   generalize a.eval x=vx at hx
   cases hx with |se ad c=>exact⟨ad,c,rfl⟩
  exact seC B h'
 ·cases g0:Nat.beq sz (aU P e)with
  |false=>
   rw[g0]at h'
   obtain⟨g1,h'⟩:=eF (h':bT (Nat.beq len 0) _ none=some r)
   obtain rfl:=bJ0 g1
   obtain⟨p,s,c,I,B,_⟩:=hx.inv_sl
   exact seC B h'
  |true=>
  rw[g0]at h'
  have h':qZ lo i mx L V id off len cap sz (fun v=>k v st)=some r:=h'
  obtain rfl:=bJ0 g0
  obtain⟨p,s,c,I,B,d',T,hsz⟩:=hx.inv_sl
  obtain⟨l,h',J⟩:=sG hs.glob f h'
  obtain⟨hh,h',K⟩:=sG hs.glob f h'
  cases mx with
  |none=>
   have h':pS id off (aU P e) len cap l hh (fun v=>k v st)=some r:=h'
   obtain⟨e',_,_⟩:=aNa h'
   obtain⟨g1,g2,av,g3,g4⟩:=aMK h' I (m:=c) (c:=c) (by omega) T (bIK _) hsz
   have C:=aED (P:=P) (ρ:=a.eval) (len:=len) (cap:=c) J K (.inl ⟨rfl,rfl⟩:yY a.eval none c c) g1 (by omega) (bIK _) (fun h=>absurd rfl h) w
   exact⟨av,st,g3,.pure hs (j _ (aEJ A z B C)) g4⟩
  |some om=>
   obtain⟨vm,a',h'⟩:=fP hs.glob f (h':cE om L V _=some r)
   obtain⟨km,m,rfl,F⟩:=oV h'
   obtain⟨q1,F⟩:=eF F
   obtain⟨W,F⟩:=eF F
   have q1:=bIU q1
   have W:=bIU W
   obtain⟨g1,g2,av,g3,g4⟩:=aMK F I (m:=m) (c:=c) W (fun q hq=>by injection hq) (by omega) hsz
   have C:=aED (P:=P) (ρ:=a.eval) (len:=len) (cap:=c) J K (.inr ⟨om,km,rfl,a'.inv_i⟩:yY a.eval (some om) c m) g1 W (by omega) D w
   exact⟨av,st,g3,.pure hs (j _ (aEJ A z B C)) g4⟩
theorem aWc{t:bQb}(h:nC P t=true):P.underlying t=some .string:=by unfold nC at h;split at h<;>first|assumption|cases h
theorem aX0{t:bQb}{y:AV}{v:bQa}(N:CR Γ y v){k:KA}(h:wA P t y k=some r):∃n:Nat,k (.i .i64 n)=some r/\∀(g:Array bQb) (ty:bQb) w,g[0]? =some t->(Builtin.len_ g ty #[v]).run P w= .ok (.int .i64 (n:Int)) w:=by
 unfold wA at h
 cases E:cU P t with
 | some e=>
  rw[E]at h
  have A:=rG E
  rcases sJ (h:iA y _ _ _=some r)with ⟨rfl,h'⟩|⟨rfl,h'⟩|⟨id,off,len,cap,sz,rfl,h'⟩
  ·obtain⟨rfl,_⟩:=N.inv_v
   exact⟨0,h',fun g ty w G=>by simp [Builtin.len_,G,fC A,goInt]⟩
  ·obtain⟨a,c,rfl⟩:=N.inv_se
   exact⟨0,h',fun g ty w G=>by simp [Builtin.len_,G,fC A,goInt]⟩
  ·obtain⟨p,s,c,I,rfl,_⟩:=N.inv_sl
   exact⟨len,h',fun g ty w G=>by simp [Builtin.len_,G,fC A,goInt]⟩
 | none=>
  rw[E]at h
  cases y with
  | v x=>
   cases x with
   |string s=>
    obtain⟨h1,h2⟩:=eF (h:bT (nC P t) (k (.i .i64 s.size)) none=some r)
    obtain⟨rfl,_⟩:=N.inv_v
    exact⟨s.size,h2,fun g ty w G=>by simp [Builtin.len_,G,fC (aWc h1),goInt]⟩
   |_=>cases h
  |_=>cases h
theorem aYY{t:bQb}{y:AV}{v:bQa}(N:CR Γ y v){k:KA}(h:aGB P t y k=some r):∃n:Nat,k (.i .i64 n)=some r/\∀(g:Array bQb) (ty:bQb) w,g[0]? =some t->(Builtin.cap_ g ty #[v]).run P w= .ok (.int .i64 (n:Int)) w:=by
 unfold aGB at h
 cases E:cU P t with
 |none=>rw[E]at h;cases h
 | some e=>
  rw[E]at h
  have A:=rG E
  rcases sJ (h:iA y _ _ _=some r)with ⟨rfl,h'⟩|⟨rfl,h'⟩|⟨id,off,len,cap,sz,rfl,h'⟩
  ·obtain⟨rfl,_⟩:=N.inv_v
   exact⟨0,h',fun g ty w G=>by simp [Builtin.cap_,G,fC A,goInt]⟩
  ·cases h'
  ·obtain⟨p,s,c,I,rfl,_,hc,_⟩:=N.inv_sl
   cases cap with
   |none=>cases h'
   |some c'=>
    obtain rfl:=hc c' rfl
    exact⟨c,h',fun g ty w G=>by simp [Builtin.cap_,G,fC A,goInt]⟩
end
section
variable {r:AV×St}{P:bQe}{Γ:aP}
structure aGR(P:bQe)(Γ:aP)(w:bQ9)(sz:Nat)(v:bQa)(new:List AV)(n:Nat)(vs:List bQa):Prop where
 rel:bU Γ new vs
 len:vs.length=n*sz
 val:∃b c,v= .slice b n c
 cells:0<n->∃p off c,v= .slice (some ⟨p,off,none⟩) n c/\∀j u,vs[j]? =some u->w.cell? ⟨p,off+j,none⟩=some u
theorem aXB{st:St}{w:bQ9}(hs:dL st Γ w){sz:Nat}{y:AV}{v:bQa}(V:CR Γ y v){k:List AV->Nat->OR}(h:aGU st sz y k=some r):∃new n vs,k new n=some r/\aGR P Γ w sz v new n vs:=by
 rcases sJ h with ⟨rfl,h'⟩|⟨rfl,h'⟩|⟨id,off,len,cap,c4,rfl,h'⟩
 ·obtain⟨rfl,_⟩:=V.inv_v
  exact⟨[],0,[],h',.nil,by simp,⟨_,_,rfl⟩,fun h=>absurd h (bJq 0)⟩
 ·obtain⟨a,c,rfl⟩:=V.inv_se
  exact⟨[],0,[],h',.nil,by simp,⟨_,_,rfl⟩,fun h=>absurd h (bJq 0)⟩
 ·obtain⟨b,F,h'⟩:=rI h'
  obtain⟨l,h'⟩:=aCQ _ _ _ _ h'
  obtain⟨p,s,c,L,rfl,_⟩:=V.inv_sl
  obtain⟨S,s',o,j',cs,el,W,hsz,A,hc,_⟩:=hs.blkc id b F
  obtain⟨rfl,rfl⟩:S=p/\s'=s:=by rw[L]at o;injection o with o;injection o with O U;exact⟨O.symm,U.symm⟩
  have l:off+len*sz<=b.cells.length:=l
  refine⟨_,len,((cs.toList.take b.cells.length).drop off).take (len*sz),h',(hc.drop off).take _,by simp;omega,⟨_,_,rfl⟩,fun _=>⟨S,off,c,rfl,fun j u D=> ?_⟩⟩
  rw[uU W]
  rw[bK1]at D
  split at D
  ·rw[bKd,bK1]at D
   split at D
   ·simpa using D
   ·cases D
  ·cases D
theorem aGR.src{w:bQ9}{sz n:Nat}{v:bQa}{new:List AV}{vs:List bQa}(h:aGR P Γ w sz v new n vs)(hn:0<n){tx e':bQb}(hk:P.underlying tx=some (.slice e'))(h1:jC new=true):Src P sz tx v n vs w:=by
 obtain⟨p,off,c,rfl,hc⟩:=h.cells hn
 exact Src.ofSlice w hk _ n c vs h.len (fun j u D=>by rw[nB];exact hc j u D) (aCF h.rel h1)
theorem aUN{t tx e e' ty:bQb}{i:TypeInfo}(E:P.underlying t=some (.slice e))(hx:P.underlying tx=some (.slice e'))(hi:P.info? e=some i)(base bx:Option bQh)(sLen sCap cx:Nat)(h:sLen<=sCap)(w:bQ9):
  (Builtin.append_ #[t,tx] ty #[.slice base sLen sCap,.slice bx 0 cx]).run P w= .ok (.slice base sLen sCap) w:=by
 cases bx<;>cases base<;>simp [Builtin.append_,fC E,fC hx,sizeOf,typeInfo,hi,Builtin.lenOf,h,Builtin.firstCells,loadCells,loadCellsFrom,storeCells]
theorem aL7{t tx e ty:bQb}{i:TypeInfo}(E:P.underlying t=some (.slice e))(hi:P.info? e=some i){w w':bQ9}{x:bQa}{n:Nat}{vs:List bQa}(hs:Src P i.size tx x n vs w){p off sLen sCap:Nat}(B:sLen+n<=sCap)
  (y':(storeCells ⟨p,off+sLen*i.size,none⟩ vs).run P w= .ok () w'):
  (Builtin.append_ #[t,tx] ty #[.slice (some ⟨p,off,none⟩) sLen sCap,x]).run P w= .ok (.slice (some ⟨p,off,none⟩) (sLen+n) sCap) w':=by
 rcases hs.kind with ⟨e',hk⟩|hk<;>simp [Builtin.append_,fC E,fC hk,sizeOf,typeInfo,hi,hs.len,B,hs.cells,nB,y']
theorem aIx{st:St}{w:bQ9}(hs:dL st Γ w){t tx e ty:bQb}{z:AV}{i:TypeInfo}{zv:bQa}(E:P.underlying t=some (.slice e))(hc:vO P e z i zv){x:bQa}{n:Nat}{new old:List AV}{vs olds:List bQa}(g':Src P i.size tx x n vs w)(hr:bU Γ new vs)(d':bU Γ old olds)
  {base:Option bQh} {sLen sCap:Nat} (M:olds.length=sLen*i.size) (hold:(Builtin.firstCells i.size sLen (.slice base sLen sCap)).run P w.drew= .ok olds.toArray w.drew) (hg:sCap<sLen+n) (h1:sLen<=10000000) (h2:n<=10000000):
  ∃v w' Γ',(Builtin.append_ #[t,tx] ty #[.slice base sLen sCap,x]).run P w= .ok v w'/\dF st Γ w (st.new ⟨old++new,false⟩) Γ' w'/\CR Γ' (.sl st.nxt 0 (sLen+n) none i.size) v:=by
 have X:(sLen+n)*i.bytes<=140737488355328:=by
  have:=bKl (show sLen+n<=20000000 by omega) hc.bytes;omega
 have Q:=run_append_grow_src (P:=P) w t tx ty e i zv E hc.info hc.zero base sLen sCap olds hold x n vs g' hg (by omega) (growslice_fits hg X)
 have k':dL st Γ w.drew:=hs.drew rfl
 have z':(Builtin.zeroCells zv.cells (grownCap w (sLen+n) sCap e-(sLen+n))).size=(grownCap w (sLen+n) sCap e-(sLen+n))*i.size:=by
  simp [Builtin.zeroCells,hc.size]
 have l':sLen+n<=grownCap w (sLen+n) sCap e:=by unfold grownCap;simp only[Question.cut];omega
 have C:bU Γ (old++new) (olds++vs):=d'.app hr
 have f':((olds++vs).toArray++Builtin.zeroCells zv.cells (grownCap w (sLen+n) sCap e-(sLen+n))).size=grownCap w (sLen+n) sCap e*i.size:=by
  rw[bM6,z']
  simp only[List.size_toArray,bJ3,M,g'.newsLen]
  rw[←bJp,←bJp];congr 1;omega
 have T:dF st Γ w.drew (st.new ⟨old++new,false⟩) (Γ.add st.nxt w.heap.size ((olds++vs).toArray++Builtin.zeroCells zv.cells (grownCap w (sLen+n) sCap e-(sLen+n))).size)
   (w.drew.alloc (.cells ((olds++vs).toArray++Builtin.zeroCells zv.cells (grownCap w (sLen+n) sCap e-(sLen+n))) e)):=
  dF.new k' (b:=⟨old++new,false⟩) (cs:=(olds++vs).toArray++Builtin.zeroCells zv.cells (grownCap w (sLen+n) sCap e-(sLen+n))) e (by
   show bU Γ (old++new) (bKS (old++new).length _)
   rw[C.length]
   simp only[Array.toList_append,List.take_left']
   simpa using C) (by rw[C.length];simp) (fun h=>by cases h)
 refine⟨_,_,_,Q,(dF.drew (w':=w.drew) hs rfl rfl rfl rfl).trans T, ?_⟩
 refine .sl (aP.add_self _ _ _ _) l' (fun k h=>by cases h) ?_
 show 0+_<=_
 rw[f'];omega
theorem dF.less{st Y R:St}{w w1:bQ9}{Γ1:aP}(h:dF st Γ w Y Γ1 w1)(hl:∀x c,R.look x c->Y.look x c)(t':∀id:Id,R.nxt.nat<=id.nat->Tr.find id R.heap=none)(hn:R.nxt=Y.nxt)(hr:R.ro=Y.ro)(hh:R.hid=Y.hid)
  (hold:∀id,id.nat<st.nxt.nat->(id.nat<st.ro\/¬st.vis id)->Tr.find id R.heap=Tr.find id st.heap):dF st Γ w R Γ1 w1:=
 ⟨⟨fun id b X=>h.sim.blk id b (hl _ _ X),fun id a0 b b' p s s' h1 h2=>h.sim.inj id a0 b b' p s s' (hl _ _ h1) (hl _ _ h2),fun id hi=>h.sim.fresh id (by rw[←hn];exact hi),t',h.sim.glob,by rw[hr];exact h.sim.flo⟩,
  h.sub,h.fl,h.same,h.os,h.tape,h.output,h.size,hr.trans h.ro,hh.trans h.hid,by rw[hn];exact h.nxt,h.frame,fun q id b s hq X=>h.wr q id b s hq (hl _ _ X),hold⟩
theorem bAP(size:Nat)(w:bQ9):(Builtin.firstCells size 0 (.slice none 0 0)).run P w= .ok ([]:List bQa).toArray w:=by simp [Builtin.firstCells]
def aAl(P:bQe)(t tx:bQb)(st:St)(Γ:aP)(w:bQ9)(vs vx:bQa)(av:AV)(st':St):Prop:=
 ∀ty,∃v w' Γ',(Builtin.append_ #[t,tx] ty #[vs,vx]).run P w= .ok v w'/\dF st Γ w st' Γ' w'/\CR Γ' av v
section
variable {st:St}{w:bQ9}(hs:dL st Γ w){t tx e e':bQb}{z:AV}{i:TypeInfo}{zv:bQa}(E:P.underlying t=some (.slice e))(hc:vO P e z i zv)(hx:P.underlying tx=some (.slice e')){vx:bQa}{n:Nat}{new:List AV}{vs:List bQa}
 (f:aGR P Γ w i.size vx new n vs) (hn:0<n) (H:n<=10000000) (h1:jC new=true)
include hs E hc hx f hn H h1
theorem aWX{k:KS}(h:tU st i.size new n k=some r):∃av st',k av st'=some r/\aAl P t tx st Γ w (.slice none 0 0) vx av st':=by
 refine⟨_,_,h,fun ty=> ?_⟩
 have:=aIx hs E hc (ty:=ty) (f.src hn hx h1) f.rel (.nil:bU Γ [] []) (base:=none) (sLen:=0) (sCap:=0) (by simp) (bAP _ _) (by omega) (by omega) H
 simpa using this
theorem aWQ{id:Id}{off len p s c:Nat}(L:Γ id=some (p,s))(A:len<=10000000)(hg:c<len+n){k:KS}(h:tY st i.size id off len n new k=some r):
  ∃av st',k av st'=some r/\aAl P t tx st Γ w (.slice (some ⟨p,off,none⟩) len c) vx av st':=by
 obtain⟨b,F,h⟩:=rI h
 obtain⟨l,h⟩:=aCQ _ _ _ _ h
 have l:off+len*i.size<=b.cells.length:=l
 obtain⟨S,s',o,j',cs,el,W,hsz,m',Z,_⟩:=hs.blkc id b F
 obtain⟨rfl,rfl⟩:S=p/\s'=s:=by rw[L]at o;injection o with o;injection o with O U;exact⟨O.symm,U.symm⟩
 rw[aBI]at h
 refine⟨_,_,h,fun ty=> ?_⟩
 have M:(((cs.toList.take b.cells.length).drop off).take (len*i.size)).length=len*i.size:=by simp;omega
 have I:∀j u,(((cs.toList.take b.cells.length).drop off).take (len*i.size))[j]? =some u->w.drew.cell? ((⟨S,off,none⟩:bQh).add j)=some u:=fun j u D=>by
  rw[nB]
  show w.cell? _=_
  rw[uU W]
  rw[bK1]at D
  split at D
  ·rw[bKd,bK1]at D
   split at D
   ·simpa using D
   ·cases D
  ·cases D
 exact aIx hs E hc (ty:=ty) (f.src hn hx h1) f.rel ((Z.drop off).take (len*i.size)) M (run_firstCells_some w.drew i.size len ⟨S,off,none⟩ len c _ M I) hg A H
theorem aYg{id:Id}{off len p s c:Nat}(L:Γ id=some (p,s))(A:len<=10000000)(_:len<=c)(hsz:off+c*i.size<=s){k:KS}(h:oA st i.size id off len n c new k=some r):
  ∃av st',k av st'=some r/\aAl P t tx st Γ w (.slice (some ⟨p,off,none⟩) len c) vx av st':=by
 rcases uN h with ⟨g,h⟩|⟨g,h⟩
 ·have B:len+n<=c:=bIU g
  obtain⟨b,F,h⟩:=rI h
  obtain⟨g2,h⟩:=aBm _ _ _ _ h
  obtain⟨g3,h⟩:=aCP h
  obtain⟨w',hr,_,a2⟩:=aCL (P:=P) hs F g3 L f.rel h1 g2
  refine⟨_,_,h,fun ty=>⟨_,w',Γ,aL7 E hc.info (f.src hn hx h1) B hr,a2, ?_⟩⟩
  exact .sl L B (fun k h=>by injection h) hsz
 ·have hg:c<len+n:=by
   rcases bIT c (len+n)with h|h
   ·exact h
   ·have:Nat.ble (Nat.add len n) c=true:=bK0 h
    rw[this]at g;cases g
  exact aWQ hs E hc hx f hn H h1 L A hg h
theorem aWO{id:Id}{off len p s c:Nat}(L:Γ id=some (p,s))(A:len<=10000000)(_:len<=c)(hsz:off+c*i.size<=s){k:KS}(h:uE st i.size id off len n new k=some r):
  ∃av st',k av st'=some r/\aAl P t tx st Γ w (.slice (some ⟨p,off,none⟩) len c) vx av st':=by
 obtain⟨g,h⟩:=eF h
 obtain rfl:=bJ0 g
 obtain⟨b,F,h⟩:=rI h
 obtain⟨l,h⟩:=aCQ _ _ _ _ h
 have l:0+len*i.size<=b.cells.length:=l
 obtain⟨d',h⟩:=aPk h
 obtain⟨S,s',o,j',cs,el,W,f',m',Z,_⟩:=hs.blkw id b F d'
 obtain⟨rfl,rfl⟩:S=p/\s'=s:=by rw[L]at o;injection o with o;injection o with O U;exact⟨O.symm,U.symm⟩
 rw[aBI]at h
 refine⟨_,_,h,fun ty=> ?_⟩
 have M:(((cs.toList.take b.cells.length).drop 0).take (len*i.size)).length=len*i.size:=by simp;omega
 have holds:bU Γ ((b.cells.drop 0).take (len*i.size)) (((cs.toList.take b.cells.length).drop 0).take (len*i.size)):=(Z.drop 0).take _
 by_cases B:len+n<=c
 ·have b8:(len+n)*i.size<=c*i.size:=bJ8 _ B
  have c5:=f.len
  have b9:(len+n)*i.size=len*i.size+n*i.size:=bJp _ _ _
  have Q:=run_storeCells_at P S (0+len*i.size) el vs 0 cs w W (by omega) (aCF f.rel h1)
  have c6:new.length=vs.length:=f.rel.length
  have O:(cs.toList.take (0+len*i.size)++vs++cs.toList.drop (0+len*i.size+vs.length)).take ((b.cells.drop 0).take (len*i.size)++new).length=((cs.toList.take b.cells.length).drop 0).take (len*i.size)++vs:=by
   have U:((b.cells.drop 0).take (len*i.size)++new).length=(cs.toList.take (0+len*i.size)++vs).length:=by simp;omega
   rw[U,List.take_left']
   ·simp only[List.drop_zero,bJl,bJC];rw[bJc (by omega)]
   ·rfl
  have n':=dF.move hs F.lk d' L (b':=⟨(b.cells.drop 0).take (len*i.size)++new,false⟩) (cs:=(cs.toList.take (0+len*i.size)++vs++cs.toList.drop (0+len*i.size+vs.length)).toArray) (aHj W) (by simp;omega) (by show List.length _<=_;simp;omega) (by
    show bU Γ _ (bKS _ (bLk _).toList)
    rw[List.toList_toArray,O]
    exact holds.app f.rel) (fun h=>by cases h)
  exact⟨_,_,_,aL7 E hc.info (f.src hn hx h1) B Q,n',.sl (aP.add_self _ _ _ _) B (fun k h=>by cases h) (by omega)⟩
 ·have I:∀j u,(((cs.toList.take b.cells.length).drop 0).take (len*i.size))[j]? =some u->w.drew.cell? ((⟨S,0,none⟩:bQh).add j)=some u:=fun j u D=>by
   rw[nB]
   show w.cell? _=_
   rw[uU W]
   rw[bK1]at D
   split at D
   ·rw[bKd,bK1]at D
    split at D
    ·simpa using D
    ·cases D
   ·cases D
  obtain⟨v,w',Γ',g1,g2,g3⟩:=aIx hs E hc (ty:=ty) (f.src hn hx h1) f.rel holds M (run_firstCells_some w.drew i.size len ⟨S,0,none⟩ len c _ M I) (by omega) A H
  have a3:id≠st.nxt:=fun e=>by rw[e,hs.fresh _ (bIK _)]at L;cases L
  refine⟨v,w',Γ',g1,g2.less ?_ ?_ rfl rfl rfl ?_,g3⟩
  ·intro x c hx
   obtain⟨q1,q2⟩:=hx
   refine⟨q1, ?_⟩
   have q2:Tr.find x (Tr.put (some ⟨_,false⟩) st.nxt (Tr.put none id st.heap))=some c:=q2
   show Tr.find x (Tr.put _ st.nxt st.heap)=some c
   by_cases O:x=st.nxt
   ·subst O;rw[Tr.put_same]at q2 ⊢;exact q2
   ·rw[Tr.put_other _ _ _ _ (fun e=>O e.symm)]at q2 ⊢
    by_cases U:x=id
    ·subst U;rw[Tr.put_same]at q2;cases q2
    ·rw[Tr.put_other _ _ _ _ (fun e=>U e.symm)]at q2;exact q2
  ·intro x hx
   have o':(Id.succ st.nxt).nat<=x.nat:=hx
   rw[Id.nat_succ]at o'
   have a4:id.nat<st.nxt.nat:=by
    rcases bIT id.nat st.nxt.nat with h1|h1
    ·exact h1
    ·have:=hs.top id h1;rw[F.lk.2]at this;cases this
   show Tr.find x (Tr.put (some _) st.nxt (Tr.put none id st.heap))=none
   rw[Tr.put_other _ _ _ _ (fun e=>by rw[←e]at o';omega),Tr.put_other _ _ _ _ (fun e=>by rw[←e]at o';omega)]
   exact hs.top x (by omega)
  ·intro x hx hr
   have a5:x≠id:=fun e=>by
    subst e
    rcases hr with hr|hr
    ·omega
    ·exact hr F.lk.1
   show Tr.find x (Tr.put (some _) st.nxt (Tr.put none id st.heap))=_
   rw[Tr.put_other _ _ _ _ (fun e=>by rw[←e]at hx;omega),Tr.put_other _ _ _ _ (fun e=>a5 e.symm)]
end
theorem aW8{st:St}{w:bQ9}(hs:dL st Γ w){t tx e e':bQb}{z:AV}{i:TypeInfo}{zv:bQa}(E:P.underlying t=some (.slice e))(hc:vO P e z i zv)(hx:P.underlying tx=some (.slice e')){s x:AV}{vs vx:bQa}(J:CR Γ s vs)(q':CR Γ x vx){k:KS}(h:vN i.size s x st k=some r):
  ∃av st',k av st'=some r/\aAl P t tx st Γ w vs vx av st':=by
 obtain⟨new,n,news,h,f⟩:=aXB (P:=P) hs q' h
 rcases uN h with ⟨g,h⟩|⟨g,h⟩
 ·obtain rfl:=bJ0 g
  obtain⟨bx,cx,rfl⟩:=f.val
  have hz:∀base sLen sCap,vs= .slice base sLen sCap->sLen<=sCap->aAl P t tx st Γ w vs (.slice bx 0 cx) s st:=fun base sLen sCap e l ty=>by
   refine⟨vs,w,Γ, ?_,.refl hs,J⟩
   rw[e];exact aUN E hx hc.info base bx sLen sCap cx l w
  rcases sJ h with ⟨e0,h'⟩|⟨e0,h'⟩|⟨id,off,len,cap,sz,e0,h'⟩
  ·rw[e0]at J;exact⟨_,_,h',hz none 0 0 (J.inv_v).1 (bIK _)⟩
  ·rw[e0]at J;obtain⟨a,c,O⟩:=J.inv_se;exact⟨_,_,h',hz _ _ _ O (bIR _)⟩
  ·rw[e0]at J;obtain⟨p,q,c,_,O,l,_⟩:=J.inv_sl;exact⟨_,_,h',hz _ _ _ O l⟩
 ·have hn:0<n:=by have:=bKa g;omega
  obtain⟨g2,h⟩:=eF h
  rw[bIN]at g2
  have H:=bIU g2.1
  rcases sJ h with ⟨rfl,h'⟩|⟨_,h'⟩|⟨id,off,len,cap,sz,rfl,h'⟩
  ·rw[(J.inv_v).1]
   exact aWX hs E hc hx f hn H g2.2 h'
  ·cases h'
  ·obtain⟨g3,h2⟩:=eF h'
   clear h'
   rw[bIN]at g3
   obtain rfl:=bJ0 g3.1
   have A:=bIU g3.2
   obtain⟨p,q,c,L,rfl,l,u',hsz⟩:=J.inv_sl
   cases cap with
   |none=>exact aWO hs E hc hx f hn H g2.2 L A l hsz h2
   |some c0=>
    obtain rfl:=u' c0 rfl
    exact aYg hs E hc hx f hn H g2.2 L A l hsz h2
theorem aVz{t:bQb}(h:xQ P t=true):∃k,P.underlying t=some (.int k):=by unfold xQ at h;split at h<;>first|exact⟨_,by assumption⟩|cases h
theorem aUI{t tn ty e:bQb}{i:TypeInfo}{kn:bQc}(E:P.underlying t=some (.slice e))(a6:P.underlying tn=some (.int kn))(hi:P.info? e=some i)(w:bQ9):
  (Builtin.append_ #[t,tn] ty #[.slice none 0 0,.int .i64 ((0:Nat):Int)]).run P w= .ok (.slice none 0 0) w:=by
 have W:IntKind.i64.wrap 0=0:=by rw[IntKind.wrap_i64];omega
 simp [Builtin.append_,fC E,fC a6,sizeOf,typeInfo,hi,asInt,asIntOf,W]
theorem aWI{st:St}{w:bQ9}(hs:dL st Γ w){t tx e:bQb}{kn:bQc}{z:AV}{i:TypeInfo}{zv:bQa}(E:P.underlying t=some (.slice e))(hc:vO P e z i zv)(hx:P.underlying tx=some (.int kn)){s x:AV}{vs vx:bQa}(J:CR Γ s vs)(q':CR Γ x vx){k:KS}(h:aCd i.size z.cells s x st k=some r):
  ∃av st',k av st'=some r/\aAl P t tx st Γ w vs vx av st':=by
 obtain⟨n,rfl,h⟩:=aIS h
 rw[q'.inv_i]
 rcases sJ h with ⟨rfl,h'⟩|⟨_,h'⟩|⟨_,_,_,_,_,_,h'⟩
 ·rw [(J.inv_v).1]
  rcases uN h' with ⟨g,h'⟩|⟨g,h'⟩
  ·obtain rfl:=bJ0 g
   exact⟨_,_,h',fun ty=>⟨_,w,Γ,aUI E hx hc.info w,.refl hs,.v ⟨fun _=>by simp,fun _=>by simp⟩⟩⟩
  ·have hn:0<n:=by have:=bKa g;omega
   obtain⟨g2,h'⟩:=eF h'
   have H:=bIU g2
   refine⟨_,_,h',fun ty=> ?_⟩
   have a':0<zv.cells.size:=by have:=hc.pos;have:=hc.size;omega
   have X:n*i.bytes<=281474976710656:=by
    have:=bKl H hc.bytes;omega
   have Q:=Lib.run_append_nil_zeros (P:=P) w t tx ty e i zv .i64 kn E hx hc.info hc.zero n hn hc.pos (by omega) X
   have C:bU Γ (iK n z.cells) (Builtin.zeroCells zv.cells n).toList:=aCZ (hc.rel Γ).cells a' n
   have hsz:∀m,(Builtin.zeroCells zv.cells m).size=m*i.size:=fun m=>by simp [Builtin.zeroCells,hc.size]
   have A:(iK n z.cells).length=n*i.size:=by rw[C.length,bKM,hsz]
   have l':n<=grownCap w n 0 e:=by unfold grownCap;simp only[Question.cut];omega
   have k':dL st Γ w.drew:=hs.drew rfl
   have f':(Builtin.zeroCells zv.cells n++Builtin.zeroCells zv.cells (grownCap w n 0 e-n)).size=grownCap w n 0 e*i.size:=by
    rw[bM6,hsz,hsz,←bJp];congr 1;omega
   have T:dF st Γ w.drew (st.new ⟨iK n z.cells,false⟩) (Γ.add st.nxt w.heap.size (Builtin.zeroCells zv.cells n++Builtin.zeroCells zv.cells (grownCap w n 0 e-n)).size)
     (w.drew.alloc (.cells (Builtin.zeroCells zv.cells n++Builtin.zeroCells zv.cells (grownCap w n 0 e-n)) e)):=
    dF.new k' (b:=⟨iK n z.cells,false⟩) (cs:=Builtin.zeroCells zv.cells n++Builtin.zeroCells zv.cells (grownCap w n 0 e-n)) e (by
     show bU Γ (iK n z.cells) (bKS (iK n z.cells).length _)
     rw[C.length,Array.toList_append,List.take_left']
     ·exact C
     ·rfl) (by show(iK n z.cells).length<=_;rw[A,bM6,hsz];omega) (fun h=>by cases h)
   refine⟨_,_,_,Q,(dF.drew (w':=w.drew) hs rfl rfl rfl rfl).trans T, ?_⟩
   refine .sl (aP.add_self _ _ _ _) l' (fun k h=>by cases h) ?_
   show 0+_<=_
   rw[f'];omega
 ·cases h'
 ·cases h'
theorem aXo{st:St}{w:bQ9}(hs:dL st Γ w){t:bQb}{y:AV}{v:bQa}(V:CR Γ y v){k:KS}(h:aGT P t y st k=some r):
  ∃st',k (.tup []) st'=some r/\∃w',(∀(G:Array bQb) (ty:bQb),G[0]? =some t->(Builtin.clear_ G ty #[v]).run P w= .ok (.tuple #[]) w')/\dF st Γ w st' Γ w':=by
 unfold aGT at h
 cases E:cU P t with
 |none=>rw[E]at h;cases h
 | some e=>
  rw[E]at h
  have h:(Bool.rec (motive:=fun _=>AV->St->KS->OR) (fun _ _ _=>none) (Option.rec (motive:=fun _=>AV->St->KS->OR) (fun _ _ _=>none) (fun z=>aGp z.cells) (iD P e)) (dJ P e)) y st k=some r:=h
  cases K:dJ P e with
  |false=>rw[K]at h;cases h
  | true=>
   rw[K]at h
   have h:(Option.rec (motive:=fun _=>AV->St->KS->OR) (fun _ _ _=>none) (fun z=>aGp z.cells) (iD P e)) y st k=some r:=h
   cases hz:iD P e with
   |none=>rw[hz]at h;cases h
   | some z=>
    rw[hz]at h
    obtain⟨i,zv,hc⟩:=aBd K hz
    have h:aGp z.cells y st k=some r:=h
    have hu:=rG E
    rcases sJ h with ⟨rfl,h'⟩|⟨rfl,h'⟩|⟨id,off,len,cap,sz,rfl,h'⟩
    ·obtain⟨rfl,_⟩:=V.inv_v
     exact⟨_,h',w,fun G ty h0=>by simp [Builtin.clear_,h0,fC hu],.refl hs⟩
    ·obtain⟨a,c,rfl⟩:=V.inv_se
     exact⟨_,h',w,fun G ty h0=>by simp [Builtin.clear_,h0,fC hu],.refl hs⟩
    ·obtain⟨p,s,c,L,rfl,l,_,hsz⟩:=V.inv_sl
     rcases uN h' with ⟨g,h'⟩|⟨g,h'⟩
     ·obtain rfl:=bJ0 g
      exact⟨_,h',w,fun G ty h0=>by simp [Builtin.clear_,h0,fC hu],.refl hs⟩
     ·have hn:0<len:=by have:=bKa g;omega
      obtain⟨g2,h'⟩:=eF h'
      rw[bIN]at g2
      obtain⟨b,F,h'⟩:=rI h'
      obtain⟨g3,h'⟩:=aBm _ _ _ _ h'
      obtain⟨g4,h'⟩:=aCP h'
      have a':0<zv.cells.size:=by have:=hc.pos;have:=hc.size;omega
      have C:bU Γ (iK len z.cells) (Builtin.zeroCells zv.cells len).toList:=aCZ (hc.rel Γ).cells a' len
      obtain⟨w',hr,_,hg⟩:=aCL (P:=P) hs F g4 L C g2.2 g3
      refine⟨_,h',w',fun G ty h0=> ?_,hg⟩
      obtain⟨m,rfl⟩:∃m,len=m+1:=⟨len-1,by omega⟩
      simp [Builtin.clear_,h0,fC hu,zeroValue,typeInfo,hc.info,hc.zero,hr]
theorem aNp{y:AV}{v:bQa}(V:CR Γ y v){k:Nat->OR}(h:aCp y k=some r):∃n b c,k n=some r/\v= .slice b n c/\(0<n->∃id off cap sz,y= .sl id off n cap sz):=by
 rcases sJ h with ⟨rfl,h'⟩|⟨rfl,h'⟩|⟨id,off,len,cap,sz,rfl,h'⟩
 ·obtain⟨rfl,_⟩:=V.inv_v
  exact⟨0,_,_,h',rfl,fun h=>absurd h (bJq 0)⟩
 ·obtain⟨a,c,rfl⟩:=V.inv_se
  exact⟨0,_,_,h',rfl,fun h=>absurd h (bJq 0)⟩
 ·obtain⟨p,s,c,L,rfl,_⟩:=V.inv_sl
  exact⟨len,_,_,h',rfl,fun _=>⟨_,_,_,_,rfl⟩⟩
theorem aY6{st:St}{w:bQ9}(hs:dL st Γ w){t:bQb}{d s:AV}{vd vs:bQa}(hd:CR Γ d vd)(v':CR Γ s vs){k:KS}(h:pN P t d s st k=some r):
  ∃n st',k (.i .i64 n) st'=some r/\∃w',(∀(G:Array bQb) (ty:bQb),G[0]? =some t->(Builtin.copy_ G ty #[vd,vs]).run P w= .ok (.int .i64 ((n:Nat):Int)) w')/\dF st Γ w st' Γ w':=by
 unfold pN at h
 cases E:cU P t with
 |none=>rw[E]at h;cases h
 | some e=>
  rw[E]at h
  have h:(Bool.rec (motive:=fun _=>AV->AV->St->KS->OR) (fun _ _ _ _=>none) (aDQ (aU P e)) (dJ P e)) d s st k=some r:=h
  cases K:dJ P e with
  |false=>rw[K]at h;cases h
  | true=>
   rw[K]at h
   have hz:∃z,iD P e=some z:=by
    unfold dJ at K
    split at K
    ·exact⟨_,by assumption⟩
    ·cases K
   obtain⟨z,hz⟩:=hz
   obtain⟨i,zv,hc⟩:=aBd K hz
   have h:aDQ (aU P e) d s st k=some r:=h
   rw[hc.szOf]at h
   have hu:=rG E
   obtain⟨ld,bd,cd,h1,rfl,a7⟩:=aNp hd h
   obtain⟨ls,bs,cs,h2,rfl,a8⟩:=aNp v' h1
   clear h h1
   have i':(Bool.rec (motive:=fun _=>Nat) ld ls (Nat.ble ls ld))=Nat.min ls ld:=by
    cases X:Nat.ble ls ld with
    |true=>
     have:=bIU X
     exact(bJc this).symm
    |false=>
     have:¬ls<=ld:=fun h=>by rw[bK0 h]at X;cases X
     show ld=Nat.min ls ld
     exact(bM0 (by omega)).symm
   rw[i']at h2
   have c7:Nat.min ls ld<=ls:=Nat.min_le_left _ _
   have c8:Nat.min ls ld<=ld:=Nat.min_le_right _ _
   have c':Nat.min ls ld=0->∀(G:Array bQb) (ty:bQb),G[0]? =some t->(Builtin.copy_ G ty #[.slice bd ld cd,.slice bs ls cs]).run P w= .ok (.int .i64 ((0:Nat):Int)) w:=fun h0 G ty r'=>by
    have a9:min ls ld=0:=h0
    cases bd<;>cases bs<;>simp [Builtin.copy_,r',fC hu,Builtin.lenOf,a9,sizeOf,typeInfo,hc.info,Builtin.firstCells,loadCells,loadCellsFrom,storeCells,goInt]
   rcases uN h2 with ⟨g,N⟩|⟨g,N⟩
   ·exact⟨0,_,N,w,c' (bJ0 g),.refl hs⟩
   ·have hn:0<Nat.min ls ld:=by have:=bKa g;omega
    generalize hN:Nat.min ls ld=n at*
    clear c' i'
    obtain⟨g2,N⟩:=eF N
    obtain⟨is,os,cap1,sz1,rfl⟩:=a8 (by omega)
    obtain⟨id,od,cap2,sz2,rfl⟩:=a7 (by omega)
    have N:eQ st is (fun b=>fR (Nat.mul n i.size) os b.cells fun new=>bT (jC new) (eQ st id fun b2=>nO new od b2.cells fun cs=>nJ st id ⟨cs,b2.exact⟩ fun st=>k (.i .i64 n) st) none)=some r:=N
    obtain⟨b,F,N⟩:=rI N
    obtain⟨l,N⟩:=aCQ _ _ _ _ N
    obtain⟨g3,N⟩:=eF N
    obtain⟨b2,x',N⟩:=rI N
    obtain⟨g4,N⟩:=aBm _ _ _ _ N
    obtain⟨g5,N⟩:=aCP N
    obtain⟨p,q,c,L,O,c9,_⟩:=v'.inv_sl
    obtain⟨p2,q2,c2,b0,U,c3,_⟩:=hd.inv_sl
    injection O with b1 e3 b3
    injection U with b4 e4 b5
    subst b1 b3 b4 b5
    obtain⟨S,s',o,j',cells,el,W,hsz,A,Z,_⟩:=hs.blkc is b F
    obtain⟨rfl,rfl⟩:S=p/\s'=q:=by rw[L]at o;injection o with o;injection o with O U;exact⟨O.symm,U.symm⟩
    have l:os+n*i.size<=b.cells.length:=l
    have C:=(Z.drop os).take (n*i.size)
    have M:(((cells.toList.take b.cells.length).drop os).take (n*i.size)).length=n*i.size:=by simp;omega
    have I:∀j u,(((cells.toList.take b.cells.length).drop os).take (n*i.size))[j]? =some u->w.cell? ((⟨S,os,none⟩:bQh).add j)=some u:=fun j u D=>by
     rw[nB,uU W]
     rw[bK1]at D
     split at D
     ·rw[bKd,bK1]at D
      split at D
      ·simpa using D
      ·cases D
     ·cases D
    have b6:=run_firstCells_some (P:=P) w i.size n ⟨S,os,none⟩ ls cs _ M I
    obtain⟨w',hr,_,hg⟩:=aCL (P:=P) hs x' g5 b0 C g3 g4
    refine⟨n,_,N,w',fun G ty r'=> ?_,hg⟩
    have b7:min ls ld=n:=hN
    simp [Builtin.copy_,r',fC hu,Builtin.lenOf,b7,sizeOf,typeInfo,hc.info,b6,goInt]
    rw[hr];rfl
end
section
abbrev FI:=List Nat×Nat
abbrev rD:=aQ->St->(eE->aQ->St->OR)->OR
abbrev IH:=FI->Code->rD
abbrev cM:=Nat->Option (List AV->St->KS->OR)
def bGY(o:bQg):List Nat:=o.op.operands.toList.filterMap fun | .tmp t=>some t|_=>none
def aKn:List bQg->List Nat->List Nat->List Nat
 | [],_,out=>out
 |o::l,wr,out=>aKn l (match o.dst with |some d=>d::wr|none=>wr) ((bGY o).foldl (fun out t=>if wr.elem t||out.elem t then out else t::out) out)
def vS:Code->List Nat->List Nat
 | .region _ h _,out=>aKn h.toList [] out
 | .seq a b,out=>vS b (vS a out)
 | .cond x a b,out=>vS b (vS a (match x with | .tmp t=>if out.elem t then out else t::out|_=>out))
 | .block _ c,out=>vS c out
 | .loop c,out=>vS c out
 | .scope c,out=>vS c out
 |_,out=>out
def nE(fn:Func)(c:Code):List Nat:=fn.results.toList.foldl (fun out r=>match r with | .tmp t=>t::out| .cell t _=>t::out) (vS c (bJh 16))
def iH(U:List Nat):List bQg->List Nat
 | []=>[]
 |o::l=>match o.dst with |some d=>if U.elem d then d::iH U l else iH U l|none=>iH U l
def lJ(N:Nat):List bQg->Bool
 | []=>true
 |o::l=>match o.dst with |some d=>Nat.ble (Nat.succ d) N&&lJ N l|none=>lJ N l
section
variable (P:bQe)(pr:cM)
def tJ:List AV->Nat->aQ:=List.rec (fun _=> .nil) (fun a _ ih n=> .cons n a (ih (Nat.succ n)))
def aGJ(t:bQb)(st:St)(y:AV)(k:KA):OR:=lC y fun id off=>eQ st id fun b=>oM P t off b.cells k
def aDW:ResultVar->aQ->St->KA->OR:=ResultVar.rec (fun t V _ k=>V.vget t k) (fun a t=>Bool.rec (fun _ _ _=>none) (fun V st k=>V.vget a fun y=>aGJ P t st y k) (dE P t))
def wF:List ResultVar->aQ->St->(List AV->OR)->OR:=
 List.rec (fun _ _ k=>k []) (fun x _ ih V st k=>aDW P x V st fun a=>ih V st fun l=>k (a::l))
def nK(l:List AV):AV:=List.rec (.tup []) (fun a m _=>List.rec a (fun b n _=> .tup (a::b::n)) m) l
def aKs(rs:List ResultVar)(k:KS):eE->aQ->St->OR:=eE.rec (fun V st=>wF P rs V st fun l=>k (nK l) st) (fun _ _ _=>none) (fun V st=>wF P rs V st fun l=>k (nK l) st)
def aGt(U:FI)(c:Code)(rs:List ResultVar):IH->List AV->St->KS->OR:=fun ih args st k=>bT (Nat.ble (lO args) 16) (bT (Nat.ble (lO args) U.2) (ih U c (tJ args 0) st (aKs P rs k)) none) none
def wS:Option Func->IH->List AV->St->KS->OR:=
 Option.rec (fun _ _ _ _=>none) (fun fn=>Option.rec (fun _ _ _ _=>none) (fun c=>aGt P (nE fn c,fn.ntmps) c fn.results.toList) fn.body)
def eO(f:Nat):IH->List AV->St->KS->OR:=Option.rec (wS P (P.funcs[f]?)) (fun p _=>p) (pr f)
def bHq(args:Array bQd)(g:bQd):IH->dQ:=fun ih L V st k=>cE g L V fun g=>jG args.toList L V fun aa=>asF g fun f first cap=>eO P pr f ih (lQ (lQ first aa) cap) st k
def aTH(b:Builtin)(args:Array bQd)(j:Array bQb):dQ:=fun L V st k=>jG args.toList L V fun l=>qV P b j l st k
def clK(c:Call):IH->dQ:=Callee.rec (fun g=>bHq P pr c.args g) (fun _ _ _ _ _ _ _=>none) (fun b _=>aTH P b c.args c.argTypes) c.callee
def kE:IH->dQ:=fun _ _ _ _ _=>none
def pu(s:dQ):IH->dQ:=fun _=>s
def dB:Op->IH->dQ:=
 Op.rec (fun x=>pu (aGl x)) (fun x=>pu (aGl x)) (fun c a b=>pu (aTd c a b)) (fun e=>pu (aFJ P e)) (fun _ x=>pu (aTz x)) (fun t ps=>pu (aG9 P t ps)) (fun t n ps=>pu (aGM P t n ps))
  (fun _ _ _ _=>kE) (fun t a=>pu (yC P t a)) (fun t a x=>pu (aBU P t a x)) (fun _=>kE) (fun _=>kE) (fun x=>pu (aTR x)) (fun op t x y _=>pu (aAE P op t x y)) (fun op _ x=>pu (aT1 op x)) (fun s d x=>pu (aGs P s d x))
  (fun _ _=>kE) (fun _ _=>kE) (fun f a b=>pu (mfK f a b)) (fun _ _=>kE) (fun _ _=>kE) (fun t l c=>pu (aCk P t l c)) (fun t x lo q mx=>pu (tA P t x lo q mx)) (fun s x f=>pu (aE9 P s x f)) (fun t x f=>pu (aGW P t x f)) (fun t x ix=>pu (aEd P t x ix)) (fun t x ix=>pu (aGQ P t x ix))
  (fun _ _ _ _=>kE) (fun _ _ _ _=>kE) (fun _ _ _=>kE) (fun _ _ _ _=>kE) (fun _ _=>kE) (fun _ _=>kE) (fun _=>kE) (fun _ _ _ _=>kE) (fun x i=>pu (aTQ x i)) (fun c=>clK P pr c)
  (fun _=>kE) (fun _=>kE) (fun _=>kE) (fun _ _=>kE) (fun _ _ _=>kE) (fun _ _=>kE)
abbrev wK:=aQ->aQ->St->(aQ->St->OR)->OR
def fV:Option Tmp->AV->aQ->aQ:=Option.rec (fun _ L=>L) (fun d a L=> .cons d a L)
def aAY(d:Option Tmp)(want:Bool):aQ->aQ->OR->OR->OR:=Option.rec (fun _ _ _ _=>none) (fun d L V y n=>L.lget V d fun a=>aKt a n fun x=>Bool.rec n y (tQ x want)) d
def aGi(o:bQg)(s:IH->dQ)(rest:IH->wK):IH->wK:=fun ih L V st k=>s ih L V st fun a st=>rest ih (fV o.dst a L) V st k
def aKa(o:bQg)(rest:IH->wK):IH->wK:=fun ih L V st k=>rest ih (fV o.dst .u L) V st k
def bFX(all:Array bQg)(o:bQg)(s rest:IH->wK):IH->wK:=Option.rec s (fun p ih L V st k=>aAY ((all[p.1]?).bind (·.dst)) p.2 L V (s ih L V st k) (aKa o rest ih L V st k)) o.guard
def lT(all:Array bQg):List bQg->IH->wK:=List.rec (fun _ L _ st k=>k L st) (fun o _ rest=>bFX all o (aGi o (dB P pr o.op) rest) rest)
def aDB:List Nat->aQ->aQ->(aQ->OR)->OR:=List.rec (fun _ V k=>k V) (fun t _ ih L V k=>L.lget .nil t fun a=>ih L (aQ.vset t a V) k)
def yO(keep:List Nat)(V:aQ)(k:eE->aQ->St->OR)(L:aQ)(st:St):OR:=aDB keep L V fun V=>k .normal V st
def aFO(U:FI)(h:Array bQg):IH->rD:=Bool.rec (fun _ _ _ _=>none) (fun ih V st k=>lT P pr h h.toList ih .nil V st (yO (iH U.1 h.toList) V k)) (lJ U.2 h.toList)
end
end
section
variable {r:AV×St}{P:bQe}{Γ:aP}
theorem aHM{l:List AV}{k:KA}(h:qT l k=some r):∃a,l=[a]/\k a=some r:=by
 cases l with
 |nil=>cases h
 |cons a l=>cases l with
  |nil=>exact⟨a,rfl,h⟩
  |cons=>cases h
theorem aMB{l:List AV}{k:AV->AV->OR}(h:wH l k=some r):∃a b,l=[a,b]/\k a b=some r:=by
 cases l with
 |nil=>cases h
 | cons a l=>cases l with
  |nil=>cases h
  |cons b l=>cases l with
   |nil=>exact⟨a,b,rfl,h⟩
   |cons=>cases h
theorem bU.inv1{a:AV}{vs:List bQa}(h:bU Γ [a] vs):∃v,vs=[v]/\CR Γ a v:=by
 cases h with |cons h t=>cases t;exact⟨_,rfl,h⟩
theorem bU.inv2{a b:AV}{vs:List bQa}(h:bU Γ [a,b] vs):∃v u,vs=[v,u]/\CR Γ a v/\CR Γ b u:=by
 cases h with |cons h t=>cases t with |cons h2 t=>cases t;exact⟨_,_,rfl,h,h2⟩
theorem aPg{k:bQc}{x y:AV}{vx vy:bQa}(D:aAM k x)(hx:CR Γ x vx)(F:CR Γ y vy){c:KA}{f g:Nat->Nat->Bool}{pm mp:Bool}{q:Int->Int->Bool}
  (h1:∀a b:Nat,q a b=f a b) (h2:∀a b:Nat,q a (Int.negSucc b)=pm) (H:∀a b:Nat,q (Int.negSucc a) b=mp) (h4:∀a b:Nat,q (Int.negSucc a) (Int.negSucc b)=g a b)
  (h:tO f g pm mp k x y c=some r):∃m n,vx= .int k m/\vy= .int k n/\c (.b (q m n))=some r:=by
 obtain⟨m,n,rfl,rfl,h⟩:=aCV D hx F h
 refine⟨m,n,rfl,rfl, ?_⟩
 rcases h with ⟨a,b,rfl,rfl,h⟩|⟨a,b,rfl,rfl,h⟩|⟨a,b,rfl,rfl,h⟩|⟨a,b,rfl,rfl,h⟩
 ·rw[h1];exact h
 ·rw[h2];exact h
 ·rw[H];exact h
 ·rw[h4];exact h
theorem aQY(a b:Nat):decide (Int.negSucc a<=Int.negSucc b)=Nat.ble b a:=by rw[bJr];simp;omega
theorem bD3{ki:bQc}{x y:AV}{vx vy:bQa}(D:aAM ki x)(hx:CR Γ x vx)(F:CR Γ y vy){c:KA}(h:yX .geq ki x y c=some r):∃m n,vx= .int ki m/\vy= .int ki n/\c (.b (decide (m≥n)))=some r:=
 aPg D hx F (q:=fun m n=>decide (m≥n)) (fun a b=>aBB b a) (fun a b=>by simp;omega) (fun a b=>by simp;omega) (fun a b=>aQY b a) h
theorem bCM{ki:bQc}{x y:AV}{vx vy:bQa}(D:aAM ki x)(hx:CR Γ x vx)(F:CR Γ y vy){c:KA}(h:yX .leq ki x y c=some r):∃m n,vx= .int ki m/\vy= .int ki n/\c (.b (decide (m<=n)))=some r:=
 aPg D hx F (q:=fun m n=>decide (m<=n)) aBB (fun a b=>by simp;omega) (fun a b=>by simp;omega) aQY h
theorem aOO{op:BinOp}{l:List AV}{k:KA}{vs:List bQa}(hc:bU Γ l vs)(h:mmK op l k=some r):
  ∃ki x y vx vy,l=[x,y]/\vs=[vx,vy]/\aAM ki x/\CR Γ x vx/\CR Γ y vy/\yX op ki x y (fun t=>oJ t fun t=>k (Bool.rec y x t))=some r:=by
 unfold mmK at h
 split at h
 ·rename_i x y
  obtain⟨v,u,rfl,h1,h2⟩:=hc.inv2
  rcases aIO h with ⟨ki,n,rfl,h'⟩|⟨ki,n,rfl,h'⟩
  ·exact⟨ki,_,_,_,_,rfl,rfl,.inl ⟨n,rfl⟩,h1,h2,h'⟩
  ·exact⟨ki,_,_,_,_,rfl,rfl,.inr ⟨n,rfl⟩,h1,h2,h'⟩
 ·cases h
theorem bC0(b:Builtin)(args:Array bQd)(j:Array bQb)(_at:Array bQb):iF P (aTH P b args j) (.call ⟨.builtin b,args,j⟩):=fun {L V st k r Γ a w o} T h hs J=>by
 obtain⟨l,hc,h⟩:=aEH hs.glob J h
 have A:(args.map a.eval)=((args.toList.map a.eval)).toArray:=by apply bKB;simp
 have B:∀v w',(∀ty cs,(builtin b j ty cs (args.map a.eval)).run P w= .ok (.value v) w')->(execOp a.eval o).run P w= .ok (.value v) w':=fun v w' I=>by
  simp only[execOp,T,resolve,Sem.run_bind,Sem.run_pure,Result.andThen_ok,invoke,I]
 cases b with
 | len=>
  cases C:j[0]? with
  |none=>unfold qV at h;rw[C]at h;cases h
  |some t=>
   unfold qV at h;rw[C]at h
   obtain⟨y,rfl,h2⟩:=aHM (h:qT l (fun y=>wA P t y fun v=>k v st)=some r)
   obtain⟨v,I,F⟩:=hc.inv1
   obtain⟨n,H,hr⟩:=aX0 (P:=P) F h2
   refine⟨_,st,H,.pure hs (B (.int .i64 n) w fun ty cs=> ?_) (.i _ _)⟩
   rw[A,I]
   simp only[builtin,Sem.run_bind,hr j ty w C,Result.andThen_ok];rfl
 | cap=>
  cases C:j[0]? with
  |none=>unfold qV at h;rw[C]at h;cases h
  |some t=>
   unfold qV at h;rw[C]at h
   obtain⟨y,rfl,h2⟩:=aHM (h:qT l (fun y=>aGB P t y fun v=>k v st)=some r)
   obtain⟨v,I,F⟩:=hc.inv1
   obtain⟨n,H,hr⟩:=aYY (P:=P) F h2
   refine⟨_,st,H,.pure hs (B (.int .i64 n) w fun ty cs=> ?_) (.i _ _)⟩
   rw[A,I]
   simp only[builtin,Sem.run_bind,hr j ty w C,Result.andThen_ok];rfl
 | clear=>
  cases C:j[0]? with
  |none=>unfold qV at h;rw[C]at h;cases h
  | some t=>
   unfold qV at h;rw[C]at h
   obtain⟨y,rfl,h2⟩:=aHM (h:qT l (fun y=>aGT P t y st k)=some r)
   obtain⟨v,I,F⟩:=hc.inv1
   obtain⟨st',H,w',hr,W⟩:=aXo (P:=P) hs F h2
   refine⟨_,st',H,fun Q K N=> ?_⟩
   have hx:=B (.tuple #[]) w' fun ty cs=>by
    rw[A,I]
    simp only[builtin,Sem.run_bind,hr j ty C,Result.andThen_ok];rfl
   unfold Oper.wp
   rw[hx]
   exact N _ w' Γ W (.tup .nil)
 | copy=>
  cases C:j[0]? with
  |none=>unfold qV at h;rw[C]at h;cases h
  | some t=>
   unfold qV at h;rw[C]at h
   obtain⟨d,s,rfl,h2⟩:=aMB (h:wH l (fun d s=>pN P t d s st k)=some r)
   obtain⟨vd,vs,I,hd,q'⟩:=hc.inv2
   obtain⟨n,st',H,w',hr,W⟩:=aY6 (P:=P) hs hd q' h2
   refine⟨_,st',H,fun Q K N=> ?_⟩
   have hx:=B (.int .i64 n) w' fun ty cs=>by
    rw[A,I]
    simp only[builtin,Sem.run_bind,hr j ty C,Result.andThen_ok];rfl
   unfold Oper.wp
   rw[hx]
   exact N _ w' Γ W (.i _ _)
 | append =>
  obtain⟨s,x,rfl,h0⟩:=aMB (h:wH l (fun s x=>aGv P j.toList s x st k)=some r)
  clear h
  have h:=h0
  clear h0
  obtain⟨vs,vx,I,h1,h2⟩:=hc.inv2
  cases M:j.toList with
  |nil=>rw[M]at h;cases h
  | cons t l1=>cases l1 with
   |nil=>rw[M]at h;cases h
   | cons u l2=>cases l2 with
    |cons=>rw[M]at h;cases h
    | nil =>
     rw[M]at h
     have h:(Option.rec (motive:=fun _=>AV->AV->St->KS->OR) (Bool.rec (motive:=fun _=>AV->AV->St->KS->OR) (fun _ _ _ _=>none) (aEa P t) (xQ P u)) (fun _=>pP P t) (cU P u)) s x st k=some r:=h
     cases hu:cU P u with
     | none=>
      rw[hu]at h
      have h:(Bool.rec (motive:=fun _=>AV->AV->St->KS->OR) (fun _ _ _ _=>none) (aEa P t) (xQ P u)) s x st k=some r:=h
      cases hi:xQ P u with
      |false=>rw[hi]at h;cases h
      | true=>
       rw[hi]at h
       obtain⟨kn,r'⟩:=aVz hi
       have h:(Option.rec (motive:=fun _=>AV->AV->St->KS->OR) (fun _ _ _ _=>none) (fun e=>Bool.rec (motive:=fun _=>AV->AV->St->KS->OR) (fun _ _ _ _=>none) (Option.rec (motive:=fun _=>AV->AV->St->KS->OR) (fun _ _ _ _=>none) (fun z=>aCd (aU P e) z.cells) (iD P e)) (dJ P e)) (cU P t)) s x st k=some r:=h
       cases C:cU P t with
       |none=>rw[C]at h;cases h
       | some e=>
        rw[C]at h
        have h:(Bool.rec (motive:=fun _=>AV->AV->St->KS->OR) (fun _ _ _ _=>none) (Option.rec (motive:=fun _=>AV->AV->St->KS->OR) (fun _ _ _ _=>none) (fun z=>aCd (aU P e) z.cells) (iD P e)) (dJ P e)) s x st k=some r:=h
        cases G:dJ P e with
        |false=>rw[G]at h;cases h
        | true=>
         rw[G]at h
         have h:(Option.rec (motive:=fun _=>AV->AV->St->KS->OR) (fun _ _ _ _=>none) (fun z=>aCd (aU P e) z.cells) (iD P e)) s x st k=some r:=h
         cases hz:iD P e with
         |none=>rw[hz]at h;cases h
         | some z=>
          rw[hz]at h
          obtain⟨i,zv,E⟩:=aBd G hz
          have h:aCd (aU P e) z.cells s x st k=some r:=h
          rw[E.szOf]at h
          obtain⟨av,st',h,X⟩:=aWI hs (rG C) E r' h1 h2 h
          refine⟨av,st',h,fun Q K N=> ?_⟩
          obtain⟨v,w',Γ',g1,g2,g3⟩:=X o.type
          have b':j= #[t,u]:=by apply bKB;simpa using M
          unfold Oper.wp
          have:(execOp a.eval o).run P w= .ok (.value v) w':=by
           simp only[execOp,T,resolve,Sem.run_bind,Sem.run_pure,Result.andThen_ok,invoke,builtin]
           rw[A,I,b',g1];rfl
          rw[this]
          exact N v w' Γ' g2 g3
     | some e'=>
      rw[hu]at h
      have h:(Option.rec (motive:=fun _=>AV->AV->St->KS->OR) (fun _ _ _ _=>none) (fun e=>Bool.rec (motive:=fun _=>AV->AV->St->KS->OR) (fun _ _ _ _=>none) (vN (aU P e)) (dJ P e)) (cU P t)) s x st k=some r:=h
      cases C:cU P t with
      |none=>rw[C]at h;cases h
      | some e=>
       rw[C]at h
       have h:(Bool.rec (motive:=fun _=>AV->AV->St->KS->OR) (fun _ _ _ _=>none) (vN (aU P e)) (dJ P e)) s x st k=some r:=h
       cases G:dJ P e with
       |false=>rw[G]at h;cases h
       | true=>
        rw[G]at h
        have hz:∃z,iD P e=some z:=by
         unfold dJ at G
         split at G
         ·exact⟨_,by assumption⟩
         ·cases G
        obtain⟨z,hz⟩:=hz
        obtain⟨i,zv,E⟩:=aBd G hz
        have h:vN (aU P e) s x st k=some r:=h
        rw[E.szOf]at h
        obtain⟨av,st',h,X⟩:=aW8 hs (rG C) E (rG hu) h1 h2 h
        refine⟨av,st',h,fun Q K N=> ?_⟩
        obtain⟨v,w',Γ',g1,g2,g3⟩:=X o.type
        have b':j= #[t,u]:=by apply bKB;simpa using M
        unfold Oper.wp
        have:(execOp a.eval o).run P w= .ok (.value v) w':=by
         simp only[execOp,T,resolve,Sem.run_bind,Sem.run_pure,Result.andThen_ok,invoke,builtin]
         rw[A,I,b',g1];rfl
        rw[this]
        exact N v w' Γ' g2 g3
 | max=>
  obtain⟨ki,x,y,vx,vy,rfl,I,D,hx,F,h0⟩:=aOO (op:= .geq) (k:=fun v=>k v st) (r:=r) hc h
  obtain⟨m,n,rfl,rfl,h1⟩:=bD3 D hx F h0
  clear h h0
  have h:k (Bool.rec (motive:=fun _=>AV) y x (decide (m≥n))) st=some r:=h1
  refine⟨_,st,h,.pure hs (B (.int ki (if n>m then n else m)) w fun ty cs=> ?_) ?_⟩
  ·rw[A,I]
   simp [builtin,Builtin.max_,Builtin.max2]
  ·by_cases O:m≥n
   ·rw[decide_eq_true O,if_neg (by omega)];exact hx
   ·rw[decide_eq_false O,if_pos (by omega)];exact F
 | min=>
  obtain⟨ki,x,y,vx,vy,rfl,I,D,hx,F,h0⟩:=aOO (op:= .leq) (k:=fun v=>k v st) (r:=r) hc h
  obtain⟨m,n,rfl,rfl,h1⟩:=bCM D hx F h0
  clear h h0
  have h:k (Bool.rec (motive:=fun _=>AV) y x (decide (m<=n))) st=some r:=h1
  refine⟨_,st,h,.pure hs (B (.int ki (if n<m then n else m)) w fun ty cs=> ?_) ?_⟩
  ·rw[A,I]
   simp [builtin,Builtin.min_,Builtin.min2]
  ·by_cases O:m<=n
   ·rw[decide_eq_true O,if_neg (by omega)];exact hx
   ·rw[decide_eq_false O,if_pos (by omega)];exact F
 |_=>cases h
def mD(P:bQe):Prop:=∀f fn,P.funcs[f]? =some fn->fn.body≠none->∀args w,(callFunc f args).run P w= .ok (.enter f args) w
def aIi(P:bQe)(f:FuncId)(vs:Array bQa)(st:St)(Γ:aP)(w:bQ9)(k:KS)(r:AV×St):Prop:=
 ∀R:Ending->bQ9->Prop,(∀av st' v w' Γ',k av st'=some r->dF st Γ w st' Γ' w'->CR Γ' av v->R (.returned v) w')->Calls P f vs w R
def aAD(P:bQe)(f:FuncId)(s:List AV->St->KS->OR):Prop:=
 ∀ {args:List AV} {st:St} {k:KS} {r:AV×St} {Γ:aP} {w:bQ9} {vs:List bQa},s args st k=some r->dL st Γ w->bU Γ args vs->aIi P f vs.toArray st Γ w k r
def lE(P:bQe)(pr:cM):Prop:=∀f p,pr f=some p->(∃fn,P.funcs[f]? =some fn/\fn.body≠none)/\aAD P f p
def aKg(P:bQe)(s:dQ)(op:Op):Prop:=
 ∀ {L V:aQ} {st:St} {k:KS} {r:AV×St} {Γ:aP} {a:Act} {w:bQ9} {o:bQg},o.op=op->s L V st k=some r->dL st Γ w->fI Γ L V a.tmps->
  ∀(Q:Exit->Act->bQ9->Prop) (K:Act->bQ9->Prop),(∀av st' v w' Γ',k av st'=some r->dF st Γ w st' Γ' w'->CR Γ' av v->K (a.put o.dst v) w')->o.wp P a w K Q
theorem jV{s:dQ}{op:Op}(h:iF P s op):aKg P s op:=fun T D hs J Q K N=>by
 obtain⟨av,st',h1,h2⟩:=h T D hs J
 exact h2 Q K fun v w' Γ' W hc=>N av st' v w' Γ' h1 W hc
def aTO:eE->Exit
 | .normal=> .normal
 | .exit id=> .exit id
 | .ret=> .ret
def aAC(V:aQ)(U:List Nat):Prop:=∀t a,V.find t=some a->t∈U
def bAB(P:bQe)(c:Code)(U:FI)(a:Act)(st:St)(Γ:aP)(w:bQ9)(k:eE->aQ->St->OR)(r:AV×St):Prop:=
 ∀Q:Exit->Act->bQ9->Prop,(∀o V' st' a' w' Γ',k o V' st'=some r->aAC V' U.1->dF st Γ w st' Γ' w'->fI Γ' .nil V' a'.tmps->a'.tmps.size=a.tmps.size->a'.defers=a.defers->Q (aTO o) a' w')->c.wp P Q a w
def aFU(P:bQe)(U:FI)(c:Code)(s:rD):Prop:=
 ∀ {V:aQ} {st:St} {k:eE->aQ->St->OR} {r:AV×St} {Γ:aP} {a:Act} {w:bQ9},s V st k=some r->dL st Γ w->fI Γ .nil V a.tmps->aAC V U.1->U.2<=a.tmps.size->bAB P c U a st Γ w k r
def pK(P:bQe)(ih:IH):Prop:=∀U c,aFU P U c (ih U c)
theorem aIr{V:aQ}{tmps:Array bQa}(h:fI Γ .nil V tmps){t:Nat}{a:AV}(C:V.find t=some a):t<tmps.size/\CR Γ a (tmps.getD t undef):=h t a C
def aCS(tmps:Array bQa):ResultVar->Sem bQa
 | .tmp t=>pure (tmps.getD t undef)
 | .cell a t=>do loadVar t (←asAddr (tmps.getD a undef))
theorem aYM{st:St}{V:aQ}(x:ResultVar){k:KA}(h:aDW P x V st k=some r):
  ∃av,k av=some r/\∀(Γ:aP) (w:bQ9) (tmps:Array bQa),dL st Γ w->fI Γ .nil V tmps->∃u,CR Γ av u/\(aCS tmps x).run P w= .ok u w:=by
 cases x with
 |tmp t=>
  obtain⟨y,h1,h2⟩:=aQ.vget_spec V t (h:V.vget t k=some r)
  exact⟨y,h2,fun Γ w tmps hs J=>⟨_,(aIr J h1).2,rfl⟩⟩
 | cell a t=>
  have h:(Bool.rec (motive:=fun _=>aQ->St->KA->OR) (fun _ _ _=>none) (fun V st k=>V.vget a fun y=>aGJ P t st y k) (dE P t)) V st k=some r:=h
  cases D:dE P t with
  |false=>rw[D]at h;cases h
  |true=>
   rw[D]at h
   obtain⟨y,h1,h2⟩:=aQ.vget_spec V a (h:V.vget a (fun y=>aGJ P t st y k)=some r)
   obtain⟨id,off,rfl,H⟩:=xF h2
   obtain⟨b,t',H⟩:=rI H
   obtain⟨av,H,h4⟩:=aIs H
   refine⟨av,H,fun Γ w tmps hs J=> ?_⟩
   obtain⟨p,s,X,e⟩:=((aIr J h1).2).inv_ptr
   obtain⟨p',s',Y,c',cs,el,hw,hsz,k',hc,_⟩:=hs.blkc id b t'
   obtain⟨rfl,rfl⟩:p'=p/\s'=s:=by rw[X]at Y;injection Y with Y;injection Y with e1 e2;exact⟨e1.symm,e2.symm⟩
   obtain⟨u,g1,g3⟩:=aLa (P:=P) D hw (by omega) hc h4
   exact⟨u,g1,by simp only[aCS,e,asAddr,Sem.run_bind,Sem.run_pure,Result.andThen_ok,g3]⟩
theorem aX4{st:St}{V:aQ}:∀(l:List ResultVar) {k:List AV->OR},wF P l V st k=some r->
  ∃aS,k aS=some r/\∀(Γ:aP) (w:bQ9) (tmps:Array bQa),dL st Γ w->fI Γ .nil V tmps->∃us,bU Γ aS us/\(l.mapM (aCS tmps)).run P w= .ok us w:=by
 intro l
 induction l with
 |nil=>intro k h;exact⟨[],h,fun Γ w tmps hs J=>⟨[],.nil,by simp⟩⟩
 |cons x l ih=>
  intro k h
  obtain⟨av,h1,h2⟩:=aYM x (h:aDW P x V st (fun a=>wF P l V st fun l=>k (a::l))=some r)
  obtain⟨aS,H,h4⟩:=ih h1
  refine⟨av::aS,H,fun Γ w tmps hs J=> ?_⟩
  obtain⟨u,g1,g2⟩:=h2 Γ w tmps hs J
  obtain⟨us,g3,g4⟩:=h4 Γ w tmps hs J
  exact⟨u::us,.cons g1 g3,by simp [bM3,g2,g4]⟩
theorem aVs{fn:Func}{tmps:Array bQa}{us:List bQa}{w:bQ9}(h:(fn.results.toList.mapM (aCS tmps)).run P w= .ok us w):(results fn tmps).run P w= .ok (if h:us.toArray.size=1 then us.toArray[0]else .tuple us.toArray) w:=by
 have e:results fn tmps=(do let vs ←fn.results.mapM (aCS tmps);pure (if h:vs.size=1 then vs[0]else .tuple vs)):=by
  unfold results
  congr 1
 rw[e]
 simp [Array.mapM_eq_mapM_toList,h]
theorem aYh{aS:List AV}{us:List bQa}(h:bU Γ aS us):CR Γ (nK aS) (if h:us.toArray.size=1 then us.toArray[0]else .tuple us.toArray):=by
 cases h with
 |nil=>exact .tup .nil
 |cons h1 t=>cases t with
  |nil=>exact h1
  |cons h2 t=>exact .tup (.cons h1 (.cons h2 t))
theorem aLP:∀(l:List AV) (n t:Nat) (a:AV),(tJ l n).find t=some a->n<=t/\l[t-n]? =some a:=by
 intro l
 induction l with
 |nil=>intro n t a h;cases h
 | cons b l ih=>
  intro n t a h
  have h0:(if n=t then some b else(tJ l (n+1)).find t)=some a:=h
  clear h
  split at h0
  ·rename_i e;subst e;exact⟨bIK _,by simpa using h0⟩
  ·obtain⟨h1,h2⟩:=ih (n+1) t a h0
   refine⟨by omega, ?_⟩
   rw[show t-n=(t-(n+1))+1 by omega];simpa using h2
theorem bG8{ih:IH}(S:pK P ih){f:FuncId}{fn:Func}(hf:P.funcs[f]? =some fn):aAD P f (wS P (some fn) ih):=fun {args st k r Γ w vs} h hs hc=>by
 have h:(Option.rec (motive:=fun _=>IH->List AV->St->KS->OR) (fun _ _ _ _=>none) (fun c=>aGt P (nE fn c,fn.ntmps) c fn.results.toList) fn.body) ih args st k=some r:=h
 cases hb:fn.body with
 |none=>rw[hb]at h;cases h
 | some c=>
  rw[hb]at h
  obtain⟨g1,h⟩:=eF (h:bT (Nat.ble (lO args) 16) (bT (Nat.ble (lO args) fn.ntmps) (ih (nE fn c,fn.ntmps) c (tJ args 0) st (aKs P fn.results.toList k)) none) none=some r)
  obtain⟨g2,h⟩:=eF h
  have g1:=bIU g1
  have g2:=bIU g2
  rw[aBR]at g1 g2
  have k':args.length=vs.length:=hc.length
  have u':fI Γ .nil (tJ args 0) (vs.toArray++bLE (fn.ntmps-vs.toArray.size) undef):=fun t y F=>by
   obtain⟨_,h2⟩:=aLP args 0 t y F
   obtain⟨v,I,v'⟩:=hc.get (by simpa using h2)
   have c':t<vs.length:=(bJs.1 I).1
   refine⟨by simp;omega, ?_⟩
   rw[bL7,Array.getElem?_append_left (by simpa using c')]
   simp only[bLl,I,bKC];exact v'
  have l':∀(l:List ResultVar) (out:List Nat) (t:Nat),t∈out->t∈l.foldl (fun out r=>match r with | .tmp t=>t::out| .cell t _=>t::out) out:=by
   intro l
   induction l with
   |nil=>intro out t h;exact h
   |cons x l ih=>intro out t h;exact ih _ t (by cases x<;>exact bJY _ h)
  have d':∀(l:List bQg) (wr out:List Nat) (t:Nat),t∈out->t∈aKn l wr out:=by
   intro l
   induction l with
   |nil=>intro wr out t h;exact h
   | cons x l ih=>
    intro wr out t h
    refine ih _ _ t ?_
    have:∀(m:List Nat) (out:List Nat),t∈out->t∈m.foldl (fun out t=>if wr.elem t||out.elem t then out else t::out) out:=by
     intro m
     induction m with
     |nil=>intro out h;exact h
     |cons y m ih=>intro out h;exact ih _ (by dsimp only;split<;>first|exact h|exact bJY _ h)
    exact this _ _ h
  have f':∀(c:Code) (out:List Nat) (t:Nat),t∈out->t∈vS c out:=by
   intro c
   induction c with
   |region id a4 d=>intro out t h;exact d' _ _ _ _ h
   |seq a b g' i'=>intro out t h;exact i' _ _ (g' _ _ h)
   |cond x a b g' i'=>
    intro out t h
    refine i' _ _ (g' _ _ ?_)
    cases x<;>first|exact h|(dsimp only;split<;>first|exact h|exact bJY _ h)
   |block id c ih=>intro out t h;exact ih _ _ h
   |loop c ih=>intro out t h;exact ih _ _ h
   |scope c ih=>intro out t h;exact ih _ _ h
   |_=>intro out t h;exact h
  have hw:aAC (tJ args 0) (nE fn c):=fun t y F=>by
   obtain⟨_,h2⟩:=aLP args 0 t y F
   have c':t<args.length:=by simpa using(bJs.1 h2).1
   exact l' _ _ _ (f' _ _ _ (List.mem_range.2 (by omega)))
  intro R hR
  refine calls_of_wp hf hb (S (nE fn c,fn.ntmps) c (a:={ tmps:=vs.toArray++bLE (fn.ntmps-vs.toArray.size) undef,defers:=[] }) h hs u' hw (by simp;omega) _ fun o V' st' a' w' Γ' D a5 W x' _ hd=> ?_)
  have m':(o= .normal\/o= .ret)/\wF P fn.results.toList V' st' (fun l=>k (nK l) st')=some r:=by
   cases o with
   |normal=>exact⟨.inl rfl,D⟩
   |exit id=>cases D
   |ret=>exact⟨.inr rfl,D⟩
  obtain⟨T,D⟩:=m'
  obtain⟨aS,q1,q2⟩:=aX4 _ D
  obtain⟨us,q3,q4⟩:=q2 Γ' w' a'.tmps W.sim x'
  have n':a'.defers=[]/\∃v,(results fn a'.tmps).run P w'= .ok v w'/\R (.returned v) w':=⟨hd,_,aVs q4,hR _ _ _ _ _ q1 W (aYh q3)⟩
  rcases T with rfl|rfl
  ·exact n'
  ·exact n'
theorem aNQ{pr:cM}(j':lE P pr){ih:IH}(S:pK P ih)(Z:mD P){f:FuncId}{args:List AV}{st:St}{k:KS}(h:eO P pr f ih args st k=some r){w:bQ9}(hs:dL st Γ w){vs:List bQa}(hc:bU Γ args vs):
  aIi P f vs.toArray st Γ w k r/\∀xs w,(callFunc f xs).run P w= .ok (.enter f xs) w:=by
 have h:(Option.rec (motive:=fun _=>IH->List AV->St->KS->OR) (wS P (P.funcs[f]?)) (fun p _=>p) (pr f)) ih args st k=some r:=h
 cases X:pr f with
 |some p=>
  rw[X]at h
  obtain⟨⟨fn,hf,hb⟩,y'⟩:=j' f p X
  exact⟨y' h hs hc,Z f fn hf hb⟩
 | none=>
  rw[X]at h
  have h:wS P (P.funcs[f]?) ih args st k=some r:=h
  cases hf:P.funcs[f]? with
  |none=>rw[hf]at h;cases h
  | some fn=>
   rw[hf]at h
   have hb:fn.body≠none:=fun e=>by
    have h:(Option.rec (motive:=fun _=>IH->List AV->St->KS->OR) (fun _ _ _ _=>none) (fun c=>aGt P (nE fn c,fn.ntmps) c fn.results.toList) fn.body) ih args st k=some r:=h
    rw[e]at h;cases h
   exact⟨bG8 S hf h hs hc,Z f fn hf hb⟩
theorem bF2{pr:cM}(j':lE P pr){ih:IH}(S:pK P ih)(Z:mD P)(c:Call):aKg P (clK P pr c ih) (.call c):=by
 obtain⟨callee,args,j⟩:=c
 cases callee with
 | value g=>
  intro L V st k r Γ a w o T h hs J Q K N
  obtain⟨vg,W,h⟩:=fP hs.glob J (h:cE g L V _=some r)
  obtain⟨l,hc,h⟩:=aEH hs.glob J h
  obtain⟨f,first,cap,rfl,h'⟩:=bBH h
  obtain⟨va,vb,e,z',a0⟩:=W.inv_fn
  rw[aBI,aBI]at h'
  obtain⟨h2,H⟩:=aNQ j' S Z h' hs ((z'.app hc).app a0)
  have hx:(execOp a.eval o).run P w= .ok (.enter f (va.toArray++args.map a.eval++vb.toArray)) w:=by
   simp only[execOp,T,resolve,Deferred.ofValue,e,Sem.run_bind,Sem.run_pure,Result.andThen_ok,invoke,H]
  have o':va.toArray++args.map a.eval++vb.toArray=(va++args.toList.map a.eval++vb).toArray:=by apply bKB;simp
  unfold Oper.wp
  rw[hx,o']
  exact h2 _ fun av st' v w' Γ' D a2 a3=>N av st' v w' Γ' D a2 a3
 |invoke=>intro L V st k r Γ a w o T h;cases h
 |builtin b=>exact jV (bC0 b args j j)
end
section
variable {r:AV×St}{P:bQe}{Γ:aP}
theorem aGa{pr:cM}(z:lE P pr){ih:IH}(A:pK P ih)(B:mD P)(op:Op):aKg P (dB P pr op ih) op:=by
 cases op with
 |move x=>exact jV (bB6 x)
 |assign x=>exact jV (aVH x)
 |pick c a b=>exact jV (aZB c a b)
 |alloc e=>exact jV (aX2 e)
 |box t x=>exact jV (bDb t x)
 |build t ps=>exact jV (aYR t ps)
 |buildSlice t n ps=>exact jV (bEf t n ps)
 |load t a=>exact jV (aZ7 t a)
 |store t a x=>exact jV (aWP t a x)
 |nilCheck x=>exact jV (bEB x)
 |binOp op t x y u=>exact jV (aX7 op t x y u)
 |unOp op t x=>exact jV (aZJ op t x)
 |convert s d x=>exact jV (aZH s d x)
 |makeFunc f a b=>exact jV (bEZ f a b)
 |makeSlice t l c=>exact jV (bCC t l c)
 |slice t x lo hi mx=>exact jV (aYP t x lo hi mx)
 |fieldAddr s x f=>exact jV (bEA s x f)
 |field t x f=>exact jV (bE7 t x f)
 |indexAddr t x ix=>exact jV (bEn t x ix)
 |index t x ix=>exact jV (bC8 t x ix)
 |extract x i=>exact jV (bCA x i)
 |call c=>exact bF2 z A B c
 |_=>intro L V st k r Γ a w o Z h;cases h
theorem uJ{tmps:Array bQa}{d:Nat}(v:bQa)(h:d<tmps.size):(tmps.setIfInBounds d v).getD d undef=v:=by
 rw[bL7,Array.getElem?_setIfInBounds_self_of_lt h];rfl
theorem aL2{tmps:Array bQa}{d t:Nat}(v:bQa)(h:d≠t):(tmps.setIfInBounds d v).getD t undef=tmps.getD t undef:=by
 rw[bL7,Array.getElem?_setIfInBounds_ne h,←bL7]
theorem fI.put{L V:aQ}{a:Act}(h:fI Γ L V a.tmps){dst:Option Tmp}{av:AV}{v:bQa}(j:∀d,dst=some d->d<a.tmps.size)(hc:CR Γ av v):fI Γ (fV dst av L) V (a.put dst v).tmps:=by
 cases dst with
 |none=>exact h
 | some d=>
  intro t b G
  have G:(if d=t then some av else L.look V t)=some b:=G
  have O:=j d rfl
  rename_i b'
  clear b'
  split at G
  ·rename_i e
   injection G with G;subst e G
   exact⟨by simpa [Act.put]using O,by simp only[Act.put];rw[uJ v O];exact hc⟩
  ·rename_i e
   obtain⟨h1,h2⟩:=h t b G
   exact⟨by simpa [Act.put]using h1,by simp only[Act.put];rw[aL2 v e];exact h2⟩
theorem aIC(a:Act)(dst:Option Tmp)(v:bQa):(a.put dst v).tmps.size=a.tmps.size:=by cases dst<;>simp [Act.put]
theorem aM8(a:Act)(dst:Option Tmp)(v:bQa):(a.put dst v).defers=a.defers:=by cases dst<;>rfl
theorem aNn{L V:aQ}{all:Array bQg}{o:bQg}{g:Nat}{want:Bool}(Z:o.guard=some (g,want)){y n:OR}(h:aAY ((all[g]?).bind (·.dst)) want L V y n=some r):
  ∃b:Bool,(if b then y else n)=some r/\∀(Γ:aP) (a:Act),fI Γ L V a.tmps->Region.wanted o (yielded all a.tmps)=b:=by
 cases j:(all[g]?).bind (·.dst)with
 |none=>rw[j]at h;cases h
 | some d=>
  rw[j]at h
  obtain⟨x,h1,h2⟩:=aQ.lget_spec L d (h:L.lget V d (fun a=>aKt a n fun x=>Bool.rec n y (tQ x want))=some r)
  have hy:∀(Γ:aP) (a:Act),fI Γ L V a.tmps->∃v,a.tmps[d]? =some v/\CR Γ x v:=fun Γ a q=>by
   obtain⟨D,H⟩:=q d x h1
   refine⟨a.tmps[d],by simp [D], ?_⟩
   have:a.tmps.getD d undef=a.tmps[d]:=by simp [Array.getD,D]
   rw[←this];exact H
  cases x with
  |b t=>
   have h2:Bool.rec (motive:=fun _=>OR) n y (tQ t want)=some r:=h2
   rw[aD3]at h2
   refine⟨t==want,by cases hh:(t==want)<;>(rw[hh]at h2;simpa using h2),fun Γ a q=> ?_⟩
   obtain⟨v,R,hc⟩:=hy Γ a q
   rw[hc.inv_b]at R
   unfold Region.wanted
   rw[Z]
   show(yielded all a.tmps g==some want)=_
   unfold yielded
   rw[j]
   simp [R]
  |u=>
   refine⟨false,h2,fun Γ a q=> ?_⟩
   obtain⟨v,R,hc⟩:=hy Γ a q
   have:v=undef:=by cases hc;rfl
   rw[this]at R
   unfold Region.wanted
   rw[Z]
   show(yielded all a.tmps g==some want)=_
   unfold yielded
   rw[j]
   simp [R,undef]
  |_=>cases h2
theorem aLm{N:Nat}{o:bQg}{l:List bQg}(h:lJ N (o::l)=true):(∀d,o.dst=some d->d<N)/\lJ N l=true:=by
 unfold lJ at h
 split at h
 ·rename_i d j
  rw[bIN]at h
  exact⟨fun d' e=>by rw[j]at e;injection e with e;subst e;exact bIU h.1,h.2⟩
 ·rename_i j
  exact⟨(fun d' e=>by rw[j]at e;cases e),h⟩
def dstsOf(l:List bQg):List Nat:=l.filterMap (·.dst)
theorem aNF{dst:Option Tmp}{av:AV}{L V:aQ}{n:Nat}(h:∀d,dst=some d->d≠n):(fV dst av L).look V n=L.look V n:=by
 cases dst with
 |none=>rfl
 |some d=>
  show(if d=n then some av else L.look V n)=_
  rw[if_neg (h d rfl)]
theorem bCL{pr:cM}(z:lE P pr){ih:IH}(A:pK P ih)(B:mD P){V:aQ}{N:Nat}(all:Array bQg):∀(l:List bQg) {L:aQ} {st:St} {k:aQ->St->OR} {Γ:aP} {a:Act} {w:bQ9},lJ N l=true->N<=a.tmps.size->lT P pr all l ih L V st k=some r->dL st Γ w->fI Γ L V a.tmps->
  ∀Q:Exit->Act->bQ9->Prop,(∀L' st' a' w' Γ',k L' st'=some r->(∀n,n ∉ dstsOf l->∀V',L'.look V' n=L.look V' n)->dF st Γ w st' Γ' w'->fI Γ' L' V a'.tmps->a'.tmps.size=a.tmps.size->a'.defers=a.defers->Q .normal a' w')->wpList P all Q l a w:=by
 intro l
 induction l with
 |nil=>intro L st k Γ a w _ _ h hs q Q S;exact S L st a w Γ h (fun _ _ _=>rfl) (.refl hs) q rfl rfl
 | cons o l c'=>
  intro L st k Γ a w j Y h hs q Q S
  obtain⟨e',f'⟩:=aLm j
  have g':∀d,o.dst=some d->d<a.tmps.size:=fun d e=>bIP (e' d e) Y
  have T:∀n,n ∉ dstsOf (o::l)->(∀d,o.dst=some d->d≠n)/\n ∉ dstsOf l:=fun n hn=>by
   refine⟨fun d e e2=>hn ?_,fun e=>hn ?_⟩
   ·subst e2;exact bLn.2 ⟨o,by simp,e⟩
   ·obtain⟨x,hx,h'⟩:=bLn.1 e
    exact bLn.2 ⟨x,by simp [hx],h'⟩
  have C:∀av I v w' Γ',lT P pr all l ih (fV o.dst av L) V I k=some r->dF st Γ w I Γ' w'->CR Γ' av v->wpList P all Q l (a.put o.dst v) w':=fun av I v w' Γ' h1 E hc=>
   c' f' (by rw[aIC];exact Y) h1 E.sim ((q.mono E.sub).put g' hc) Q fun L' st' a' i' Γ'' D H W q4 q5 q6=>S L' st' a' i' Γ'' D (fun n hn V'=>by
    obtain⟨n1,n2⟩:=T n hn
    rw[H n n2 V',aNF n1]) (E.trans W) q4 (by rw[q5,aIC]) (by rw[q6,aM8])
  have X:aGi o (dB P pr o.op) (lT P pr all l) ih L V st k=some r->Region.wanted o (yielded all a.tmps)=true->wpList P all Q (o::l) a w:=fun h F=>by
   unfold wpList
   rw[if_pos F]
   exact .inl (aGa z A B o.op rfl (h:dB P pr o.op ih L V st (fun a st=>lT P pr all l ih (fV o.dst a L) V st k)=some r) hs q _ _ fun av st' v w' Γ' D H W=>C av st' v w' Γ' D H W)
  have J:aKa o (lT P pr all l) ih L V st k=some r->Region.wanted o (yielded all a.tmps)=false->wpList P all Q (o::l) a w:=fun h F=>by
   unfold wpList
   rw[if_neg (by rw[F];simp)]
   exact C .u st undef w Γ h (.refl hs) .u
  have h:(Option.rec (motive:=fun _=>IH->wK) (aGi o (dB P pr o.op) (lT P pr all l)) (fun p ih L V st k=>aAY ((all[p.1]?).bind (·.dst)) p.2 L V (aGi o (dB P pr o.op) (lT P pr all l) ih L V st k) (aKa o (lT P pr all l) ih L V st k)) o.guard) ih L V st k=some r:=h
  cases E:o.guard with
  |none=>rw[E]at h;exact X h (by unfold Region.wanted;rw[E])
  |some p=>
   rw[E]at h
   obtain⟨b,h1,h2⟩:=aNn E h
   have h2:=h2 Γ a q
   cases b with
   |true=>exact X h1 h2
   |false=>exact J h1 h2
theorem aNC{U:List Nat}:∀ {l:List bQg} {t:Nat},t∈iH U l↔t∈dstsOf l/\t∈U:=by
 intro l
 induction l with
 |nil=>intro t;simp [iH,dstsOf]
 | cons o l ih=>
  intro t
  unfold iH dstsOf
  cases j:o.dst with
  |none=>simp only[List.filterMap_cons,j];exact ih
  | some d=>
   simp only[List.filterMap_cons,j]
   split
   ·rename_i K
    have K:d∈U:=by simpa using K
    rw[bJ4,bJ4,ih]
    constructor
    ·rintro(rfl|⟨h1,h2⟩)
     ·exact⟨.inl rfl,K⟩
     ·exact⟨.inr h1,h2⟩
    ·rintro⟨rfl|h1,h2⟩
     ·exact .inl rfl
     ·exact .inr ⟨h1,h2⟩
   ·rename_i K
    have K:d ∉ U:=by simpa using K
    rw[bJ4,ih]
    constructor
    ·rintro⟨h1,h2⟩;exact⟨.inr h1,h2⟩
    ·rintro⟨rfl|h1,h2⟩
     ·exact absurd h2 K
     ·exact⟨h1,h2⟩
theorem bAp{n:Nat}{a:AV}:∀ {L:aQ},L.look .nil n=some a->∀V,L.look V n=some a:=by
 intro L
 induction L with
 |nil=>intro h;cases h
 |cons t b e ih=>intro h V;simp only[aQ.look]at h ⊢;split<;>rename_i hh<;>simp only[hh,if_true,if_false]at h<;>first|exact h|exact ih h V
 |del t e ih=>intro h V;simp only[aQ.look]at h ⊢;split<;>rename_i hh<;>simp only[hh,if_true,if_false]at h<;>first|cases h|exact ih h V
theorem aVj{L:aQ}:∀(ts:List Nat) (V:aQ) (k:aQ->OR),aDB ts L V k=some r->
  ∃V',k V'=some r/\∀n b,V'.find n=some b->(n∈ts/\L.look .nil n=some b)\/(n ∉ ts/\V.find n=some b):=by
 intro ts
 induction ts with
 |nil=>intro V k h;exact⟨V,h,fun n b M=> .inr ⟨by simp,M⟩⟩
 | cons t ts ih=>
  intro V k h
  obtain⟨a,h1,h2⟩:=aQ.lget_spec L t (h:L.lget .nil t (fun a=>aDB ts L (aQ.vset t a V) k)=some r)
  obtain⟨V',h3,h4⟩:=ih _ k h2
  refine⟨V',h3,fun n b M=> ?_⟩
  rcases h4 n b M with ⟨g1,g2⟩|⟨g1,g2⟩
  ·exact .inl ⟨by simp [g1],g2⟩
  ·rcases aQ.find_vset t a V n b g2 with ⟨rfl,rfl⟩|⟨g3,g4⟩
   ·exact .inl ⟨by simp,h1⟩
   ·exact .inr ⟨by simp only[bJ4,not_or];exact⟨fun e=>g3 e.symm,g1⟩,g4⟩
theorem aNj{U:FI}{l:List bQg}{V L:aQ}{st:St}{k:eE->aQ->St->OR}(h:yO (iH U.1 l) V k L st=some r)(F:aAC V U.1)(hL:∀n,n ∉ dstsOf l->∀V',L.look V' n=aQ.nil.look V' n):
  ∃V',k .normal V' st=some r/\aAC V' U.1/\∀Γ tmps,fI Γ L V tmps->fI Γ .nil V' tmps:=by
 obtain⟨V',h1,h2⟩:=aVj _ _ _ h
 refine⟨V',h1,fun t b M=> ?_,fun Γ tmps q t b M=> ?_⟩
 ·rcases h2 t b M with ⟨g1,_⟩|⟨_,g2⟩
  ·exact(aNC.1 g1).2
  ·exact F t b g2
 ·rcases h2 t b M with ⟨g1,g2⟩|⟨g1,g2⟩
  ·exact q t b (bAp g2 V)
  ·have:t ∉ dstsOf l:=fun j=>g1 (aNC.2 ⟨j,F t b g2⟩)
   exact q t b (by rw[hL t this V];exact g2)
theorem aZ0{pr:cM}(z:lE P pr){ih:IH}(A:pK P ih)(B:mD P)(U:FI)(id:Nat)(m:Array bQg):aFU P U (.region id m false) (aFO P pr U m ih):=fun {V st k r Γ a w} h hs q F Y Q S=>by
 have h:(Bool.rec (motive:=fun _=>IH->rD) (fun _ _ _ _=>none) (fun ih V st k=>lT P pr m m.toList ih .nil V st (yO (iH U.1 m.toList) V k)) (lJ U.2 m.toList)) ih V st k=some r:=h
 cases j:lJ U.2 m.toList with
 |false=>rw[j]at h;cases h
 |true=>
  rw[j]at h
  refine wp_region_list (bCL z A B m m.toList j Y h hs q Q fun L' st' a' w' Γ' D H W q4 q5 q6=> ?_)
  obtain⟨V',g1,g2,g3⟩:=aNj D F H
  exact S .normal V' st' a' w' Γ' g1 g2 W (g3 Γ' _ q4) q5 q6
end
section
def aGw:List UInt8->List UInt8->Bool
 | [],[]=>true
 |a::l,b::m=>Nat.beq a.toNat b.toNat&&aGw l m
 |_,_=>false
theorem aNi:∀ {l m:List UInt8},aGw l m=true->l=m
 | [],[],_=>rfl
 |a::l,b::m,h=>by
  have h:(Nat.beq a.toNat b.toNat&&aGw l m)=true:=h
  rw[bIN]at h
  rw[UInt8.toNat_inj.1 (bJ0 h.1),aNi h.2]
 | [],_::_,h=>by cases h
 |_::_,[],h=>by cases h
def eqV:bQa->bQa->Bool
 | .string s,.string t=>aGw s.data.toList t.data.toList
 | .pointer none,.pointer none=>true
 | .slice none a b,.slice none c d=>Nat.beq a c&&Nat.beq b d
 | .map none,.map none=>true
 | .nilFunc,.nilFunc=>true
 | .nilIface,.nilIface=>true
 |_,_=>false
theorem bAW{x y:bQa}(h:eqV x y=true):x=y:=by
 unfold eqV at h
 split at h
 ·rename_i s t
  have:=aNi h
  obtain⟨s⟩:=s
  obtain⟨t⟩:=t
  rw[show s=t from bKB this]
 ·rfl
 ·simp at h;simp [h]
 ·rfl
 ·rfl
 ·rfl
 ·cases h
def aGz:AV->AV->Bool
 | .b x,.b y=>x==y
 | .i k n,.i l m=>decide (k=l)&&Nat.beq n m
 | .m k n,.m l m=>decide (k=l)&&Nat.beq n m
 | .v x,.v y=>eqV x y
 | .u,.u=>true
 | .se,.se=>true
 | .ptr a n,.ptr b m=>decide (a=b)&&Nat.beq n m
 | .fn (.func f) [] [],.fn (.func g) [] []=>Nat.beq f g
 | .sl a o l none s,.sl b p m none t=>decide (a=b)&&Nat.beq o p&&Nat.beq l m&&Nat.beq s t
 | .sl a o l (some c) s,.sl b p m (some d) t=>decide (a=b)&&Nat.beq o p&&Nat.beq l m&&Nat.beq c d&&Nat.beq s t
 |_,_=>false
def eqL:List AV->List AV->Bool
 | [],[]=>true
 |a::l,b::m=>aGz a b&&eqL l m
 |_,_=>false
def sC:Option cH->Option cH->Bool
 |none,none=>true
 |some a,some b=>eqL a.cells b.cells&&a.exact==b.exact
 |_,_=>false
theorem aXs{a b:AV}(h:aGz a b=true):a=b:=by
 unfold aGz at h
 split at h<;>first|rfl|(cases h;done)|(rw[bAW h];done)|(simp at h;simp [h])
theorem aO8:∀ {l m:List AV},eqL l m=true->l=m
 | [],[],_=>rfl
 |a::l,b::m,h=>by
  have h:(aGz a b&&eqL l m)=true:=h
  rw[bIN]at h
  rw[aXs h.1,aO8 h.2]
 | [],_::_,h=>by cases h
 |_::_,[],h=>by cases h
theorem aOR{a b:Option cH}(h:sC a b=true):a=b:=by
 unfold sC at h
 split at h
 ·rfl
 ·rename_i x y
  rw[bIN]at h
  obtain⟨c,e⟩:=x
  obtain⟨d,f⟩:=y
  have h1:=aO8 h.1
  have h2:e=f:=by simpa using h.2
  subst h1 h2;rfl
 ·cases h
structure dI where
 n0:Nat
 n1:Nat
 hid:List (Nat×Nat)
 wr:List (Nat×Nat)
 rd:Option Id
 h0:Tr
 h1:Tr
 wild:Bool
def jX(o:bQg):List Nat:=(o.after.toList.filter (Region.binds .any)).map (·.on)
def pC(acc:List Nat)(l:List Nat):Nat:=l.foldl (fun s e=>Nat.lor s (Nat.lor (Nat.pow 2 e) (acc.getD e 0))) 0
def dH:List bQg->List Nat->List Nat
 | [],acc=>acc
 |o::l,acc=>dH l (acc++[pC acc (jX o)])
def gB(ms:List Nat)(i j:Nat):Bool:=if i<j then(ms.getD j 0).testBit i else(ms.getD i 0).testBit j
structure gM where
 un:List Bool
 del:List Nat
 adr:List Nat
 tot:Bool
def sL:Op->Option (bQb×bQd×bQd)
 | .store t a x=>some (t,a,x)
 |_=>none
def bFO(w:List bQg)(ms:List Nat)(i:Nat):List Nat:=
 (bJh w.length).filterMap fun m=>if i<m&& !gB ms i m then(match (w[m]?).bind (fun o=>sL o.op)with |some (_,.tmp t,_)=>if (w.filterMap (·.dst)).elem t then none else some t|_=>none)else none
def eT:Op->Option (Option bQd)
 | .move _=>some none
 | .assign _=>some none
 | .pick _ _ _=>some none
 | .alloc _=>some none
 | .box _ _=>some none
 | .build _ _=>some none
 | .buildSlice _ _ _=>some none
 | .load _ a=>some (some a)
 | .nilCheck _=>some none
 | .binOp _ _ _ _ _=>some none
 | .unOp _ _ _=>some none
 | .makeFunc _ _ _=>some none
 | .slice _ _ _ _ _=>some none
 | .fieldAddr _ _ _=>some none
 | .field _ _ _=>some none
 | .indexAddr _ _ _=>some none
 | .index _ _ _=>some none
 | .extract _ _=>some none
 | .call ⟨.builtin .len,_,_⟩=>some none
 | .convert _ _ _=>some none
 |_=>none
def wG(w:List bQg)(i:Nat):Bool:=match w[i]? with |some o=>(eT o.op).isSome|none=>false
def bHj(w:List bQg)(i:Nat):Bool:=match w[i]? with |some o=>(match o.op with | .call ⟨.value _,_,_⟩=>true|_=>false)|none=>false
def bI4(w:List bQg)(i:Nat):Bool:=match w[i]? with |some o=>(sL o.op).isSome|none=>false
def ldB(w:List bQg)(i:Nat):Bool:=match w[i]? with |some o=>(match o.op with | .load _ _=>true|_=>false)|none=>false
def gY(ext:Bool)(w:List bQg)(ms:List Nat)(i:Nat):gM:=
 { un:=(bJh i).reverse.map fun j=> !gB ms j i
   del:=(bJh w.length).filterMap fun m=>if m != i&& !gB ms m i then(w[m]?).bind (·.dst)else none
   adr:=bFO w ms i
   tot:= !(ext&&bHj w i)&& !(bI4 w i&&(bJh w.length).any fun m=>ldB w m&& !gB ms m i&& !gB ms i m)&&(!wG w i&&(bJh w.length).all fun m=>m==i||gB ms m i||wG w m) }
def gL(ext:Bool)(w:List bQg):List (bQg×gM):=w.zip ((bJh w.length).map (gY ext w (dH w [])))
def eS(w:List bQg):Bool:=
 let ms:=dH w []
 (bJh w.length).all fun i=>match w[i]? with
  |some o=>(jX o).all (fun m=>m<i)&&(match o.guard with |some (g,_)=>(jX o).elem g|none=>true)&&
   (bJh i).all fun j=>gB ms j i||o.dst.isNone||o.dst != (w[j]?).bind (·.dst)
  |none=>false
def qS(l m:List (Nat×Nat)):List (Nat×Nat):=List.rec m (fun a _ ih=>a::ih) l
def wB(r:dI)(l:List (Nat×Nat)):List (Nat×Nat):=qS r.wr (Bool.rec ((r.n0,r.n1)::l) l (Nat.ble r.n1 r.n0))
def cF:List Bool->List dI->List (Nat×Nat)->List (Nat×Nat):=List.rec (fun _ b=>b) (fun u _ ih rs b=>List.rec b (fun r rs _=>Bool.rec (ih rs b) (wB r (ih rs b)) u) rs)
def rA:List Nat->aQ->(List (Nat×Nat)->OR)->OR:=List.rec (fun _ k=>k []) (fun t _ ih V k=>V.vget t fun y=>lC y fun id _=>ih V fun l=>k ((id.nat,Nat.succ id.nat)::l))
def dP:List Nat->aQ->aQ:=List.rec (fun L=>L) (fun t _ ih L=> .del t (ih L))
def fT:KS:=fun a st=>some (a,st)
def lU(x:OR)(k:KS):OR:=Option.rec none (fun p=>k p.1 p.2) x
def mI(n:Nat)(l:List (Nat×Nat)):Bool:=List.rec false (fun p _ ih=>Bool.rec ih (Bool.rec true ih (Nat.ble p.2 n)) (Nat.ble p.1 n)) l
def qR(n:Nat):List Bool->List dI->Bool:=List.rec (fun _=>true) (fun u _ ih rs=>List.rec true (fun r rs _=>Bool.rec (ih rs) (Bool.rec (Bool.rec false (ih rs) (mI n r.hid)) (ih rs) (Nat.ble r.n0 n)) u) rs)
def aAG(x:Id)(r:dI):Bool:=Bool.rec (Nat.ble r.n1 x.nat) (Bool.rec true (sC (Tr.find x r.h0) (Tr.find x r.h1)) r.wild) (Nat.ble (Nat.succ x.nat) r.n0)
def oK(x:Id):List Bool->List dI->Bool:=List.rec (fun _=>true) (fun u _ ih rs=>List.rec true (fun r rs _=>Bool.rec (ih rs) (Bool.rec false (ih rs) (aAG x r)) u) rs)
def kY(h0 h1:Tr):List Bool->List dI->Bool:=List.rec (fun _=>true) (fun u _ ih rs=>List.rec true (fun r rs _=>Bool.rec (ih rs) (Option.rec (ih rs) (fun x=>Bool.rec false (ih rs) (sC (Tr.find x h0) (Tr.find x h1))) r.rd) u) rs)
def eN(n:Nat)(x:Option Id):List (Nat×Nat):=Option.rec [(0,n)] (fun x=>[(0,x.nat),(Nat.succ x.nat,n)]) x
section
variable (P:bQe)(pr:cM)
abbrev gC:=List dI->aQ->aQ->St->(aQ->St->OR)->OR
def dN(h:List (Nat×Nat))(st:St):St:=St.rec (fun heap nxt _ hid=>⟨heap,nxt,nxt.nat,qS h hid⟩) st
def eD(h:List (Nat×Nat))(st:St):St:=St.rec (fun heap nxt ro hid=>⟨heap,nxt,ro,qS h hid⟩) st
def dS(st st':St):St:=St.rec (fun heap nxt _ _=>St.rec (fun _ _ ro hid=>⟨heap,nxt,ro,hid⟩) st) st'
def goT(o:bQg)(p:gM)(s:dQ)(rest:gC):gC:=fun recs L V st k=>
 lU (s (dP p.del L) V (eD (cF p.un recs []) st) fT) fun a st'=>bT (kY st.heap st'.heap p.un recs) (rest (⟨st.nxt.nat,st'.nxt.nat,cF p.un recs [],[],none,st.heap,st'.heap,true⟩::recs) (fV o.dst a L) V (dS st st') k) none
def goE(o:bQg)(p:gM)(s:dQ)(rest:gC):gC:=fun recs L V st k=>rA p.adr V fun ah=>
 lU (s (dP p.del L) V (dN (cF p.un recs ah) st) fT) fun a st'=>rest (⟨st.nxt.nat,st'.nxt.nat,cF p.un recs ah,[],none,st.heap,st'.heap,false⟩::recs) (fV o.dst a L) V (dS st st') k
def aGC(st:St)(t:bQb)(h:List (Nat×Nat))(us:List Bool)(recs:List dI)(id:Id)(off:Nat)(v:AV)(k:St->OR):OR:=
 bT (qR id.nat us recs) (eQ (eD h st) id fun b=>bT (Nat.beq (lO v.cells) (aU P t)) (bT (jC v.cells) (nO v.cells off b.cells fun cs=>nJ (eD h st) id ⟨cs,b.exact⟩ k) none) none) none
def goS(o:bQg)(p:gM)(q:bQb×bQd×bQd)(rest:gC):gC:=fun recs L V st k=>rA p.adr V fun ah=>
 cE q.2.1 (dP p.del L) V fun y=>cE q.2.2 (dP p.del L) V fun v=>lC y fun id off=>bT (dE P q.1) (aGC P st q.1 (cF p.un recs ah) p.un recs id off v fun st'=>rest (⟨st.nxt.nat,st.nxt.nat,cF p.un recs ah,[(id.nat,Nat.succ id.nat)],none,st.heap,st'.heap,true⟩::recs) (fV o.dst .u L) V (dS st st') k) none
def uG(o:bQg)(p:gM)(s:dQ)(rest:gC)(x:Option Id):gC:=fun recs L V st k=>
 lU (s (dP p.del L) V (dN (eN st.nxt.nat x) st) fT) fun a st'=>rest (⟨st.nxt.nat,st'.nxt.nat,eN st.nxt.nat x,[],x,st.heap,st'.heap,false⟩::recs) (fV o.dst a L) V (dS st st') k
def goX(o:bQg)(p:gM)(s:dQ)(rest:gC)(x:Option bQd):gC:=Option.rec (uG o p s rest none) (fun x recs L V st k=>cE x (dP p.del L) V fun y=>lC y fun id _=>bT (Nat.ble id.nat st.nxt.nat) (bT (oK id p.un recs) (uG o p s rest (some id) recs L V st k) none) none) x
def nP(o:bQg)(p:gM)(s:dQ)(rest:gC):gC:=Option.rec (Bool.rec (Option.rec (goE o p s rest) (fun q=>goS P o p q rest) (sL o.op)) (goT o p s rest) p.tot) (fun x=>goX o p s rest x) (eT o.op)
def aKe(o:bQg)(rest:gC):gC:=fun recs L V st k=>rest (⟨st.nxt.nat,st.nxt.nat,[(0,st.nxt.nat)],[],none,st.heap,st.heap,false⟩::recs) (fV o.dst .u L) V st k
def aC6(all:Array bQg)(o:bQg)(p:gM)(s:dQ)(rest:gC):gC:=Option.rec (nP P o p s rest) (fun g recs L V st k=>aAY ((all[g.1]?).bind (·.dst)) g.2 (dP p.del L) V (nP P o p s rest recs L V st k) (aKe o rest recs L V st k)) o.guard
def qO(all:Array bQg)(ih:IH):List (bQg×gM)->gC:=List.rec (fun _ L _ st k=>k L st) (fun q _ rest=>aC6 P all q.1 q.2 (dB P pr q.1.op ih) rest)
def aGj(ext:Bool)(U:FI)(w:Array bQg):IH->rD:=Bool.rec (fun _ _ _ _=>none) (fun ih V st k=>bT (Nat.ble st.ro st.nxt.nat) (qO P pr w ih (gL ext w.toList) [] .nil V st (yO (iH U.1 w.toList) V k)) none) (lJ U.2 w.toList&&eS w.toList)
end
end
section
variable {r:AV×St}{P:bQe}{ext:Bool}
theorem uV(l m:List (Nat×Nat)):qS l m=l++m:=by
 induction l with
 |nil=>rfl
 |cons a l ih=>show a::qS l m=_;rw[ih];rfl
theorem aHU{x:OR}{k:KS}(h:lU x k=some r):∃av st,x=some (av,st)/\k av st=some r:=by
 cases x with
 |none=>cases h
 |some p=>exact⟨p.1,p.2,rfl,h⟩
theorem aJ9{L V:aQ}{x:bQd}{k:KA}(h:cE x L V k=some r):∃y,k y=some r/\∀(Γ:aP) (a:Act),pT Γ->fI Γ L V a.tmps->CR Γ y (a.eval x):=by
 cases x with
 |tmp t=>
  obtain⟨y,h1,h2⟩:=aQ.lget_spec L t (h:L.lget V t k=some r)
  exact⟨y,h2,fun Γ a _ M=>(M t y h1).2⟩
 |const v=>
  have h':yM (aC v) L V k=some r:=h
  cases C:aC v with
  |none=>rw[C]at h';cases h'
  |some y=>rw[C]at h';exact⟨y,h',fun Γ _ _ _=>aHp Γ C⟩
 | global g=>
  have h':yM (Bool.rec none (some (.ptr (hH g) 0)) (Nat.ble (Nat.succ g) G0)) L V k=some r:=h
  cases H:Nat.ble (Nat.succ g) G0 with
  |false=>rw[H]at h';cases h'
  |true=>
   rw[H]at h'
   exact⟨.ptr (hH g) 0,h',fun Γ _ A _=>let ⟨s,e⟩:=A g (bIU H); .ptr e⟩
 |func f=>exact⟨_,h,fun _ _ _ _=> .fn .nil .nil⟩
theorem aNv{V:aQ}:∀(ts:List Nat) (k:List (Nat×Nat)->OR),rA ts V k=some r->∃ah,k ah=some r/\∀p∈ah,∃(id:Id) (t off:Nat),V.find t=some (.ptr id off)/\p=(id.nat,id.nat+1):=by
 intro ts
 induction ts with
 |nil=>intro k h;exact⟨[],h,fun p hp=>by cases hp⟩
 | cons t ts ih=>
  intro k h
  obtain⟨a,h1,h2⟩:=aQ.vget_spec V t (h:V.vget t _=some r)
  obtain⟨id,off,rfl,B⟩:=xF h2
  obtain⟨ah,D,Q⟩:=ih _ B
  exact⟨_,D,fun p hp=>by
   rcases bJ4.1 hp with rfl|hp
   ·exact⟨id,t,off,h1,rfl⟩
   ·exact Q p hp⟩
structure gO where
 recs:List dI
 L:aQ
 st:St
def gO.n(s:gO):Nat:=s.st.nxt.nat
inductive Way(P:bQe)(pr:cM)(ih:IH)(V:aQ)(o:bQg)(p:gM)(s:gO)(av:AV)(s':gO):Bool->Prop
 |pass (R:av= .u) (hs:s'.st=s.st) (F:s'.recs=⟨s.n,s.n,[(0,s.n)],[],none,s.st.heap,s.st.heap,false⟩::s.recs):Way P pr ih V o p s av s' false
 |tot (c:St) (u:p.tot=true) (N:dB P pr o.op ih (dP p.del s.L) V (eD (cF p.un s.recs []) s.st) fT=some (av,c)) (hc:kY s.st.heap c.heap p.un s.recs=true) (hs:s'.st=dS s.st c) (F:s'.recs=⟨s.n,c.nxt.nat,cF p.un s.recs [],[],none,s.st.heap,c.heap,true⟩::s.recs):Way P pr ih V o p s av s' true
 |ext (ah:List (Nat×Nat)) (j:∀p∈ah,∃(id:Id) (t off:Nat),V.find t=some (.ptr id off)/\p=(id.nat,id.nat+1)) (c:St) (u:p.tot=false/\eT o.op=none) (N:dB P pr o.op ih (dP p.del s.L) V (dN (cF p.un s.recs ah) s.st) fT=some (av,c)) (hs:s'.st=dS s.st c) (F:s'.recs=⟨s.n,c.nxt.nat,cF p.un s.recs ah,[],none,s.st.heap,c.heap,false⟩::s.recs):Way P pr ih V o p s av s' true
 |shy (x:Option Id) (hx:∀id,x=some id->oK id p.un s.recs=true/\id.nat<=s.n) (d:(eT o.op).isSome=true) (c:St) (N:dB P pr o.op ih (dP p.del s.L) V (dN (eN s.n x) s.st) fT=some (av,c)) (hs:s'.st=dS s.st c) (F:s'.recs=⟨s.n,c.nxt.nat,eN s.n x,[],x,s.st.heap,c.heap,false⟩::s.recs):Way P pr ih V o p s av s' true
 | sto (ah:List (Nat×Nat)) (j:∀p∈ah,∃(id:Id) (t off:Nat),V.find t=some (.ptr id off)/\p=(id.nat,id.nat+1)) (T:p.tot=false) (t:bQb) (x y:bQd) (O:o.op= .store t x y) (G:dE P t=true) (R:av= .u) (id:Id) (off:Nat) (v:AV) (b:cH)
   (hx:∀(Γ:aP) (a:Act),pT Γ->fI Γ (dP p.del s.L) V a.tmps->CR Γ (.ptr id off) (a.eval x)) (hy:∀(Γ:aP) (a:Act),pT Γ->fI Γ (dP p.del s.L) V a.tmps->CR Γ v (a.eval y))
   (hc:qR id.nat p.un s.recs=true) (M:(eD (cF p.un s.recs ah) s.st).lookc id b) (h1:Nat.beq (lO v.cells) (aU P t)=true) (h2:jC v.cells=true) (B:off+v.cells.length<=b.cells.length) (U:s.st.ro<=id.nat)
   (hs:s'.st=⟨Tr.put (some ⟨b.cells.take off++v.cells++b.cells.drop (off+v.cells.length),b.exact⟩) id s.st.heap,s.st.nxt,s.st.ro,s.st.hid⟩) (F:s'.recs=⟨s.n,s.n,cF p.un s.recs ah,[(id.nat,id.nat+1)],none,s.st.heap,s'.st.heap,true⟩::s.recs):Way P pr ih V o p s av s' true
structure Trans(P:bQe)(pr:cM)(all:Array bQg)(ih:IH)(V:aQ)(o:bQg)(p:gM)(s:gO)(av:AV)(s':gO):Prop where
 slot:s'.L=fV o.dst av s.L
 way:∃want:Bool,(∀(Γ:aP) (a:Act),fI Γ (dP p.del s.L) V a.tmps->Region.wanted o (yielded all a.tmps)=want)/\Way P pr ih V o p s av s' want
theorem aOI{pr:cM}{ih:IH}{all:Array bQg}{V:aQ}{o:bQg}{p:gM}{s:gO}{rest:gC}{k:aQ->St->OR}{x:Option Id}(z:∀(Γ:aP) (a:Act),fI Γ (dP p.del s.L) V a.tmps->Region.wanted o (yielded all a.tmps)=true)
  (hx:∀id,x=some id->oK id p.un s.recs=true/\id.nat<=s.n) (d:(eT o.op).isSome=true) (h:uG o p (dB P pr o.op ih) rest x s.recs s.L V s.st k=some r):∃av s',Trans P pr all ih V o p s av s'/\rest s'.recs s'.L V s'.st k=some r:=by
 obtain⟨av,c,h1,h2⟩:=aHU (h:lU (dB P pr o.op ih (dP p.del s.L) V (dN (eN s.st.nxt.nat x) s.st) fT) _=some r)
 exact⟨av,⟨_,_,_⟩,⟨rfl,true,z,.shy x hx d c h1 rfl rfl⟩,h2⟩
theorem aO9{pr:cM}{ih:IH}{all:Array bQg}{V:aQ}{o:bQg}{p:gM}{s:gO}{rest:gC}{k:aQ->St->OR}(z:∀(Γ:aP) (a:Act),fI Γ (dP p.del s.L) V a.tmps->Region.wanted o (yielded all a.tmps)=true)
  (h:nP P o p (dB P pr o.op ih) rest s.recs s.L V s.st k=some r):∃av s',Trans P pr all ih V o p s av s'/\rest s'.recs s'.L V s'.st k=some r:=by
 have h:(Option.rec (motive:=fun _=>gC) (Bool.rec (motive:=fun _=>gC) (Option.rec (motive:=fun _=>gC) (goE o p (dB P pr o.op ih) rest) (fun q=>goS P o p q rest) (sL o.op)) (goT o p (dB P pr o.op ih) rest) p.tot) (fun x=>goX o p (dB P pr o.op ih) rest x) (eT o.op)) s.recs s.L V s.st k=some r:=h
 cases d:eT o.op with
 | some x=>
  rw[d]at h
  have w:(eT o.op).isSome=true:=by rw[d];rfl
  cases x with
  |none=>exact aOI z (fun id e=>by cases e) w (h:uG o p (dB P pr o.op ih) rest none s.recs s.L V s.st k=some r)
  |some x=>
   obtain⟨y,h1,_⟩:=aJ9 (h:cE x (dP p.del s.L) V _=some r)
   obtain⟨id,off,rfl,h2⟩:=xF h1
   obtain⟨h0,h2⟩:=eF h2
   obtain⟨B,D⟩:=eF h2
   exact aOI z (fun W e=>by(injection e with e;rw[←e];exact⟨B,bIU h0⟩)) w D
 |none=>
 rw[d]at h
 have h:(Bool.rec (motive:=fun _=>gC) (Option.rec (motive:=fun _=>gC) (goE o p (dB P pr o.op ih) rest) (fun q=>goS P o p q rest) (sL o.op)) (goT o p (dB P pr o.op ih) rest) p.tot) s.recs s.L V s.st k=some r:=h
 cases u:p.tot with
 |true=>
  rw[u]at h
  obtain⟨av,c,h1,h2⟩:=aHU (h:lU (dB P pr o.op ih (dP p.del s.L) V (eD (cF p.un s.recs []) s.st) fT) _=some r)
  obtain⟨B,D⟩:=eF h2
  exact⟨av,⟨_,_,_⟩,⟨rfl,true,z,.tot c u h1 B rfl rfl⟩,D⟩
 | false=>
  rw[u]at h
  cases hq:sL o.op with
  |none=>
   rw[hq]at h
   obtain⟨ah,h,j⟩:=aNv _ _ (h:rA p.adr V _=some r)
   obtain⟨av,c,h1,h2⟩:=aHU h
   exact⟨av,⟨_,_,_⟩,⟨rfl,true,z,.ext ah j c ⟨u,d⟩ h1 rfl rfl⟩,h2⟩
  | some q=>
   rw[hq]at h
   obtain⟨t,x,y⟩:=q
   have O:o.op= .store t x y:=by
    unfold sL at hq
    split at hq
    ·rename_i e;injection hq with hq;injection hq with X I;injection I with I Y;subst X I Y;exact e
    ·cases hq
   obtain⟨ah,h,j⟩:=aNv _ _ (h:rA p.adr V _=some r)
   obtain⟨ya,h,J⟩:=aJ9 h
   obtain⟨v,h,C⟩:=aJ9 h
   obtain⟨id,off,rfl,h⟩:=xF h
   obtain⟨G,h⟩:=eF h
   obtain⟨g1,h⟩:=eF h
   obtain⟨b,g2,h⟩:=rI h
   obtain⟨g3,h⟩:=eF h
   obtain⟨g4,h⟩:=eF h
   obtain⟨Z,h⟩:=aBm _ _ _ _ h
   obtain⟨g6,h⟩:=aCP h
   exact⟨.u,⟨_,_,_⟩,⟨rfl,true,z,.sto ah j u t x y O G rfl id off v b J C g1 g2 g3 g4 Z g6 rfl rfl⟩,h⟩
theorem aW1{pr:cM}{ih:IH}{all:Array bQg}{V:aQ}{o:bQg}{p:gM}{s:gO}{rest:gC}{k:aQ->St->OR}
  (h:aC6 P all o p (dB P pr o.op ih) rest s.recs s.L V s.st k=some r):∃av s',Trans P pr all ih V o p s av s'/\rest s'.recs s'.L V s'.st k=some r:=by
 have h:(Option.rec (motive:=fun _=>gC) (nP P o p (dB P pr o.op ih) rest) (fun g recs L V st k=>aAY ((all[g.1]?).bind (·.dst)) g.2 (dP p.del L) V (nP P o p (dB P pr o.op ih) rest recs L V st k) (aKe o rest recs L V st k)) o.guard) s.recs s.L V s.st k=some r:=h
 cases A:o.guard with
 |none=>rw[A]at h;exact aO9 (fun Γ a _=>by unfold Region.wanted;rw[A]) h
 |some g=>
  rw[A]at h
  obtain⟨b,h1,h2⟩:=aNn A h
  cases b with
  |true=>exact aO9 h2 h1
  |false=>exact⟨.u,⟨_,_,_⟩,⟨rfl,false,h2,.pass rfl rfl rfl⟩,h1⟩
theorem aWt{pr:cM}{ih:IH}{all:Array bQg}{V:aQ}:∀(l:List (bQg×gM)) (s:gO) (k:aQ->St->OR),qO P pr all ih l s.recs s.L V s.st k=some r->
  ∃(S:Nat->gO) (av:Nat->AV),S 0=s/\k (S l.length).L (S l.length).st=some r/\∀i o p,l[i]? =some (o,p)->Trans P pr all ih V o p (S i) (av i) (S (i+1)):=by
 intro l
 induction l with
 |nil=>intro s k h;exact⟨fun _=>s,fun _=> .u,rfl,h,fun i o p E=>by simp at E⟩
 | cons q l K=>
  intro s k h
  obtain⟨av,s',u,h'⟩:=aW1 (h:aC6 P all q.1 q.2 (dB P pr q.1.op ih) (qO P pr all ih l) s.recs s.L V s.st k=some r)
  obtain⟨S,avs,e0,G,hS⟩:=K s' k h'
  refine⟨fun n=>match n with |0=>s|n+1=>S n,fun n=>match n with |0=>av|n+1=>avs n,rfl,G,fun i o p E=> ?_⟩
  cases i with
  |zero=>
   simp at E
   subst E
   show Trans P pr all ih V o p s av (S 0)
   rw[e0];exact u
  |succ i=>exact hS i o p (by simpa using E)
end
section
theorem aVn(acc:List Nat)(l:List Nat)(j:Nat):(pC acc l).testBit j=true↔∃e∈l,j=e\/(acc.getD e 0).testBit j=true:=by
 have:∀(l:List Nat) (s:Nat),(l.foldl (fun s e=>Nat.lor s (Nat.lor (Nat.pow 2 e) (acc.getD e 0))) s).testBit j=true↔s.testBit j=true\/∃e∈l,j=e\/(acc.getD e 0).testBit j=true:=by
  intro l
  induction l with
  |nil=>intro s;simp
  | cons e l ih=>
   intro s
   rw[bKT,ih]
   have O:(Nat.lor s (Nat.lor (Nat.pow 2 e) (acc.getD e 0))).testBit j=(s.testBit j||(Nat.testBit (2^e) j||(acc.getD e 0).testBit j)):=by
    show(s|||(2^e|||acc.getD e 0)).testBit j=_
    rw[bLB,bLB]
   rw[O,Nat.testBit_two_pow]
   simp only[bKk,decide_eq_true_eq,bJ4]
   constructor
   ·rintro((h|h|h)|⟨x,hx,h⟩)
    ·exact .inl h
    ·exact .inr ⟨e,.inl rfl,.inl h.symm⟩
    ·exact .inr ⟨e,.inl rfl,.inr h⟩
    ·exact .inr ⟨x,.inr hx,h⟩
   ·rintro(h|⟨x,rfl|hx,h⟩)
    ·exact .inl (.inl h)
    ·rcases h with h|h
     ·exact .inl (.inr (.inl h.symm))
     ·exact .inl (.inr (.inr h))
    ·exact .inr ⟨x,hx,h⟩
 simpa [pC]using this l 0
theorem aVK:∀(l:List bQg) (acc:List Nat) (i:Nat),i<acc.length->(dH l acc).getD i 0=acc.getD i 0:=by
 intro l
 induction l with
 |nil=>intro acc i _;rfl
 |cons o l ih=>intro acc i h;unfold dH;rw[ih _ _ (by simp;omega)];simp [bJb,List.getElem?_append_left h]
theorem aWE:∀(l:List bQg) (acc:List Nat) (i:Nat) (o:bQg),l[i]? =some o->(dH l acc).getD (acc.length+i) 0=pC ((dH l acc).take (acc.length+i)) (jX o):=by
 intro l
 induction l with
 |nil=>intro acc i o h;simp at h
 | cons x l ih=>
  intro acc i o h
  cases i with
  | zero=>
   simp at h;subst h
   unfold dH
   rw[aVK _ _ _ (by simp)]
   have:(dH l (acc++[pC acc (jX x)])).take (acc.length+0)=acc:=by
    have key:∀(l:List bQg) (acc:List Nat) (n:Nat),n<=acc.length->(dH l acc).take n=acc.take n:=by
     intro l
     induction l with
     |nil=>intro acc n _;rfl
     |cons y l ih=>intro acc n hn;unfold dH;rw[ih _ _ (by simp;omega),List.take_append_of_le_length hn]
    rw[key _ _ _ (by simp)];simp
   rw[this];simp
  |succ i=>
   unfold dH
   have:=ih (acc++[pC acc (jX x)]) i o (by simpa using h)
   simp only[bJ3,List.length_cons,bJm]at this
   rw[show acc.length+(i+1)=acc.length+(0+1)+i by omega];exact this
def aRo(d:List bQg)(D:Nat->Prop):Prop:=∀i o,d[i]? =some o->D i->∀m∈jX o,D m
theorem aPE{d:List bQg}(G:∀i o,d[i]? =some o->∀m∈jX o,m<i){D:Nat->Prop}(g:aRo d D):∀(i:Nat) (o:bQg),d[i]? =some o->(∀m∈jX o,D m)->∀j,((dH d []).getD i 0).testBit j=true->D j:=by
 intro i
 induction i using Nat.strongRecOn with
 | _ i ih=>
  intro o K hn j hj
  have e:=aWE d [] i o K
  simp only[bJm,bJl]at e
  rw[e,aVn]at hj
  obtain⟨m,H,rfl|hj⟩:=hj
  ·exact hn _ H
  ·have C:=G i o K m H
   have I:m<d.length:=by
    have:=(bJs.1 K).1;omega
   have J:((dH d []).take i).getD m 0=(dH d []).getD m 0:=by
    simp [bJb,C]
   rw[J]at hj
   exact ih m C d[m] (by simp [I]) (fun q hq=>g m _ (by simp [I]) (hn m H) q hq) j hj
theorem aWF{n:Nat}:∀ {l:List (Nat×Nat)},mI n l=true->∃p∈l,p.1<=n/\n<p.2:=by
 intro l
 induction l with
 |nil=>intro h;cases h
 | cons p l ih=>
  intro h
  have h:Bool.rec (motive:=fun _=>Bool) (mI n l) (Bool.rec (motive:=fun _=>Bool) true (mI n l) (Nat.ble p.2 n)) (Nat.ble p.1 n)=true:=h
  cases h1:Nat.ble p.1 n with
  |false=>rw[h1]at h;obtain⟨q,hq,h2⟩:=ih h;exact⟨q,by simp [hq],h2⟩
  | true=>
   rw[h1]at h
   cases h2:Nat.ble p.2 n with
   |true=>rw[h2]at h;obtain⟨q,hq,h3⟩:=ih h;exact⟨q,by simp [hq],h3⟩
   |false=>
    refine⟨p,by simp,bIU h1, ?_⟩
    rcases bIT n p.2 with h3|h3
    ·exact h3
    ·rw[bK0 h3]at h2;cases h2
def jK(l:List (Nat×Nat))(n:Nat):Prop:=∃p∈l,p.1<=n/\n<p.2
theorem aNW{r:dI}{l:List (Nat×Nat)}{n:Nat}(h:jK l n\/jK r.wr n\/(r.n0<=n/\n<r.n1)):jK (wB r l) n:=by
 unfold wB
 rw[uV]
 rcases h with ⟨p,hp,h⟩|⟨p,hp,h⟩|⟨h1,h2⟩
 ·refine⟨p, ?_,h⟩
  cases Nat.ble r.n1 r.n0
  ·exact bJL _ (bJY _ hp)
  ·exact bJL _ hp
 ·exact⟨p,List.mem_append_left _ hp,h⟩
 ·have:Nat.ble r.n1 r.n0=false:=by
   cases v:Nat.ble r.n1 r.n0 with
   |false=>rfl
   |true=>have:=bIU v;omega
  rw[this]
  exact⟨(r.n0,r.n1),bJL _ (by simp),h1,h2⟩
theorem aNu{n:Nat}:∀(us:List Bool) (rs:List dI) (b:List (Nat×Nat)) (k:Nat) (r:dI),us[k]? =some true->rs[k]? =some r->(jK r.wr n\/(r.n0<=n/\n<r.n1))->jK (cF us rs b) n:=by
 intro us
 induction us with
 |nil=>intro rs b k r h;simp at h
 | cons u us ih=>
  intro rs b k r w f h
  cases rs with
  |nil=>simp at f
  | cons c rs=>
   have e:cF (u::us) (c::rs) b=Bool.rec (motive:=fun _=>List (Nat×Nat)) (cF us rs b) (wB c (cF us rs b)) u:=rfl
   rw[e]
   cases k with
   |zero=>
    simp at w f;subst w f
    exact aNW (.inr h)
   |succ k=>
    have:=ih rs b k r (by simpa using w) (by simpa using f) h
    cases u with
    |false=>exact this
    |true=>exact aNW (.inl this)
theorem aWn{r:dI}{l:List (Nat×Nat)}{B:Nat}(h1:r.n1<=B)(h2:∀p∈r.wr,p.2<=B)(h3:∀p∈l,p.2<=B):∀p∈wB r l,p.2<=B:=by
 intro p hp
 unfold wB at hp
 rw[uV]at hp
 rcases List.mem_append.1 hp with hp|hp
 ·exact h2 p hp
 ·cases v:Nat.ble r.n1 r.n0 with
  |true=>rw[v]at hp;exact h3 p hp
  |false=>
   rw[v]at hp
   rcases bJ4.1 hp with rfl|hp
   ·exact h1
   ·exact h3 p hp
theorem aLB{B:Nat}:∀(us:List Bool) (rs:List dI) (b:List (Nat×Nat)),(∀r∈rs,r.n1<=B/\∀p∈r.wr,p.2<=B)->(∀p∈b,p.2<=B)->∀p∈cF us rs b,p.2<=B:=by
 intro us
 induction us with
 |nil=>intro rs b _ v;exact v
 | cons u us ih=>
  intro rs b f v
  cases rs with
  |nil=>exact v
  |cons c rs=>
   have e:cF (u::us) (c::rs) b=Bool.rec (motive:=fun _=>List (Nat×Nat)) (cF us rs b) (wB c (cF us rs b)) u:=rfl
   rw[e]
   have h1:=ih rs b (fun r h=>f r (by simp [h])) v
   cases u with
   |false=>exact h1
   |true=>exact aWn (f c (by simp)).1 (f c (by simp)).2 h1
theorem aYn{n:Nat}:∀(us:List Bool) (rs:List dI) (k:Nat) (r:dI),qR n us rs=true->us[k]? =some true->rs[k]? =some r->r.n0<=n\/jK r.hid n:=by
 intro us
 induction us with
 |nil=>intro rs k r _ h;simp at h
 | cons u us ih=>
  intro rs k r h w f
  cases rs with
  |nil=>simp at f
  | cons c rs=>
   have h:Bool.rec (motive:=fun _=>Bool) (qR n us rs) (Bool.rec (motive:=fun _=>Bool) (Bool.rec (motive:=fun _=>Bool) false (qR n us rs) (mI n c.hid)) (qR n us rs) (Nat.ble c.n0 n)) u=true:=h
   have E:qR n us rs=true:=by
    cases u with
    |false=>exact h
    | true=>
     cases h1:Nat.ble c.n0 n with
     |true=>rw[h1]at h;exact h
     |false=>
      rw[h1]at h
      cases h2:mI n c.hid with
      |true=>rw[h2]at h;exact h
      |false=>rw[h2]at h;cases h
   cases k with
   | zero=>
    simp at w f;subst w f
    cases h1:Nat.ble c.n0 n with
    |true=>exact .inl (bIU h1)
    |false=>
     rw[h1]at h
     cases h2:mI n c.hid with
     |true=>exact .inr (aWF h2)
     |false=>rw[h2]at h;cases h
   |succ k=>exact ih rs k r E (by simpa using w) (by simpa using f)
theorem aZW{x:Id}:∀(us:List Bool) (rs:List dI) (k:Nat) (r:dI),oK x us rs=true->us[k]? =some true->rs[k]? =some r->(x.nat<r.n0/\(r.wild=true->Tr.find x r.h0=Tr.find x r.h1))\/r.n1<=x.nat:=by
 intro us
 induction us with
 |nil=>intro rs k r _ h;simp at h
 | cons u us ih=>
  intro rs k r h w f
  cases rs with
  |nil=>simp at f
  | cons c rs=>
   have h:Bool.rec (motive:=fun _=>Bool) (oK x us rs) (Bool.rec (motive:=fun _=>Bool) false (oK x us rs) (aAG x c)) u=true:=h
   cases k with
   | zero=>
    simp at w f;subst w f
    cases z:aAG x c with
    |false=>rw[z]at h;cases h
    | true=>
     have z:Bool.rec (motive:=fun _=>Bool) (Nat.ble c.n1 x.nat) (Bool.rec (motive:=fun _=>Bool) true (sC (Tr.find x c.h0) (Tr.find x c.h1)) c.wild) (Nat.ble (Nat.succ x.nat) c.n0)=true:=z
     cases v:Nat.ble (Nat.succ x.nat) c.n0 with
     |false=>rw[v]at z;exact .inr (bIU z)
     |true=>
      rw[v]at z
      refine .inl ⟨bIU v,fun P=> ?_⟩
      rw[P]at z
      exact aOR z
   | succ k=>
    refine ih rs k r ?_ (by simpa using w) (by simpa using f)
    cases u with
    |false=>exact h
    |true=>
     cases z:aAG x c with
     |false=>rw[z]at h;cases h
     |true=>rw[z]at h;exact h
theorem aWV{h0 h1:Tr}:∀(us:List Bool) (rs:List dI) (k:Nat) (r:dI) (x:Id),kY h0 h1 us rs=true->us[k]? =some true->rs[k]? =some r->r.rd=some x->Tr.find x h0=Tr.find x h1:=by
 intro us
 induction us with
 |nil=>intro rs k r x _ h;simp at h
 | cons u us ih=>
  intro rs k r x h w f hx
  cases rs with
  |nil=>simp at f
  | cons c rs=>
   have h:Bool.rec (motive:=fun _=>Bool) (kY h0 h1 us rs) (Option.rec (motive:=fun _=>Bool) (kY h0 h1 us rs) (fun x=>Bool.rec (motive:=fun _=>Bool) false (kY h0 h1 us rs) (sC (Tr.find x h0) (Tr.find x h1))) c.rd) u=true:=h
   cases k with
   |zero=>
    simp at w f;subst w f
    rw[hx]at h
    have h:Bool.rec (motive:=fun _=>Bool) false (kY h0 h1 us rs) (sC (Tr.find x h0) (Tr.find x h1))=true:=h
    cases v:sC (Tr.find x h0) (Tr.find x h1)with
    |false=>rw[v]at h;cases h
    |true=>exact aOR v
   | succ k=>
    refine ih rs k r x ?_ (by simpa using w) (by simpa using f) hx
    cases u with
    |false=>exact h
    | true=>
     cases L:c.rd with
     |none=>rw[L]at h;exact h
     |some y=>
      rw[L]at h
      have h:Bool.rec (motive:=fun _=>Bool) false (kY h0 h1 us rs) (sC (Tr.find y h0) (Tr.find y h1))=true:=h
      cases v:sC (Tr.find y h0) (Tr.find y h1)with
      |false=>rw[v]at h;cases h
      |true=>rw[v]at h;exact h
theorem aV6{n:Nat}{x:Option Id}(h:∀id,x=some id->id.nat<=n):∀p∈eN n x,p.2<=n:=by
 cases x with
 |none=>intro p hp;have hp:p∈ [(0,n)]:=hp;rw[bJZ.1 hp];exact bIK _
 |some x=>
  intro p hp
  have hp:p∈ [(0,x.nat),(x.nat+1,n)]:=hp
  rcases bJ4.1 hp with rfl|hp
  ·exact h x rfl
  ·rw[bJZ.1 hp];exact bIK _
theorem aWk{n:Nat}{x:Option Id}{k:Nat}(z:k<n)(h:∀id,x=some id->k≠id.nat):jK (eN n x) k:=by
 cases x with
 |none=>exact⟨(0,n),by simp [eN],bIR _,z⟩
 |some x=>
  have:=h x rfl
  rcases bIT k x.nat with h1|h1
  ·exact⟨(0,x.nat),by simp [eN],bIR _,h1⟩
  ·exact⟨(x.nat+1,n),by simp [eN],by show x.nat+1<=k;omega,z⟩
open Classical in
def cQ(T:Nat->Tr)(D:Nat->Prop)(id:Id):Nat->Option cH
 |0=>Tr.find id (T 0)
 |m+1=>if D m/\Tr.find id (T (m+1))≠Tr.find id (T m)then Tr.find id (T (m+1))else cQ T D id m
open Classical in
def kT(T:Nat->Tr)(N:Nat->Nat)(D:Nat->Prop)(id:Id):Nat->Nat
 |0=>N 0
 |m+1=>if D m/\Tr.find id (T (m+1))≠Tr.find id (T m)then N (m+1)else kT T N D id m
open Classical in
def rB(v0:bQa)(dst:Nat->Option Tmp)(a:Nat->bQa)(D:Nat->Prop)(t:Nat):Nat->bQa
 |0=>v0
 |m+1=>if D m/\dst m=some t then a m else rB v0 dst a D t m
def aP.below(Γ:aP)(n:Nat):aP:=⟨fun id=>if id.nat<n then Γ id else none,Γ.flo⟩
theorem aP.below_at(Γ:aP)(n:Nat)(id:Id):Γ.below n id=if id.nat<n then Γ id else none:=rfl
theorem aP.below_le(Γ:aP){m n:Nat}(h:m<=n):aP.le (Γ.below m) (Γ.below n):=fun id p e=>by
 rw[aP.below_at]at e ⊢
 split at e
 ·rw[if_pos (by omega)];exact e
 ·cases e
theorem aP.below_mono{Γ Γ':aP}(h:aP.le Γ Γ')(n:Nat):aP.le (Γ.below n) (Γ'.below n):=fun id p e=>by
 rw[aP.below_at]at e ⊢
 split at e
 ·rename_i C;rw[if_pos C];exact h id p e
 ·cases e
theorem aP.below_in{Γ:aP}{n:Nat}{id:Id}{p:Nat×Nat}(h:Γ id=some p)(hn:id.nat<n):Γ.below n id=some p:=by
 rw[aP.below_at,if_pos hn];exact h
theorem aP.below_of{Γ:aP}{n:Nat}{id:Id}{p:Nat×Nat}(h:Γ.below n id=some p):id.nat<n/\Γ id=some p:=by
 rw[aP.below_at]at h
 split at h
 ·exact⟨by assumption,h⟩
 ·cases h
section
variable {T:Nat->Tr}{N:Nat->Nat}{D:Nat->Prop}{id:Id}
def eH(T:Nat->Tr)(id:Id)(m:Nat):Prop:=Tr.find id (T (m+1))≠Tr.find id (T m)
theorem aFy{m:Nat}(h:¬(D m/\eH T id m)):cQ T D id (m+1)=cQ T D id m:=if_neg h
theorem aFn{m:Nat}(h:D m/\eH T id m):cQ T D id (m+1)=Tr.find id (T (m+1)):=if_pos h
theorem aFr{m:Nat}(h:¬(D m/\eH T id m)):kT T N D id (m+1)=kT T N D id m:=if_neg h
theorem aFG{m:Nat}(h:D m/\eH T id m):kT T N D id (m+1)=N (m+1):=if_pos h
theorem aO7{i:Nat}(h:∀m,m<i->eH T id m->D m):cQ T D id i=Tr.find id (T i):=by
 induction i with
 |zero=>rfl
 | succ i ih=>
  by_cases hc:D i/\eH T id i
  ·exact aFn hc
  ·rw[aFy hc,ih fun m H=>h m (by omega)]
   by_cases e:Tr.find id (T (i+1))=Tr.find id (T i)
   ·exact e.symm
   ·exact absurd ⟨h i (by omega) e,e⟩ hc
theorem aIm{i n:Nat}(A:i<=n)(h:∀m,i<=m->m<n->¬(D m/\eH T id m)):cQ T D id n=cQ T D id i:=by
 induction n with
 |zero=>
  have:i=0:=by omega
  rw[this]
 | succ n ih=>
  rcases bIT n i with h'|h'
  ·have:i=n+1:=by omega
   rw[this]
  ·rw[←ih h' (fun m h1 h2=>h m h1 (by omega))]
   exact aFy (h n h' (by omega))
theorem aII{i n:Nat}(A:i<=n)(h:∀m,i<=m->m<n->¬(D m/\eH T id m)):kT T N D id n=kT T N D id i:=by
 induction n with
 |zero=>
  have:i=0:=by omega
  rw[this]
 | succ n ih=>
  rcases bIT n i with h'|h'
  ·have:i=n+1:=by omega
   rw[this]
  ·rw[←ih h' (fun m h1 h2=>h m h1 (by omega))]
   exact aFr (h n h' (by omega))
theorem bGg{i:Nat}(M:∀m,m<i->N m<=N (m+1)):kT T N D id i<=N i:=by
 induction i with
 |zero=>exact bIK _
 |succ i ih=>
  by_cases hc:D i/\eH T id i
  ·rw[aFG hc];exact bIK _
  ·rw[aFr hc];exact bIO (ih fun m H=>M m (by omega)) (M i (by omega))
theorem aD0{D':Nat->Prop}{i:Nat}(g:∀m,D' m↔(D m\/m=i))(hc:¬eH T id i)(n:Nat):cQ T D' id n=cQ T D id n:=by
 induction n with
 |zero=>rfl
 | succ n ih=>
  by_cases hn:D n/\eH T id n
  ·rw[aFn hn,aFn (D:=D') ⟨(g n).2 (.inl hn.1),hn.2⟩]
  ·have F:¬(D' n/\eH T id n):=fun h=>by
    rcases(g n).1 h.1 with h1|h1
    ·exact hn ⟨h1,h.2⟩
    ·subst h1;exact hc h.2
   rw[aFy hn,aFy F];exact ih
theorem bAb{D':Nat->Prop}{i:Nat}(g:∀m,D' m↔(D m\/m=i))(hc:¬eH T id i)(n:Nat):kT T N D' id n=kT T N D id n:=by
 induction n with
 |zero=>rfl
 | succ n ih=>
  by_cases hn:D n/\eH T id n
  ·rw[aFG hn,aFG (D:=D') ⟨(g n).2 (.inl hn.1),hn.2⟩]
  ·have F:¬(D' n/\eH T id n):=fun h=>by
    rcases(g n).1 h.1 with h1|h1
    ·exact hn ⟨h1,h.2⟩
    ·subst h1;exact hc h.2
   rw[aFr hn,aFr F];exact ih
theorem aPP{D':Nat->Prop}{i n:Nat}(g:∀m,D' m↔(D m\/m=i))(hc:eH T id i)(A:i<n)(h:∀m,i<m->m<n->¬(D m/\eH T id m)):cQ T D' id n=Tr.find id (T (i+1)):=by
 have h':∀m,i+1<=m->m<n->¬(D' m/\eH T id m):=fun m h1 h2 h3=>by
  rcases(g m).1 h3.1 with h4|h4
  ·exact h m (by omega) h2 ⟨h4,h3.2⟩
  ·omega
 rw[aIm (by omega:i+1<=n) h',aFn ⟨(g i).2 (.inr rfl),hc⟩]
theorem aQb{D':Nat->Prop}{i n:Nat}(g:∀m,D' m↔(D m\/m=i))(hc:eH T id i)(A:i<n)(h:∀m,i<m->m<n->¬(D m/\eH T id m)):kT T N D' id n=N (i+1):=by
 have h':∀m,i+1<=m->m<n->¬(D' m/\eH T id m):=fun m h1 h2 h3=>by
  rcases(g m).1 h3.1 with h4|h4
  ·exact h m (by omega) h2 ⟨h4,h3.2⟩
  ·omega
 rw[aII (by omega:i+1<=n) h',aFG ⟨(g i).2 (.inr rfl),hc⟩]
theorem aAg{v0:bQa}{dst:Nat->Option Tmp}{a:Nat->bQa}{t m:Nat}(h:¬(D m/\dst m=some t)):rB v0 dst a D t (m+1)=rB v0 dst a D t m:=if_neg h
theorem aDg{v0:bQa}{dst:Nat->Option Tmp}{a:Nat->bQa}{t m:Nat}(h:D m/\dst m=some t):rB v0 dst a D t (m+1)=a m:=if_pos h
theorem aIA{v0:bQa}{dst:Nat->Option Tmp}{a:Nat->bQa}{t i n:Nat}(A:i<=n)(h:∀m,i<=m->m<n->¬(D m/\dst m=some t)):rB v0 dst a D t n=rB v0 dst a D t i:=by
 induction n with
 |zero=>
  have:i=0:=by omega
  rw[this]
 | succ n ih=>
  rcases bIT n i with h'|h'
  ·have:i=n+1:=by omega
   rw[this]
  ·rw[←ih h' (fun m h1 h2=>h m h1 (by omega))]
   exact aAg (h n h' (by omega))
theorem bAI{D':Nat->Prop}{v0:bQa}{dst:Nat->Option Tmp}{a vals':Nat->bQa}{t i n:Nat}(g:∀m,D' m↔(D m\/m=i))(Q:∀m,m≠i->vals' m=a m)(R:¬D i)(hc:dst i≠some t):rB v0 dst vals' D' t n=rB v0 dst a D t n:=by
 induction n with
 |zero=>rfl
 | succ n ih=>
  by_cases hn:D n/\dst n=some t
  ·rw[aDg hn,aDg (D:=D') ⟨(g n).2 (.inl hn.1),hn.2⟩]
   exact Q n fun e=>R (e ▸ hn.1)
  ·rw[aAg hn,aAg (D:=D') ?_,ih]
   rintro⟨h1,h2⟩
   rcases(g n).1 h1 with h3|h3
   ·exact hn ⟨h3,h2⟩
   ·subst h3;exact hc h2
theorem bCz{D':Nat->Prop}{v0:bQa}{dst:Nat->Option Tmp}{a:Nat->bQa}{t i n:Nat}(g:∀m,D' m↔(D m\/m=i))(hc:dst i=some t)(A:i<n)(h:∀m,i<m->m<n->¬(D m/\dst m=some t)):rB v0 dst a D' t n=a i:=by
 have h':∀m,i+1<=m->m<n->¬(D' m/\dst m=some t):=fun m h1 h2 h3=>by
  rcases(g m).1 h3.1 with h4|h4
  ·exact h m (by omega) h2 ⟨h4,h3.2⟩
  ·omega
 rw[aIA (by omega:i+1<=n) h',aDg ⟨(g i).2 (.inr rfl),hc⟩]
end
end
end Go.Proofs.YtmjoaipkaddkbaaGreatDoor.Ev