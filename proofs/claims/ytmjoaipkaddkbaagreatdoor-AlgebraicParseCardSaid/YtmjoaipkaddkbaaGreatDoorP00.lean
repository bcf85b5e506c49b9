/- Part of a proof. -/
import Derived.Calls
import Derived.Orders
import Derived.LoopN
import Derived.Below
import Derived.KernelRfl
import Derived.Deep.AppendSrc
import Derived.Laws.CopyRow
import Derived.Lib.AppendZeros
noncomputable section
open Array renaming ext'→bLB,getD_eq_getD_getElem?→bM4,length_toList→bLC,range→bMZ,replicate→bMz,size_append→bN1
open Bool renaming and_eq_true→bJI,eq_iff_iff→bKh,false_eq_true→bJQ,or_eq_true→bLg,or_false→bN0
open Int renaming natCast_mul→bLa,negSucc_eq→bKa,toNat_natCast→bLc
open List renaming flatten_cons→bLL,foldl_cons→bLN,getD_eq_getElem?_getD→bK0,getElem?_drop→bLf,getElem?_eq_some_iff→bKv,getElem?_map→bLP,getElem?_take→bKY,getElem?_toArray→bMd,length_append→bJW,length_nil→bKf,mapM_cons→bMY,map_cons→bKc,mem_append_right→bKE,mem_cons→bJZ,mem_cons_of_mem→bKx,mem_filterMap→bMf,mem_singleton→bKF,range→bKj,replicate→bJL,replicate_succ→bL7,take→bLM,take_append→bMx,take_length→bKp,take_of_length_le→bJU,take_take→bKC,toArray→bMc
open Nat renaming add_mul→bKw,ble_eq_true_of_le→bKX,eq_of_beq_eq_true→bJY,land→bLn,le_of_ble_eq_true→bJP,le_refl→bJE,le_trans→bJH,lt_irrefl→bKl,lt_of_lt_of_le→bJK,lt_or_ge→bJS,min_eq_left→bK7,min_eq_right→bMW,mul_le_mul→bLh,mul_le_mul_right→bK8,ne_of_beq_eq_false→bL9,ne_of_lt→bMV,pow_le_pow_right→bK2,pred→bMb,testBit_or→bMv,zero_add→bKi,zero_le→bJJ
open Option renaming getD_some→bLt,isSome_iff_exists→bMw,map_some→bKe
open Go renaming Addr→bRb,IntKind→bR6,Oper→bRa,Operand→bR7,Program→bR8,TypeId→bR5,Value→bR4,World→bR3
open Go
open Go.Sem renaming run_ite→aq,run_bind→au,run_pure→az
open Go.Result renaming andThen_ok→ba
open Go.Builtin renaming len_→bb,cap_→bc,append_→be,lenOf→bf,firstCells→bg,zeroCells→bi,clear_→bj,copy_→bm
namespace Go.Proofs.YtmjoaipkaddkbaaGreatDoor
theorem ab{p q:Prop}(a:p)(b:q):p∧q:=⟨a,b⟩
theorem ae:type_of% @of_decide_eq_true:= @of_decide_eq_true
theorem af:type_of% @of_decide_eq_false:= @of_decide_eq_false
theorem ai:type_of% @decide_eq_false:= @decide_eq_false
theorem ak:type_of% @decide_eq_true:= @decide_eq_true
theorem ao:type_of% @beq_eq_false_iff_ne:= @beq_eq_false_iff_ne
theorem ap:type_of% @decide_eq_true_eq:= @decide_eq_true_eq
namespace Ev
inductive Id where
 |h
 |o (p:Id)
 |i (p:Id)
 deriving DecidableEq
def Id.succ:Id->Id:=Id.rec (.o .h) (fun p _=> .i p) (fun _ ih=> .o ih)
def Id.nat:Id->Nat:=Id.rec 1 (fun _ n=>Nat.mul 2 n) (fun _ n=>Nat.succ (Nat.mul 2 n))
@[simp] theorem Id.nat_h:Id.nat .h=1:=rfl
@[simp] theorem Id.nat_o (p:Id):Id.nat (.o p)=2*p.nat:=rfl
@[simp] theorem Id.nat_i (p:Id):Id.nat (.i p)=2*p.nat+1:=rfl
theorem Id.pos(p:Id):0<p.nat:=by induction p<;>simp_all<;>omega
theorem Id.nat_inj:∀ {p q:Id},p.nat=q.nat->p=q:=by
 intro p
 induction p with
 |h=>intro q hq;cases q with
  |h=>rfl
  |o q=>simp at hq;omega
  |i q=>simp at hq;have:=q.pos;omega
 |o p ih=>intro q hq;cases q with
  |h=>simp at hq;omega
  |o q=>simp at hq;rw[show p=q from ih (by omega)]
  |i q=>simp at hq;omega
 |i p ih=>intro q hq;cases q with
  |h=>simp at hq;have:=p.pos;omega
  |o q=>simp at hq;omega
  |i q=>simp at hq;rw[show p=q from ih (by omega)]
theorem Id.nat_succ(p:Id):p.succ.nat=p.nat+1:=by
 induction p with
 |h=>rfl
 |o p ih=>rfl
 |i p ih=>
  show 2*(Id.succ p).nat=_
  rw[ih];simp;omega
def G0:Nat:=64
def iH:Nat->Id:=Nat.rec .h (fun _ ih=>Id.succ ih)
theorem aC8(g:Nat):(iH g).nat=g+1:=by
 induction g with
 |zero=>rfl
 |succ g ih=>show(Id.succ (iH g)).nat=_;rw[Id.nat_succ,ih]
inductive AV where
 |b (x:Bool)
 |i (k:bR6) (n:Nat)
 |m (k:bR6) (n:Nat)
 |v (x:bR4)
 |u
 |se
 |ptr (id:Id) (off:Nat)
 |sl (id:Id) (off len:Nat) (cap:Option Nat) (sz:Nat)
 |fn (f:Fn) (first cap:List AV)
 |agg (cs:List AV)
 |tup (vs:List AV)
structure cK where
 cells:List AV
 exact:Bool
inductive Tr where
 |leaf
 |node (l:Tr) (x:Option cK) (r:Tr)
def Tr.find:Id->Tr->Option cK
 | .h,.leaf=>none
 | .h,.node _ x _=>x
 | .o _,.leaf=>none
 | .o p,.node l _ _=>Tr.find p l
 | .i _,.leaf=>none
 | .i p,.node _ _ r=>Tr.find p r
def Tr.put(b:Option cK):Id->Tr->Tr:=Id.rec (Tr.rec (.node .leaf b .leaf) (fun l _ r _ _=> .node l b r)) (fun _ ih=>Tr.rec (.node (ih .leaf) none .leaf) (fun l x r _ _=> .node (ih l) x r)) (fun _ ih=>Tr.rec (.node .leaf none (ih .leaf)) (fun l x r _ _=> .node l x (ih r)))
theorem Tr.find_leaf(p:Id):Tr.find p .leaf=none:=by cases p<;>rfl
theorem Tr.put_same(b:Option cK):∀(p:Id) (t:Tr),Tr.find p (Tr.put b p t)=b:=by
 intro p
 induction p with
 |h=>intro t;cases t<;>rfl
 |o p ih=>intro t;cases t<;>exact ih _
 |i p ih=>intro t;cases t<;>exact ih _
theorem Tr.put_other(b:Option cK):∀(p q:Id) (t:Tr),p≠q->Tr.find q (Tr.put b p t)=Tr.find q t:=by
 intro p
 induction p with
 |h=>intro q t d;cases t<;>cases q<;>first|exact absurd rfl d|rfl|exact Tr.find_leaf _
 | o p ih=>
  intro q t d
  cases q with
  |h=>cases t<;>rfl
  |i q=>cases t<;>first|rfl|exact Tr.find_leaf _
  |o q=>
   have c:p≠q:=fun e=>d (by rw[e])
   cases t with
   |leaf=>exact(ih q .leaf c).trans (Tr.find_leaf q)
   |node l x r=>exact ih q l c
 | i p ih=>
  intro q t d
  cases q with
  |h=>cases t<;>rfl
  |o q=>cases t<;>first|rfl|exact Tr.find_leaf _
  |i q=>
   have c:p≠q:=fun e=>d (by rw[e])
   cases t with
   |leaf=>exact(ih q .leaf c).trans (Tr.find_leaf q)
   |node l x r=>exact ih q r c
structure St where
 heap:Tr
 nxt:Id
 ro:Nat
 hid:List (Nat×Nat)
def St.vis(st:St)(id:Id):Prop:=∀p∈st.hid,¬(p.1<=id.nat/\id.nat<p.2)
def St.look(st:St)(id:Id)(b:cK):Prop:=st.vis id/\Tr.find id st.heap=some b
abbrev OR:=Option (AV×St)
abbrev KA:=AV->OR
abbrev KS:=AV->St->OR
def Tr.get:Id->Tr->(cK->OR)->OR:=Id.rec (Tr.rec (fun _=>none) (fun _ x _ _ _ k=>Option.rec none k x)) (fun _ ih=>Tr.rec (fun _=>none) (fun l _ _ _ _=>ih l)) (fun _ ih=>Tr.rec (fun _=>none) (fun _ _ r _ _=>ih r))
theorem Tr.get_spec{k:cK->OR}{r:AV×St}:∀(id:Id) (t:Tr),Tr.get id t k=some r->∃b,Tr.find id t=some b/\k b=some r:=by
 intro id
 induction id with
 | h=>
  intro t h
  cases t with
  |leaf=>cases h
  |node l x r=>
   cases x with
   |none=>cases h
   |some b=>exact⟨b,rfl,h⟩
 |o p ih=>intro t h;cases t with
  |leaf=>cases h
  |node l x r=>exact ih l h
 |i p ih=>intro t h;cases t with
  |leaf=>cases h
  |node l x r=>exact ih r h
def zK(z k:OR)(n:Nat)(l:List (Nat×Nat)):OR:=List.rec k (fun p _ ih=>Bool.rec ih (Bool.rec z ih (Nat.ble p.2 n)) (Nat.ble p.1 n)) l
theorem aYB{k:OR}{n:Nat}{r:AV×St}:∀l:List (Nat×Nat),zK none k n l=some r->(∀p∈l,¬(p.1<=n/\n<p.2))/\k=some r:=by
 intro l
 induction l with
 |nil=>intro h;exact⟨by simp,h⟩
 | cons p l ih=>
  intro h
  have h':Bool.rec (motive:=fun _=>OR) (zK none k n l) (Bool.rec (motive:=fun _=>OR) none (zK none k n l) (Nat.ble p.2 n)) (Nat.ble p.1 n)=some r:=h
  cases h1:Nat.ble p.1 n with
  |false=>
   rw[h1]at h'
   obtain⟨g1,g2⟩:=ih h'
   refine⟨fun q hq=> ?_,g2⟩
   rcases bJZ.1 hq with rfl|hq
   ·intro hh;rw[bKX hh.1]at h1;cases h1
   ·exact g1 q hq
  | true=>
   rw[h1]at h'
   cases h2:Nat.ble p.2 n with
   |false=>rw[h2]at h';cases h'
   |true=>
    rw[h2]at h'
    obtain⟨g1,g2⟩:=ih h'
    refine⟨fun q hq=> ?_,g2⟩
    rcases bJZ.1 hq with rfl|hq
    ·intro hh;have:=bJP h2;omega
    ·exact g1 q hq
def mkA:AV:= .v (.agg #[])
def aE7:bR4->Bool
 | .agg _=>true
 |_=>false
def bIr:AV->Bool:=AV.rec (motive_1:=fun _=>Bool) (motive_2:=fun _=>Unit) (fun _=>false) (fun _ _=>false) (fun _ _=>false) (fun x=>aE7 x) false false (fun _ _=>false) (fun _ _ _ _ _=>false) (fun _ _ _ _ _=>false) (fun _ _=>false) (fun _ _=>false) () (fun _ _ _ _=>())
def mS(l:List AV):Bool:=List.rec false (fun a _ _=>bIr a) l
def nmK(k:cK->OR)(b:cK):OR:=Bool.rec (k b) none (mS b.cells)
theorem bCI{k:cK->OR}{b:cK}{r:AV×St}(h:nmK k b=some r):mS b.cells=false/\k b=some r:=by
 unfold nmK at h
 cases j:mS b.cells with
 |false=>rw[j]at h;exact⟨rfl,h⟩
 |true=>rw[j]at h;cases h
structure St.lookc(st:St)(id:Id)(b:cK):Prop where
 lk:st.look id b
 nm:mS b.cells=false
def aEC(st:St)(id:Id)(k:cK->OR):OR:=List.rec (Tr.get id st.heap k) (fun p l _=>zK none (Tr.get id st.heap k) id.nat (p::l)) st.hid
theorem aXG{st:St}{id:Id}{k:cK->OR}{r:AV×St}(h:aEC st id k=some r):∃b,st.look id b/\k b=some r:=by
 have h':zK none (Tr.get id st.heap k) id.nat st.hid=some r:=by
  unfold aEC at h
  cases hh:st.hid with
  |nil=>rw[hh]at h;exact h
  |cons p l=>rw[hh]at h;exact h
 obtain⟨h1,h2⟩:=aYB _ h'
 obtain⟨b,j,s⟩:=Tr.get_spec _ _ h2
 exact⟨b,⟨h1,j⟩,s⟩
def eQ(st:St)(id:Id)(k:cK->OR):OR:=aEC st id (nmK k)
theorem rW{st:St}{id:Id}{k:cK->OR}{r:AV×St}(h:eQ st id k=some r):∃b,st.lookc id b/\k b=some r:=by
 obtain⟨b,h1,h2⟩:=aXG h
 obtain⟨w,y⟩:=bCI h2
 exact⟨b,⟨h1,w⟩,y⟩
def wrK(st:St)(id:Id)(k:OR):OR:=Bool.rec (Bool.rec none k (Nat.ble st.ro id.nat)) k (Nat.beq st.ro 0)
theorem aOK{st:St}{id:Id}{k:OR}{r:AV×St}(h:wrK st id k=some r):st.ro<=id.nat/\k=some r:=by
 unfold wrK at h
 cases h0:Nat.beq st.ro 0 with
 |true=>rw[h0]at h;exact⟨by rw[bJY h0];omega,h⟩
 |false=>
  rw[h0]at h
  cases h1:Nat.ble st.ro id.nat with
  |true=>rw[h1]at h;exact⟨bJP h1,h⟩
  |false=>rw[h1]at h;cases h
structure aP where
 f:Id->Option (Nat×Nat)
 /-- Below this number several numbers may stand for one place. -/
 flo:Nat
instance:CoeFun aP fun _=>Id->Option (Nat×Nat):=⟨aP.f⟩
theorem aP.same{a b:aP}(h:∀id,a id=b id)(hf:a.flo=b.flo):a=b:=by
 obtain⟨f,m⟩:=a
 obtain⟨g,n⟩:=b
 have h1:f=g:=funext h
 have h2:m=n:=hf
 rw[h1,h2]
def aP.le(Γ Γ':aP):Prop:=∀id p,Γ id=some p->Γ' id=some p
theorem aP.le_refl(Γ:aP):aP.le Γ Γ:=fun _ _ h=>h
theorem aP.le_trans{a b c:aP}(h:aP.le a b)(k:aP.le b c):aP.le a c:=fun id p e=>k id p (h id p e)
def aGE(x:bR4):Prop:=(∀cs,x≠ .agg cs)/\(∀vs,x≠ .tuple vs)
mutual
inductive CR(Γ:aP):AV->bR4->Prop
 |b (x:Bool):CR Γ (.b x) (.bool x)
 |i (k:bR6) (n:Nat):CR Γ (.i k n) (.int k (n:Int))
 |m (k:bR6) (n:Nat):CR Γ (.m k n) (.int k (Int.negSucc n))
 |v {x:bR4} (h:aGE x):CR Γ (.v x) x
 |u:CR Γ .u undef
 |se (a:bRb) (c:Nat):CR Γ .se (.slice (some a) 0 c)
 |ptr {id:Id} {off p s:Nat} (h:Γ id=some (p,s)):CR Γ (.ptr id off) (.pointer (some ⟨p,off,none⟩))
 |sl {id:Id} {off len:Nat} {cap:Option Nat} {sz p s c:Nat} (h:Γ id=some (p,s)) (j:len<=c) (hc:∀k,cap=some k->c=k) (hs:off+c*sz<=s):CR Γ (.sl id off len cap sz) (.slice (some ⟨p,off,none⟩) len c)
 |fn {f:FuncId} {a b:List AV} {va vb:List bR4} (I:bW Γ a va) (O:bW Γ b vb):CR Γ (.fn (.func f) a b) (.func (.func f) va.toArray vb.toArray)
 |mp {id:Id} {p s:Nat} (h:Γ id=some (p,s)):CR Γ (.fn (.yield 0) [.ptr id 0] []) (.map (some p))
 |anyI (z:Int):CR Γ (.fn (.yield 1) [] []) (.int .i64 z)
 |anyE (t:bR5) (v:bR4):CR Γ (.fn (.yield 2) [] []) (.iface t v)
 |agg {cs:List AV} {vs:List bR4} (h:bW Γ cs vs):CR Γ (.agg cs) (.agg vs.toArray)
 |tup {cs:List AV} {vs:List bR4} (h:bW Γ cs vs):CR Γ (.tup cs) (.tuple vs.toArray)
inductive bW(Γ:aP):List AV->List bR4->Prop
 |nil:bW Γ [] []
 |cons {a:AV} {v:bR4} {l:List AV} {m:List bR4} (h:CR Γ a v) (t:bW Γ l m):bW Γ (a::l) (v::m)
end
mutual
theorem CR.mono{Γ Γ':aP}(A:aP.le Γ Γ'){a:AV}{v:bR4}(h:CR Γ a v):CR Γ' a v:=by
 cases h with
 |b=>exact .b _
 |i=>exact .i _ _
 |m=>exact .m _ _
 |v h=>exact .v h
 |u=>exact .u
 |se a c=>exact .se a c
 |ptr h=>exact .ptr (A _ _ h)
 |sl h j hc hs=>exact .sl (A _ _ h) j hc hs
 |fn I O=>exact .fn (bW.mono A I) (bW.mono A O)
 |mp h=>exact .mp (A _ _ h)
 |anyI z=>exact .anyI z
 |anyE t v=>exact .anyE t v
 |agg h=>exact .agg (bW.mono A h)
 |tup h=>exact .tup (bW.mono A h)
theorem bW.mono{Γ Γ':aP}(A:aP.le Γ Γ'){a:List AV}{v:List bR4}(h:bW Γ a v):bW Γ' a v:=by
 cases h with
 |nil=>exact .nil
 |cons h t=>exact .cons (CR.mono A h) (bW.mono A t)
end
theorem bW.length{Γ:aP}{l:List AV}{m:List bR4}(h:bW Γ l m):l.length=m.length:=by
 induction l generalizing m with
 |nil=>cases h;rfl
 |cons a l ih=>cases h with |cons h t=>simp [ih t]
theorem bW.get{Γ:aP}{l:List AV}{m:List bR4}(h:bW Γ l m){n:Nat}{a:AV}(I:l[n]? =some a):∃v,m[n]? =some v/\CR Γ a v:=by
 induction l generalizing m n with
 |nil=>simp at I
 | cons b l ih=>cases h with
  |cons h t=>cases n with
   |zero=>simp at I;subst I;exact⟨_,by simp,h⟩
   |succ n=>simp at I;obtain⟨v,R,hc⟩:=ih t I;exact⟨v,by simpa using R,hc⟩
theorem bW.app{Γ:aP}{l l':List AV}{m m':List bR4}(h:bW Γ l m)(h':bW Γ l' m'):bW Γ (l++l') (m++m'):=by
 induction l generalizing m with
 |nil=>cases h;exact h'
 |cons a l ih=>cases h with |cons h t=>exact .cons h (ih t)
theorem bW.take{Γ:aP}{l:List AV}{m:List bR4}(h:bW Γ l m)(n:Nat):bW Γ (l.take n) (m.take n):=by
 induction l generalizing m n with
 |nil=>cases h;cases n<;>exact .nil
 |cons a l ih=>cases h with |cons h t=>cases n with
  |zero=>exact .nil
  |succ n=>exact .cons h (ih t n)
theorem bW.drop{Γ:aP}{l:List AV}{m:List bR4}(h:bW Γ l m)(n:Nat):bW Γ (l.drop n) (m.drop n):=by
 induction l generalizing m n with
 |nil=>cases h;cases n<;>exact .nil
 |cons a l ih=>cases h with |cons h t=>cases n with
  |zero=>exact .cons h t
  |succ n=>exact ih t n
theorem bW.of_get{Γ:aP}{l:List AV}{m:List bR4}(B:l.length=m.length)(h:∀(n:Nat) (a:AV) (v:bR4),l[n]? =some a->m[n]? =some v->CR Γ a v):bW Γ l m:=by
 induction l generalizing m with
 |nil=>cases m with |nil=>exact .nil|cons _ _=>simp at B
 |cons a l ih=>cases m with
  |nil=>simp at B
  |cons v m=>exact .cons (h 0 a v rfl rfl) (ih (by simpa using B) fun n a v I R=>h (n+1) a v (by simpa using I) (by simpa using R))
def aUd:List MapEntry->List bR4
 | []=>[]
 |e::l=>e.key::e.val::aUd l
def MR(Γ:aP)(b:cK)(ob:Option Obj):Prop:=∃(es:Array MapEntry) (clock:Nat) (l:List AV),ob=some (.map es clock)/\b.cells=mkA::l/\bW Γ l (aUd es.toList)
theorem MR.mono{Γ Γ':aP}(A:aP.le Γ Γ'){b:cK}{ob:Option Obj}(h:MR Γ b ob):MR Γ' b ob:=let ⟨es,c,l,h1,h2,D⟩:=h;⟨es,c,l,h1,h2,D.mono A⟩
structure BR(Γ:aP)(b:cK)(s:Nat)(ob:Option Obj):Prop where
 out:(∃cs el,ob=some (.cells cs el (0,0))/\cs.size=s/\b.cells.length<=s/\bW Γ b.cells (cs.toList.take b.cells.length)/\(b.exact=true->s=b.cells.length))\/MR Γ b ob
theorem BR.of{Γ:aP}{b:cK}{s:Nat}{ob:Option Obj}{cs:Array bR4}{el:bR5}(h1:ob=some (.cells cs el (0,0)))(h2:cs.size=s)(D:b.cells.length<=s)(S:bW Γ b.cells (cs.toList.take b.cells.length))(T:b.exact=true->s=b.cells.length):BR Γ b s ob:=⟨.inl ⟨cs,el,h1,h2,D,S,T⟩⟩
theorem BR.mono{Γ Γ':aP}(A:aP.le Γ Γ'){b:cK}{s:Nat}{ob:Option Obj}(h:BR Γ b s ob):BR Γ' b s ob:=by
 rcases h with ⟨⟨cs,el,h1,h2,D,S,T⟩|h⟩
 ·exact .of h1 h2 D (S.mono A) T
 ·exact⟨.inr (h.mono A)⟩
theorem BR.cells{Γ:aP}{b:cK}{s:Nat}{ob:Option Obj}(h:BR Γ b s ob)(hn:mS b.cells=false):∃cs el,ob=some (.cells cs el (0,0))/\cs.size=s/\b.cells.length<=s/\bW Γ b.cells (cs.toList.take b.cells.length)/\(b.exact=true->s=b.cells.length):=by
 rcases h with ⟨h|⟨es,c,l,h1,h2,D⟩⟩
 ·exact h
 ·rw[h2]at hn;cases hn
def pT(Γ:aP):Prop:=∀g,g<G0->∃s,Γ (iH g)=some (g,s)
theorem pT.mono{Γ Γ':aP}(A:aP.le Γ Γ')(h:pT Γ):pT Γ':=fun g hg=>let ⟨s,e⟩:=h g hg;⟨s,A _ _ e⟩
def aCD:Option Obj->Option Obj
 |some (.cells cs el _)=>some (.cells cs el (0,0))
 |o=>o
def thw(n:Nat)(id:Id)(o:Option Obj):Option Obj:=if id.nat<n then aCD o else o
theorem aEY{o:Option Obj}{cs:Array bR4}{el:bR5}(h:aCD o=some (.cells cs el (0,0))):∃fr,o=some (.cells cs el fr):=by
 unfold aCD at h
 split at h
 ·cases h;exact⟨_,rfl⟩
 ·exact⟨_,h⟩
theorem BR.thaw{Γ:aP}{b:cK}{s:Nat}{o:Option Obj}(h:BR Γ b s o):BR Γ b s (aCD o):=by
 rcases h with ⟨⟨cs,el,rfl,h2⟩|⟨es,c,l,rfl,h2⟩⟩
 ·exact⟨.inl ⟨cs,el,rfl,h2⟩⟩
 ·exact⟨.inr ⟨es,c,l,rfl,h2⟩⟩
theorem BR.thw{Γ:aP}{b:cK}{s:Nat}{o:Option Obj}(h:BR Γ b s o){n:Nat}{id:Id}:BR Γ b s (thw n id o):=by
 unfold Ev.thw;split
 ·exact h.thaw
 ·exact h
theorem BR.unthw{Γ:aP}{b:cK}{s:Nat}{o:Option Obj}{n:Nat}{id:Id}(h:BR Γ b s (Ev.thw n id o)):BR Γ b s (Ev.aCD o):=by
 unfold Ev.thw at h;split at h
 ·exact h
 ·exact h.thaw
theorem bDB{n:Nat}{id:Id}{o:Option Obj}(h:n<=id.nat):thw n id o=o:=if_neg (by omega)
structure dQ(st:St)(Γ:aP)(w:bR3):Prop where
 blk:∀id b,st.look id b->∃p s,Γ id=some (p,s)/\p<w.heap.size/\BR Γ b s (thw Γ.flo id w.heap[p]?)
 inj:∀id y b b' p s s',st.look id b->st.look y b'->(Γ.flo<=id.nat\/Γ.flo<=y.nat)->Γ id=some (p,s)->Γ y=some (p,s')->id=y
 fresh:∀id,st.nxt.nat<=id.nat->Γ id=none
 top:∀id:Id,st.nxt.nat<=id.nat->Tr.find id st.heap=none
 glob:pT Γ
 flo:Γ.flo<=st.ro
theorem dQ.blkc{st:St}{Γ:aP}{w:bR3}(h:dQ st Γ w)(id:Id)(b:cK)(j:st.lookc id b):∃p s,Γ id=some (p,s)/\p<w.heap.size/\∃cs,∃el:bR5×Nat×Nat,w.heap[p]? =some (.cells cs el.1 el.2)/\cs.size=s/\b.cells.length<=s/\bW Γ b.cells (cs.toList.take b.cells.length)/\(b.exact=true->s=b.cells.length):=by
 obtain⟨p,s,h1,h2,D⟩:=h.blk id b j.lk
 obtain⟨cs,el,k1,k2⟩:=D.unthw.cells j.nm
 obtain⟨fr,k3⟩:=aEY k1
 exact⟨p,s,h1,h2,cs,⟨el,fr⟩,k3,k2⟩
theorem dQ.blkw{st:St}{Γ:aP}{w:bR3}(h:dQ st Γ w)(id:Id)(b:cK)(j:st.lookc id b)(U:st.ro<=id.nat):∃p s,Γ id=some (p,s)/\p<w.heap.size/\∃cs el,w.heap[p]? =some (.cells cs el (0,0))/\cs.size=s/\b.cells.length<=s/\bW Γ b.cells (cs.toList.take b.cells.length)/\(b.exact=true->s=b.cells.length):=by
 obtain⟨p,s,h1,h2,D⟩:=h.blk id b j.lk
 rw[bDB (bJH h.flo U)]at D
 exact⟨p,s,h1,h2,D.cells j.nm⟩
structure dH(st:St)(Γ:aP)(w:bR3)(st':St)(Γ':aP)(w':bR3):Prop where
 sim:dQ st' Γ' w'
 sub:aP.le Γ Γ'
 fl:Γ'.flo=Γ.flo
 same:∀id,id.nat<st.nxt.nat->Γ' id=Γ id
 os:w'.os=w.os
 tape:w'.tape=w.tape
 output:w'.output=w.output
 size:w.heap.size<=w'.heap.size
 ro:st'.ro=st.ro
 hid:st'.hid=st.hid
 nxt:st.nxt.nat<=st'.nxt.nat
 frame:∀q:Nat,q<w.heap.size->(∀id b s,st.look id b->st.ro<=id.nat->Γ id≠some (q,s))->w'.heap[q]? =w.heap[q]?
 wr:∀q id b s,q<w.heap.size->st'.look id b->st.ro<=id.nat->Γ' id=some (q,s)->∃H V P,st.look H V/\st.ro<=H.nat/\Γ H=some (q,P)
 old:∀id,id.nat<st.nxt.nat->(id.nat<st.ro\/¬st.vis id)->Tr.find id st'.heap=Tr.find id st.heap
theorem dH.refl{st:St}{Γ:aP}{w:bR3}(h:dQ st Γ w):dH st Γ w st Γ w:=
 ⟨h,aP.le_refl _,rfl,fun _ _=>rfl,rfl,rfl,rfl,bJE _,rfl,rfl,bJE _,fun _ _ _=>rfl,fun _ id b s _ h1 h2 D=>⟨id,b,s,h1,h2,D⟩,fun _ _ _=>rfl⟩
theorem aGA{st st':St}(h:st'.hid=st.hid)(id:Id):st'.vis id↔st.vis id:=by unfold St.vis;rw[h]
theorem dH.trans{P s1 Q:St}{Γ0 Γ1 Γ2:aP}{w0 w1 w2:bR3}(h:dH P Γ0 w0 s1 Γ1 w1)(k:dH s1 Γ1 w1 Q Γ2 w2):dH P Γ0 w0 Q Γ2 w2:=by
 refine⟨k.sim,aP.le_trans h.sub k.sub,k.fl.trans h.fl,fun id E=>(k.same id (bJK E h.nxt)).trans (h.same id E),k.os.trans h.os,k.tape.trans h.tape,k.output.trans h.output,bJH h.size k.size,k.ro.trans h.ro,k.hid.trans h.hid,bJH h.nxt k.nxt, ?_, ?_, ?_⟩
 ·intro q hq hn
  rw[k.frame q (bJK hq h.size) ?_,h.frame q hq hn]
  intro id b s j hr L
  obtain⟨H,V,t0,g1,g2,g3⟩:=h.wr q id b s hq j (h.ro ▸ hr) L
  exact hn H V t0 g1 g2 g3
 ·intro q id b s hq j hr L
  obtain⟨W,b1,t1,g1,g2,g3⟩:=k.wr q id b s (bJK hq h.size) j (h.ro.symm ▸ hr) L
  exact h.wr q W b1 t1 hq g1 (h.ro ▸ g2) g3
 ·intro id E hr
  rw[k.old id (bJK E h.nxt) ?_,h.old id E hr]
  rcases hr with hr|hr
  ·left;rw[h.ro];exact hr
  ·right;rwa [aGA h.hid]
theorem dQ.drew{st:St}{Γ:aP}{w w':bR3}(h:dQ st Γ w)(hh:w'.heap=w.heap):dQ st Γ w':=
 ⟨fun id b j=>by rw[hh];exact h.blk id b j,h.inj,h.fresh,h.top,h.glob,h.flo⟩
theorem dH.drew{st:St}{Γ:aP}{w w':bR3}(h:dQ st Γ w)(hh:w'.heap=w.heap)(ho:w'.os=w.os)(ht:w'.tape=w.tape)(hu:w'.output=w.output):dH st Γ w st Γ w':=
 ⟨h.drew hh,aP.le_refl _,rfl,fun _ _=>rfl,ho,ht,hu,by rw[hh];exact bJE _,rfl,rfl,bJE _,fun _ _ _=>by rw[hh],fun q id b s _ h1 h2 D=>⟨id,b,s,h1,h2,D⟩,fun _ _ _=>rfl⟩
def St.new(st:St)(b:cK):St:=St.rec (fun heap nxt ro hid=>⟨Tr.put (some b) nxt heap,Id.succ nxt,ro,hid⟩) st
def aP.add(Γ:aP)(id:Id)(p s:Nat):aP:=⟨fun x=>if x=id then some (p,s)else Γ x,Γ.flo⟩
theorem aP.add_at(Γ:aP)(id x:Id)(p s:Nat):Γ.add id p s x=if x=id then some (p,s)else Γ x:=rfl
theorem aP.add_le{Γ:aP}{id:Id}(h:Γ id=none)(p s:Nat):aP.le Γ (Γ.add id p s):=fun x q e=>by
 rw[aP.add_at]
 split
 ·rename_i hx;rw[hx,h]at e;cases e
 ·exact e
theorem aP.add_self(Γ:aP)(id:Id)(p s:Nat):Γ.add id p s id=some (p,s):=if_pos rfl
theorem aP.add_ne(Γ:aP){id x:Id}(h:x≠id)(p s:Nat):Γ.add id p s x=Γ x:=if_neg h
theorem St.new_look{st:St}{b:cK}{id:Id}{c:cK}(h:(st.new b).look id c)(M:id≠st.nxt):st.look id c:=by
 obtain⟨h1,h2⟩:=h
 refine⟨h1, ?_⟩
 have:Tr.find id (Tr.put (some b) st.nxt st.heap)=some c:=h2
 rwa [Tr.put_other _ _ _ _ (fun e=>M e.symm)]at this
theorem St.new_look_self{st:St}{b:cK}{c:cK}(h:(st.new b).look st.nxt c):c=b:=by
 have:Tr.find st.nxt (Tr.put (some b) st.nxt st.heap)=some c:=h.2
 rw[Tr.put_same]at this;injection this with this;exact this.symm
theorem dH.newO{st:St}{Γ:aP}{w:bR3}(h:dQ st Γ w){b:cK}{s:Nat}{ob:Obj}(X:∀Γ',aP.le Γ Γ'->BR Γ' b s (some ob)):
  dH st Γ w (st.new b) (Γ.add st.nxt w.heap.size s) { w with heap:=w.heap.push ob }:=by
 have hn:Γ st.nxt=none:=h.fresh _ (bJE _)
 have F:aP.le Γ (Γ.add st.nxt w.heap.size s):=aP.add_le hn _ _
 have M:∀ {id:Id} {c:cK},st.look id c->id≠st.nxt:=fun {id c} j e=>by
  obtain⟨p,s,r,_⟩:=h.blk id c j
  rw[e,hn]at r;cases r
 have G:(st.new b).nxt.nat=st.nxt.nat+1:=Id.nat_succ _
 refine⟨⟨?_, ?_, ?_, ?_,h.glob.mono F,h.flo⟩,F,rfl,fun id E=>aP.add_ne _ (fun e=>by rw[e]at E;omega) _ _,rfl,rfl,rfl,by simp,rfl,rfl,by rw[G];omega, ?_, ?_, ?_⟩
 ·intro id c j
  by_cases e:id=st.nxt
  ·subst e
   obtain rfl:=St.new_look_self j
   refine⟨w.heap.size,s,aP.add_self _ _ _ _,by simp, ?_⟩
   rw[show(w.heap.push ob)[w.heap.size]? =some ob by simp]
   exact(X _ F).thw
  ·obtain⟨p,s,r,J,O⟩:=h.blk id c (St.new_look j e)
   refine⟨p,s,F _ _ r,by simp;omega, ?_⟩
   simp only[Array.getElem?_push,if_neg (bMV J)]
   exact O.mono F
 ·intro id y c c' p s s' j N Y r C
  by_cases e:id=st.nxt
  ·by_cases K:y=st.nxt
   ·rw[e,K]
   ·subst e
    rw[aP.add_self]at r;injection r with r;injection r with Z d
    rw[aP.add_ne _ K]at C
    obtain⟨p2,Q,d,J,_⟩:=h.blk y c' (St.new_look N K)
    rw[C]at d;injection d with d;injection d with d _;omega
  ·rw[aP.add_ne _ e]at r
   by_cases K:y=st.nxt
   ·subst K
    rw[aP.add_self]at C;injection C with C;injection C with Z d
    obtain⟨p2,Q,d,J,_⟩:=h.blk id c (St.new_look j e)
    rw[r]at d;injection d with d;injection d with d _;omega
   ·rw[aP.add_ne _ K]at C
    exact h.inj id y c c' p s s' (St.new_look j e) (St.new_look N K) Y r C
 ·intro id E
  rw[G]at E
  have:id≠st.nxt:=fun e=>by rw[e]at E;omega
  rw[aP.add_ne _ this];exact h.fresh id (by omega)
 ·intro id E
  rw[G]at E
  exact(Tr.put_other _ _ _ _ (fun e=>by rw[←e]at E;omega)).trans (h.top id (by omega))
 ·intro q hq _
  show(w.heap.push _)[q]? =_
  rw[Array.getElem?_push,if_neg (bMV hq)]
 ·intro q id c s hq j hr r
  by_cases e:id=st.nxt
  ·subst e;rw[aP.add_self]at r;injection r with r;injection r with r _;omega
  ·rw[aP.add_ne _ e]at r;exact⟨id,c,s,St.new_look j e,hr,r⟩
 ·intro id E _
  exact Tr.put_other _ _ _ _ (fun e=>by rw[←e]at E;omega)
theorem dH.new{st:St}{Γ:aP}{w:bR3}(h:dQ st Γ w){b:cK}{cs:Array bR4}(el:bR5)(hc:bW Γ b.cells (cs.toList.take b.cells.length))(B:b.cells.length<=cs.size)(L:b.exact=true->cs.size=b.cells.length):
  dH st Γ w (st.new b) (Γ.add st.nxt w.heap.size cs.size) { w with heap:=w.heap.push (.cells cs el) }:=dH.newO h fun _ F=> .of rfl rfl B (hc.mono F) L
section
inductive aT where
 |nil
 |cons (t:Nat) (a:AV) (e:aT)
 |del (t:Nat) (e:aT)
def aT.vget:aT->Nat->KA->OR:=aT.rec (fun _ _=>none) (fun t a _ ih n=>Bool.rec (ih n) (fun k=>k a) (Nat.beq t n)) (fun t _ ih n=>Bool.rec (ih n) (fun _=>none) (Nat.beq t n))
def aT.lget:aT->aT->Nat->KA->OR:=aT.rec (fun V=>V.vget) (fun t a _ ih V n=>Bool.rec (ih V n) (fun k=>k a) (Nat.beq t n)) (fun t _ ih V n=>Bool.rec (ih V n) (fun _=>none) (Nat.beq t n))
def aT.rem(t:Nat):aT->aT:=aT.rec .nil (fun w a' e ih=>Bool.rec (.cons w a' ih) e (Nat.beq w t)) (fun w e _=> .del w e)
def aT.vset(t:Nat)(a:AV)(V:aT):aT:= .cons t a (aT.rem t V)
inductive eD where
 |normal
 |exit (id:Nat)
 |ret
def pS:Bool->Bool:=Bool.rec true false
def uQ:Bool->Bool->Bool:=Bool.rec pS (fun b=>b)
def bQ(b:Bool)(y n:OR):OR:=Bool.rec n y b
def lV(l:List AV):Nat:=List.rec 0 (fun _ _ n=>Nat.succ n) l
def lU(l m:List AV):List AV:=List.rec m (fun a _ ih=>a::ih) l
def iP(n:Nat)(z:List AV):List AV:=Nat.rec [] (fun _ ih=>lU z ih) n
def aGS:Nat->List AV->(List AV->OR)->OR:=Nat.rec (fun _ k=>k []) (fun _ ih=>List.rec (fun _=>none) (fun a l _ k=>ih l fun r=>k (a::r)))
def fT(n:Nat):Nat->List AV->(List AV->OR)->OR:=Nat.rec (aGS n) (fun _ ih=>List.rec (fun _=>none) (fun _ l _ k=>ih l k))
def aEv:Nat->List AV->KA->OR:=Nat.rec (List.rec (fun _=>none) (fun a _ _ k=>k a)) (fun _ ih=>List.rec (fun _=>none) (fun _ l _ k=>ih l k))
def aEg:List AV->List AV->(List AV->OR)->OR:=List.rec (fun l k=>k l) (fun a _ ih=>List.rec (fun _=>none) (fun _ l _ k=>ih l fun r=>k (a::r)))
def nM(cs:List AV):Nat->List AV->(List AV->OR)->OR:=Nat.rec (aEg cs) (fun _ ih=>List.rec (fun _=>none) (fun a l _ k=>ih l fun r=>k (a::r)))
def AV.cells:AV->List AV:=AV.rec (motive_1:=fun _=>List AV) (motive_2:=fun _=>Unit) (fun x=>[.b x]) (fun k n=>[.i k n]) (fun k n=>[.m k n]) (fun x=>[.v x]) ([.u]) ([.se]) (fun i o=>[.ptr i o]) (fun a b c d e=>[.sl a b c d e]) (fun f a b _ _=>[.fn f a b]) (fun cs _=>cs) (fun cs _=>[.tup cs]) () (fun _ _ _ _=>())
def AV.one:AV->Bool:=AV.rec (motive_1:=fun _=>Bool) (motive_2:=fun _=>Unit) (fun _=>true) (fun _ _=>true) (fun _ _=>true) (fun _=>true) (false) (true) (fun _ _=>true) (fun _ _ _ _ _=>true) (fun _ _ _ _ _=>true) (fun _ _=>false) (fun _ _=>false) () (fun _ _ _ _=>())
def jG:List AV->Bool:=List.rec true (fun a _ ih=>Bool.rec false ih a.one)
def aE:bR4->Option AV
 | .bool b=>some (.b b)
 | .int k (.ofNat n)=>some (.i k n)
 | .int k (.negSucc n)=>some (.m k n)
 | .agg _=>none
 | .tuple _=>none
 |x=>some (.v x)
def aF:List bR4->Option (List AV)
 | []=>some []
 |x::l=>match aE x,aF l with |some a,some r=>some (a::r)|_,_=>none
def aC:bR4->Option AV
 | .agg cs=>match aF cs.toList with |some l=>some (.agg l)|none=>none
 | .tuple vs=>match vs.toList with | []=>some .u|_=>none
 |x=>aE x
abbrev aL4:=aT->aT->KA->OR
def bJc(t:Nat):aL4:=fun L V k=>L.lget V t k
def zN:Option AV->aL4:=Option.rec (fun _ _ _=>none) (fun a _ _ k=>k a)
def cF:bR7->aL4:=Operand.rec bJc (fun v=>zN (aC v)) (fun g=>zN (Bool.rec none (some (.ptr (iH g) 0)) (Nat.ble (Nat.succ g) G0))) (fun f=>zN (some (.fn (.func f) [] [])))
def jH:List bR7->aT->aT->(List AV->OR)->OR:=
 List.rec (fun _ _ k=>k []) (fun x _ ih L V k=>cF x L V fun a=>ih L V fun r=>k (a::r))
def oU:AV->(Bool->OR)->OR:=AV.rec (motive_1:=fun _=>(Bool->OR)->OR) (motive_2:=fun _=>Unit) (fun b k=>k b) (fun _ _ _=>none) (fun _ _ _=>none) (fun _ _=>none) (fun _=>none) (fun _=>none) (fun _ _ _=>none) (fun _ _ _ _ _ _=>none) (fun _ _ _ _ _ _=>none) (fun _ _ _=>none) (fun _ _ _=>none) () (fun _ _ _ _=>())
def aL1:AV->OR->(Bool->OR)->OR:=AV.rec (motive_1:=fun _=>OR->(Bool->OR)->OR) (motive_2:=fun _=>Unit) (fun b _ k=>k b) (fun _ _ _ _=>none) (fun _ _ _ _=>none) (fun _ _ _=>none) (fun n _=>n) (fun _ _=>none) (fun _ _ _ _=>none) (fun _ _ _ _ _ _ _=>none) (fun _ _ _ _ _ _ _=>none) (fun _ _ _ _=>none) (fun _ _ _ _=>none) () (fun _ _ _ _=>())
def kT:bR6->Nat:=IntKind.rec (nat_lit 0) (nat_lit 1) (nat_lit 2) (nat_lit 3) (nat_lit 4) (nat_lit 5) (nat_lit 6) (nat_lit 7)
def iS:AV->(Nat->OR)->OR:=AV.rec (motive_1:=fun _=>(Nat->OR)->OR) (motive_2:=fun _=>Unit) (fun _ _=>none) (fun _ n k=>k n) (fun _ _ _=>none) (fun _ _=>none) (fun _=>none) (fun _=>none) (fun _ _ _=>none) (fun _ _ _ _ _ _=>none) (fun _ _ _ _ _ _=>none) (fun _ _ _=>none) (fun _ _ _=>none) () (fun _ _ _ _=>())
def asK(ki:bR6):AV->(Nat->OR)->OR:=AV.rec (motive_1:=fun _=>(Nat->OR)->OR) (motive_2:=fun _=>Unit) (fun _ _=>none) (fun k n c=>bQ (Nat.beq (kT k) (kT ki)) (c n) none) (fun _ _ _=>none) (fun _ _=>none) (fun _=>none) (fun _=>none) (fun _ _ _=>none) (fun _ _ _ _ _ _=>none) (fun _ _ _ _ _ _=>none) (fun _ _ _=>none) (fun _ _ _=>none) () (fun _ _ _ _=>())
def rP:AV->(Nat->OR)->(Nat->OR)->OR:=AV.rec (motive_1:=fun _=>(Nat->OR)->(Nat->OR)->OR) (motive_2:=fun _=>Unit) (fun _ _ _=>none) (fun _ n k _=>k n) (fun _ n _ k=>k n) (fun _ _ _=>none) (fun _ _=>none) (fun _ _=>none) (fun _ _ _ _=>none) (fun _ _ _ _ _ _ _=>none) (fun _ _ _ _ _ _ _=>none) (fun _ _ _ _=>none) (fun _ _ _ _=>none) () (fun _ _ _ _=>())
def oK(ki:bR6):AV->(Nat->OR)->(Nat->OR)->OR:=AV.rec (motive_1:=fun _=>(Nat->OR)->(Nat->OR)->OR) (motive_2:=fun _=>Unit) (fun _ _ _=>none) (fun k n c _=>bQ (Nat.beq (kT k) (kT ki)) (c n) none) (fun k n _ c=>bQ (Nat.beq (kT k) (kT ki)) (c n) none) (fun _ _ _=>none) (fun _ _=>none) (fun _ _=>none) (fun _ _ _ _=>none) (fun _ _ _ _ _ _ _=>none) (fun _ _ _ _ _ _ _=>none) (fun _ _ _ _=>none) (fun _ _ _ _=>none) () (fun _ _ _ _=>())
def lE:AV->(Id->Nat->OR)->OR:=AV.rec (motive_1:=fun _=>(Id->Nat->OR)->OR) (motive_2:=fun _=>Unit) (fun _ _=>none) (fun _ _ _=>none) (fun _ _ _=>none) (fun _ _=>none) (fun _=>none) (fun _=>none) (fun i o k=>k i o) (fun _ _ _ _ _ _=>none) (fun _ _ _ _ _ _=>none) (fun _ _ _=>none) (fun _ _ _=>none) () (fun _ _ _ _=>())
def asG:AV->(List AV->OR)->OR:=AV.rec (motive_1:=fun _=>(List AV->OR)->OR) (motive_2:=fun _=>Unit) (fun _ _=>none) (fun _ _ _=>none) (fun _ _ _=>none) (fun _ _=>none) (fun _=>none) (fun _=>none) (fun _ _ _=>none) (fun _ _ _ _ _ _=>none) (fun _ _ _ _ _ _=>none) (fun cs _ k=>k cs) (fun _ _ _=>none) () (fun _ _ _ _=>())
def asT:AV->(List AV->OR)->OR:=AV.rec (motive_1:=fun _=>(List AV->OR)->OR) (motive_2:=fun _=>Unit) (fun _ _=>none) (fun _ _ _=>none) (fun _ _ _=>none) (fun _ _=>none) (fun _=>none) (fun _=>none) (fun _ _ _=>none) (fun _ _ _ _ _ _=>none) (fun _ _ _ _ _ _=>none) (fun _ _ _=>none) (fun cs _ k=>k cs) () (fun _ _ _ _=>())
def asF:AV->(Nat->List AV->List AV->OR)->OR:=AV.rec (motive_1:=fun _=>(Nat->List AV->List AV->OR)->OR) (motive_2:=fun _=>Unit) (fun _ _=>none) (fun _ _ _=>none) (fun _ _ _=>none) (fun _ _=>none) (fun _=>none) (fun _=>none) (fun _ _ _=>none) (fun _ _ _ _ _ _=>none) (fun f a b _ _ k=>Fn.rec (fun f=>k f a b) (fun _=>none) (fun _ _=>none) (fun _ _ _ _=>none) (fun _=>none) f) (fun _ _ _=>none) (fun _ _ _=>none) () (fun _ _ _ _=>())
def aEp(n:OR):bR4->OR:=fun x=>match x with | .slice none 0 0=>n|_=>none
def aHg(n:OR):bR4->OR:=fun x=>match x with | .pointer none=>n|_=>none
def aH0(n:OR):bR4->OR:=fun x=>match x with | .nilFunc=>n|_=>none
def iG:AV->OR->OR->(Id->Nat->Nat->Option Nat->Nat->OR)->OR:=AV.rec (motive_1:=fun _=>OR->OR->(Id->Nat->Nat->Option Nat->Nat->OR)->OR) (motive_2:=fun _=>Unit) (fun _ _ _ _=>none) (fun _ _ _ _ _=>none) (fun _ _ _ _ _=>none) (fun x n _ _=>aEp n x) (fun _ _ _=>none) (fun _ e _=>e) (fun _ _ _ _ _=>none) (fun id off len cap sz _ _ k=>k id off len cap sz) (fun _ _ _ _ _ _ _ _=>none) (fun _ _ _ _ _=>none) (fun _ _ _ _ _=>none) () (fun _ _ _ _=>())
def aH3:AV->(Bool->OR)->OR:=AV.rec (motive_1:=fun _=>(Bool->OR)->OR) (motive_2:=fun _=>Unit) (fun _ _=>none) (fun _ _ _=>none) (fun _ _ _=>none) (fun x k=>aHg (k true) x) (fun _=>none) (fun _=>none) (fun _ _ k=>k false) (fun _ _ _ _ _ _=>none) (fun _ _ _ _ _ _=>none) (fun _ _ _=>none) (fun _ _ _=>none) () (fun _ _ _ _=>())
def aGY:AV->(Bool->OR)->OR:=AV.rec (motive_1:=fun _=>(Bool->OR)->OR) (motive_2:=fun _=>Unit) (fun _ _=>none) (fun _ _ _=>none) (fun _ _ _=>none) (fun x k=>aEp (k true) x) (fun _=>none) (fun k=>k false) (fun _ _ _=>none) (fun _ _ _ _ _ k=>k false) (fun _ _ _ _ _ _=>none) (fun _ _ _=>none) (fun _ _ _=>none) () (fun _ _ _ _=>())
def aHi:AV->(Bool->OR)->OR:=AV.rec (motive_1:=fun _=>(Bool->OR)->OR) (motive_2:=fun _=>Unit) (fun _ _=>none) (fun _ _ _=>none) (fun _ _ _=>none) (fun x k=>aH0 (k true) x) (fun _=>none) (fun _=>none) (fun _ _ _=>none) (fun _ _ _ _ _ _=>none) (fun f _ _ _ _ k=>Fn.rec (fun _=>k false) (fun _=>none) (fun _ _=>none) (fun _ _ _ _=>none) (fun _=>none) f) (fun _ _ _=>none) (fun _ _ _=>none) () (fun _ _ _ _=>())
def fU:bR6->Nat:=IntKind.rec (nat_lit 127) (nat_lit 32767) (nat_lit 2147483647) (nat_lit 9223372036854775807) (nat_lit 255) (nat_lit 65535) (nat_lit 4294967295) (nat_lit 18446744073709551615)
def sgn:bR6->Bool:=IntKind.rec true true true true false false false false
def rD(k:bR6):Int->AV:=Int.rec (fun n=> .i k n) (fun n=> .m k n)
def jV(k:bR6)(n:Nat):AV:=Bool.rec (rD k (k.wrap (Int.ofNat n))) (.i k n) (Nat.ble n (fU k))
def oD(k:bR6)(n:Nat):AV:=Bool.rec (rD k (k.wrap (Int.negSucc n))) (Bool.rec (rD k (k.wrap (Int.negSucc n))) (.m k n) (Nat.ble n (fU k))) (sgn k)
def fS(k:bR6)(a b:Nat):AV:=Bool.rec (oD k (bMb (Nat.sub b a))) (jV k (Nat.sub a b)) (Nat.ble b a)
abbrev xA:=bR6->AV->AV->KA->OR
def aH1:xA:=fun k x y c=>rP x (fun a=>oK k y (fun b=>c (jV k (Nat.add a b))) (fun b=>c (fS k a (Nat.succ b)))) (fun a=>oK k y (fun b=>c (fS k b (Nat.succ a))) (fun b=>c (oD k (Nat.succ (Nat.add a b)))))
def aGW:xA:=fun k x y c=>rP x (fun a=>oK k y (fun b=>c (fS k a b)) (fun b=>c (jV k (Nat.add a (Nat.succ b))))) (fun a=>oK k y (fun b=>c (oD k (Nat.add a b))) (fun b=>c (fS k b a)))
def aH7:xA:=fun k x y c=>rP x (fun a=>oK k y (fun b=>c (jV k (Nat.mul a b))) (fun b=>c (fS k 0 (Nat.mul a (Nat.succ b))))) (fun a=>oK k y (fun b=>c (fS k 0 (Nat.mul (Nat.succ a) b))) (fun b=>c (jV k (Nat.mul (Nat.succ a) (Nat.succ b)))))
def nnK(f:Nat->Nat->Nat):xA:=fun k x y c=>iS x fun a=>asK k y fun b=>bQ (Nat.ble a (fU k)) (bQ (Nat.ble b (fU k)) (c (.i k (f a b))) none) none
def qrK(f:Nat->Nat->Nat):xA:=fun k x y c=>iS x fun a=>asK k y fun b=>bQ (Nat.beq b 0) none (bQ (Nat.ble a (fU k)) (c (.i k (f a b))) none)
def aB5:bR6->Nat:=IntKind.rec (nat_lit 8) (nat_lit 16) (nat_lit 32) (nat_lit 64) (nat_lit 8) (nat_lit 16) (nat_lit 32) (nat_lit 64)
def aCh(a b:Nat):Nat:=Bool.rec b a (Nat.ble a b)
def aUu:xA:=fun k x y c=>iS x fun a=>iS y fun b=>c (jV k (Nat.mul a (Nat.pow 2 (aCh b (aB5 k)))))
def aUM:xA:=fun k x y c=>iS x fun a=>iS y fun b=>c (.i k (Nat.div a (Nat.pow 2 (aCh b (aB5 k)))))
def uV(f g:Nat->Nat->Bool)(pm mp:Bool):xA:=fun k x y c=>rP x (fun a=>oK k y (fun b=>c (.b (f a b))) (fun _=>c (.b pm))) (fun a=>oK k y (fun _=>c (.b mp)) (fun b=>c (.b (g a b))))
def iOp:BinOp->xA:=BinOp.rec aH1 aGW aH7 (qrK Nat.div) (qrK Nat.mod) (nnK bLn) (nnK Nat.lor) (nnK Nat.xor) aUu aUM (nnK fun a b=>Nat.xor a (bLn a b))
  (uV Nat.beq Nat.beq false false) (uV (fun a b=>pS (Nat.beq a b)) (fun a b=>pS (Nat.beq a b)) true true) (uV (fun a b=>pS (Nat.ble b a)) (fun a b=>pS (Nat.ble a b)) false true) (uV Nat.ble (fun a b=>Nat.ble b a) false true) (uV (fun a b=>pS (Nat.ble a b)) (fun a b=>pS (Nat.ble b a)) true false) (uV (fun a b=>Nat.ble b a) Nat.ble true false)
def qI:BinOp->Bool->KA->OR:=BinOp.rec (fun _ _=>none) (fun _ _=>none) (fun _ _=>none) (fun _ _=>none) (fun _ _=>none) (fun _ _=>none) (fun _ _=>none) (fun _ _=>none) (fun _ _=>none) (fun _ _=>none) (fun _ _=>none) (fun b k=>k (.b b)) (fun b k=>k (.b (pS b))) (fun _ _=>none) (fun _ _=>none) (fun _ _=>none) (fun _ _=>none)
def aKd(f:AV->(Bool->OR)->OR)(op:BinOp)(x y:AV)(k:KA):OR:=f x fun a=>f y fun b=>Bool.rec (Bool.rec none (qI op false k) b) (qI op b k) a
def aKM(op:BinOp)(a b:ByteArray)(k:KA):OR:=match op with
 | .eql=>k (.b (a.toList==b.toList))
 | .neq=>k (.b (!(a.toList==b.toList)))
 | .add=>if a.size+b.size<=100000000 then k (.v (.string (a++b)))else none
 |_=>none
section
variable (P:bR8)
inductive fP where
 |boo|ptr|sli|fun_|other
def fA(t:bR5):fP:=match P.underlying t with |some .bool=> .boo|some (.pointer _)=> .ptr|some (.slice _)=> .sli|some (.func _ _ _)=> .fun_|_=> .other
def aCx(op:BinOp):fP->AV->AV->KA->OR:=fP.rec (fun _ _ _=>none) (aKd aH3 op) (aKd aGY op) (aKd aHi op) (fun _ _ _=>none)
def aTT(op:BinOp):fP->Bool->AV->KA->OR:=fP.rec (fun a y k=>oU y fun b=>qI op (uQ a b) k) (fun _ _ _=>none) (fun _ _ _=>none) (fun _ _ _=>none) (fun _ _ _=>none)
def vK(op:BinOp)(t:fP)(x:bR4)(y:AV)(k:KA):OR:=match x,y with | .string a,.v (.string b)=>aKM op a b k|x,y=>aCx op t (.v x) y k
def wR(op:BinOp)(t:fP):AV->AV->KA->OR:=AV.rec (motive_1:=fun _=>AV->KA->OR) (motive_2:=fun _=>Unit) (fun a=>aTT op t a) (fun ki a=>iOp op ki (.i ki a)) (fun ki a=>iOp op ki (.m ki a)) (fun x=>vK op t x) (fun _ _=>none) (aCx op t .se) (fun i o=>aCx op t (.ptr i o)) (fun a b c d e=>aCx op t (.sl a b c d e)) (fun a b c _ _=>aCx op t (.fn a b c)) (fun _ _ _ _=>none) (fun _ _ _ _=>none) () (fun _ _ _ _=>())
def jZ(t:bR5):Bool:=match P.underlying t with |some (.struct _)|some (.array _ _)=>true|_=>false
def aY(t:bR5):Nat:=P.cellsOf t
def iK(t:bR5):Option AV:=match P.info? t with |some i=>(match i.zero with |some z=>aC z|none=>none)|none=>none
def lI(t:bR5)(f:Nat):Option (Nat×bR5):=match P.underlying t with |some (.struct fs)=>(match fs[f]? with |some g=>some (g.offset,g.type)|none=>none)|_=>none
def cW(t:bR5):Option bR5:=match P.underlying t with |some (.slice e)=>some e|_=>none
def nP(s t:bR5):Option bR6:=match P.underlying s,P.underlying t with |some _,some (.int k)=>some k|_,_=>none
def aEA(t:bR5):Option (Nat×bR5):=match P.underlying t with |some (.array n e)=>some (n,e)|_=>none
def dG(t:bR5):Bool:=(P.info? t).isSome&&(P.underlying t).isSome
abbrev dT:=aT->aT->St->KS->OR
def oR{α:Type}(f:α->dT):Option α->dT:=Option.rec (fun _ _ _ _=>none) f
def bR(f:dT):Bool->dT:=Bool.rec (fun _ _ _ _=>none) f
def oQ(t:bR5):Nat->List AV->KA->OR:=Bool.rec aEv (fun off cells k=>fT (aY P t) off cells fun cs=>k (.agg cs)) (jZ P t)
def aGP(x:bR7):dT:=fun L V st k=>cF x L V fun a=>k a st
def aUg(c a b:bR7):dT:=fun L V st k=>cF c L V fun y=>oU y fun t=>cF a L V fun a=>cF b L V fun b=>k (Bool.rec b a t) st
def aKU(cs:List AV)(st:St)(k:KS):OR:=k (.ptr st.nxt 0) (st.new ⟨cs,true⟩)
def aGw(e:bR5):dT:=oR (fun z=>fun _ _ st k=>aKU z.cells st k) (iK P e)
def aUD(x:bR7):dT:=fun L V st k=>cF x L V fun a=>aKU a.cells st k
def aCs(place:Nat->Option (Nat×Nat)):List (Nat×bR7)->aT->aT->List AV->(List AV->OR)->OR:=
 List.rec (fun _ _ cs k=>k cs) (fun p _ ih L V cs k=>Option.rec none (fun q=>cF p.2 L V fun a=>bQ (Nat.beq (lV a.cells) q.2) (nM a.cells q.1 cs fun cs=>ih L V cs k) none) (place p.1))
def qW(t:bR5)(f:Nat):Option (Nat×Nat):=match lI P t f with |some (off,ft)=>if dG P ft then some (off,aY P ft)else none|none=>none
def aAi(t:bR5):Bool:=match P.underlying t with |some (.struct fs)=>fs.all fun f=>dG P f.type|_=>false
def aGd(t:bR5)(ps:Array (Nat×bR7)):dT:=bR (oR (fun z=>fun L V st k=>aCs (qW P t) ps.toList L V z.cells fun cs=>k (.agg cs) st) (iK P t)) (aAi P t)
def aKQ(len:Nat)(ps:Array (Nat×bR7))(sz:Nat)(z:List AV):dT:=fun L V st k=>aCs (fun i=>some (Nat.mul i sz,sz)) ps.toList L V z fun cs=>k (.sl st.nxt 0 len (some len) sz) (st.new ⟨cs,true⟩)
def dN(e:bR5):Bool:=match P.info? e,iK P e with |some i,some z=>Nat.beq (lV z.cells) i.size&&Nat.ble 1 i.size&&Nat.ble i.size 1000&&Nat.ble i.bytes 65536|_,_=>false
def aGV(t:bR5)(len:Nat)(ps:Array (Nat×bR7)):dT:=oR (fun e=>bR (oR (fun z=>aKQ len ps (aY P e) (iP len z.cells)) (iK P e)) (dN P e&&Nat.ble len 1000)) (cW P t)
def yW(t:bR5)(a:bR7):dT:=bR (fun L V st k=>cF a L V fun y=>lE y fun id off=>eQ st id fun b=>oQ P t off b.cells fun v=>k v st) (dG P t)
def nO(st:St)(id:Id)(b:cK)(k:St->OR):OR:=wrK st id (St.rec (motive:=fun _=>OR) (fun heap nxt ro hid=>k ⟨Tr.put (some b) id heap,nxt,ro,hid⟩) st)
def aCc(t:bR5)(a x:bR7):dT:=bR (fun L V st k=>cF a L V fun y=>cF x L V fun v=>lE y fun id off=>eQ st id fun b=>bQ (Nat.beq (lV v.cells) (aY P t)) (bQ (jG v.cells) (nM v.cells off b.cells fun cs=>nO st id ⟨cs,b.exact⟩ fun st=>k .u st) none) none) (dG P t)
def aUb:AV->OR->OR:=AV.rec (motive_1:=fun _=>OR->OR) (motive_2:=fun _=>Unit) (fun _ _=>none) (fun _ _ _=>none) (fun _ _ _=>none) (fun _ _=>none) (fun _=>none) (fun _=>none) (fun _ _ k=>k) (fun _ _ _ _ _ _=>none) (fun f _ _ _ _ k=>Fn.rec (fun _=>k) (fun _=>none) (fun _ _=>none) (fun _ _ _ _=>none) (fun _=>none) f) (fun _ _ _=>none) (fun _ _ _=>none) () (fun _ _ _ _=>())
def aUR(x:bR7):dT:=fun L V st k=>cF x L V fun y=>aUb y (k y st)
def nF:bR7->Bool
 | .const .nilIface=>true
 |_=>false
def aB7(t:bR5):Bool:=match P.underlying t with |some (.interface _)=>true|_=>false
def aCF:AV->Option Bool
 | .v .nilIface=>some true
 | .fn (.yield 2) [] []=>some false
 |_=>none
def aUv(op:BinOp)(x:bR7):dT:=fun L V st k=>cF x L V fun a=>Option.rec none (fun b=>qI op b fun v=>k v st) (aCF a)
def aQR(op:BinOp)(t:bR5)(x y:bR7):dT:=fun L V st k=>cF x L V fun a=>cF y L V fun b=>wR op (fA P t) a b fun v=>k v st
def aAL(op:BinOp)(t:bR5)(x y:bR7):dT:=Bool.rec (aQR P op t x y) (aUv op x) (nF y&&aB7 P t)
def bIV:AV->KA->OR:=AV.rec (motive_1:=fun _=>KA->OR) (motive_2:=fun _=>Unit) (fun _ _=>none) (fun ki n k=>k (fS ki 0 n)) (fun ki n k=>k (jV ki (Nat.succ n))) (fun _ _=>none) (fun _=>none) (fun _=>none) (fun _ _ _=>none) (fun _ _ _ _ _ _=>none) (fun _ _ _ _ _ _=>none) (fun _ _ _=>none) (fun _ _ _=>none) () (fun _ _ _ _=>())
def unK:UnOp->AV->KA->OR:=UnOp.rec bIV (fun _ _=>none) (fun y k=>oU y fun b=>k (.b (pS b))) (fun _ _=>none)
def aU0(op:UnOp)(x:bR7):dT:=fun L V st k=>cF x L V fun a=>unK op a fun v=>k v st
def aGQ(s d:bR5)(x:bR7):dT:=oR (fun ki=>fun L V st k=>cF x L V fun a=>rP a (fun n=>k (jV ki n) st) (fun n=>k (oD ki n) st)) (nP P s d)
def mfK(f:Fn)(a b:Array bR7):dT:=fun L V st k=>Fn.rec (fun f=>jH a.toList L V fun a=>jH b.toList L V fun b=>k (.fn (.func f) a b) st) (fun _=>none) (fun _ _=>none) (fun _ _ _ _=>none) (fun _=>none) f
def aU9(sz:Nat)(z:List AV)(l c:bR7):dT:=fun L V st k=>cF l L V fun l=>cF c L V fun c=>iS l fun n=>iS c fun m=>bQ (Nat.ble n m) (bQ (Nat.ble m 10000000) (bQ (Nat.beq n m) (k (.sl st.nxt 0 n (some m) sz) (st.new ⟨iP m z,true⟩)) (k (.sl st.nxt 0 n none sz) (st.new ⟨iP n z,false⟩))) none) none
def aCR(t:bR5)(l c:bR7):dT:=oR (fun e=>bR (oR (fun z=>aU9 (aY P e) z.cells l c) (iK P e)) (dN P e)) (cW P t)
def qB(x:Option bR7)(d:Nat)(L V:aT)(k:Nat->OR):OR:=Option.rec (k d) (fun o=>cF o L V fun a=>iS a k) x
def aUA(id:Id)(off sz:Nat)(cap:Option Nat)(l h:Nat)(k:KA):OR:=
 bQ (Nat.beq l h) (bQ (Nat.beq l 0) (k (.sl id off 0 cap sz)) (k .se)) (k (.sl id (Nat.add off (Nat.mul l sz)) (Nat.sub h l) (Option.rec none (fun c=>some (Nat.sub c l)) cap) sz))
def qD(id:Id)(off sz len:Nat)(cap:Option Nat)(l h:Nat)(k:KA):OR:=bQ (Nat.ble h len) (bQ (Nat.ble l h) (aUA id off sz cap l h k) none) none
def bJe(mx:Option bR7)(L V:aT)(id:Id)(off len:Nat)(cap:Option Nat)(sz l h:Nat)(k:KA):OR:=Option.rec (qD id off sz len cap l h k) (fun m=>cF m L V fun m=>iS m fun m=>bQ (Nat.ble m len) (bQ (Nat.ble h m) (qD id off sz len (some m) l h k) none) none) mx
def rH(lo hi mx:Option bR7)(L V:aT)(id:Id)(off len:Nat)(cap:Option Nat)(sz:Nat)(k:KA):OR:=qB lo 0 L V fun l=>qB hi len L V fun h=>bJe mx L V id off len cap sz l h k
def fB(x:Option bR7)(L V:aT)(k:OR):OR:=qB x 0 L V fun n=>bQ (Nat.beq n 0) k none
def aAZ(hi mx:Option bR7):Bool:=mx.isNone||hi.isSome
def nH(t:bR5):Bool:=match P.underlying t with |some .string=>true|_=>false
def aGF:AV->Option ByteArray
 | .v (.string s)=>some s
 |_=>none
def aKI(t:bR5)(x:bR7)(lo hi mx:Option bR7):dT:=bR (fun L V st k=>cF x L V fun a=>Option.rec none (fun s=>qB lo 0 L V fun l=>qB hi s.size L V fun h=>bQ (Nat.ble h s.size) (bQ (Nat.ble l h) (k (.v (.string (s.extract l h))) st) none) none) (aGF a)) (nH P t&&mx.isNone)
def uA(t:bR5)(x:bR7)(lo hi mx:Option bR7):dT:=Option.rec (aKI P t x lo hi mx) (fun e=>bR (fun L V st k=>cF x L V fun a=>iG a (fB lo L V (fB hi L V (fB mx L V (k a st)))) (fB lo L V (fB hi L V (fB mx L V (k .se st)))) fun id off len cap sz=>
 bQ (Nat.beq sz (aY P e)) (rH lo hi mx L V id off len cap sz fun v=>k v st) (bQ (Nat.beq len 0) (fB lo L V (fB hi L V (fB mx L V (k .se st)))) none)) (dG P e&&aAZ hi mx)) (cW P t)
def aEj(s:bR5)(x:bR7)(f:Nat):dT:=oR (fun fo=>bR (fun L V st k=>cF x L V fun y=>lE y fun id off=>k (.ptr id (Nat.add off fo.1)) st) (dN P fo.2)) (lI P s f)
def aH2(t:bR5)(x:bR7)(f:Nat):dT:=oR (fun fo=>bR (fun L V st k=>cF x L V fun y=>asG y fun cs=>oQ P fo.2 fo.1 cs fun v=>k v st) (dG P fo.2)) (lI P t f)
def nL(sz:Nat)(id:Id)(off len n:Nat)(st:St)(k:KS):OR:=bQ (Nat.ble (Nat.succ n) len) (k (.ptr id (Nat.add off (Nat.mul n sz))) st) none
def aEy(x ix:bR7)(sz:Nat):dT:=fun L V st k=>cF x L V fun y=>cF ix L V fun n=>iS n fun n=>iG y none none fun id off len _ _=>nL sz id off len n st k
def aHe(x ix:bR7)(len sz:Nat):dT:=fun L V st k=>cF x L V fun y=>cF ix L V fun n=>iS n fun n=>lE y fun id off=>nL sz id off len n st k
def aEq(t:bR5)(x ix:bR7):dT:=Option.rec (oR (fun a=>bR (aHe x ix a.1 (aY P a.2)) (dG P a.2)) (aEA P t)) (fun e=>bR (aEy x ix (aY P e)) (dG P e)) (cW P t)
def uM(s:ByteArray)(n:Nat):Option Nat:=match s[n]? with |some b=>some b.toNat|none=>none
def aHp(t:bR5)(x ix:bR7):dT:=bR (fun L V st k=>cF x L V fun y=>cF ix L V fun n=>iS n fun n=>match y with
  | .v (.string s)=>Option.rec none (fun b=>k (.i .u8 b) st) (uM s n)
  |_=>none) (nH P t)
def aUr(x:bR7)(i:Nat):dT:=fun L V st k=>cF x L V fun y=>asT y fun vs=>aEv i vs fun v=>k v st
def wM(t:bR5):AV->KA->OR:=Option.rec (fun y k=>match y with | .v (.string s)=>bQ (nH P t) (k (.i .i64 s.size)) none|_=>none) (fun _ y k=>iG y (k (.i .i64 0)) (k (.i .i64 0)) fun _ _ len _ _=>k (.i .i64 len)) (cW P t)
def aHj(st:St)(sz:Nat)(y:AV)(k:List AV->Nat->OR):OR:=iG y (k [] 0) (k [] 0) fun id off len _ _=>eQ st id fun b=>fT (Nat.mul len sz) off b.cells fun cs=>k cs len
def uY(st:St)(sz:Nat)(new:List AV)(n:Nat)(k:KS):OR:=k (.sl st.nxt 0 n none sz) (st.new ⟨new,false⟩)
def uR(st:St)(sz:Nat)(id:Id)(off len n:Nat)(new:List AV)(k:KS):OR:=eQ st id fun b=>fT (Nat.mul len sz) off b.cells fun old=>uY st sz (lU old new) (Nat.add len n) k
def oN(st:St)(sz:Nat)(id:Id)(off len n c:Nat)(new:List AV)(k:KS):OR:=bQ (Nat.ble (Nat.add len n) c) (eQ st id fun b=>nM new (Nat.add off (Nat.mul len sz)) b.cells fun cs=>nO st id ⟨cs,b.exact⟩ fun st=>k (.sl id off (Nat.add len n) (some c) sz) st) (uR st sz id off len n new k)
def uP(st:St)(sz:Nat)(id:Id)(off len n:Nat)(new:List AV)(k:KS):OR:=bQ (Nat.beq off 0) (eQ st id fun b=>fT (Nat.mul len sz) 0 b.cells fun old=>wrK st id (St.rec (motive:=fun _=>OR) (fun heap nxt ro hid=>k (.sl nxt 0 (Nat.add len n) none sz) ⟨Tr.put (some ⟨lU old new,false⟩) nxt (Tr.put none id heap),Id.succ nxt,ro,hid⟩) st)) none
def wH(sz:Nat)(s x:AV)(st:St)(k:KS):OR:=aHj st sz x fun new n=>bQ (Nat.beq n 0) (iG s (k s st) (k s st) fun _ _ _ _ _=>k s st) (bQ (Nat.ble n 10000000&&jG new) (iG s (uY st sz new n k) none fun id off len cap A=>
 bQ (Nat.beq A sz&&Nat.ble len 10000000) (Option.rec (uP st sz id off len n new k) (fun c=>oN st sz id off len n c new k) cap) none) none)
def pU(t:bR5):AV->AV->St->KS->OR:=Option.rec (fun _ _ _ _=>none) (fun e=>Bool.rec (fun _ _ _ _=>none) (wH (aY P e)) (dN P e)) (cW P t)
def aCn(sz:Nat)(z:List AV)(s x:AV)(st:St)(k:KS):OR:=asK .i64 x fun n=>iG s (bQ (Nat.beq n 0) (k s st) (bQ (Nat.ble n 10000000) (uY st sz (iP n z) n k) none)) none (fun _ _ _ _ _=>none)
def aEr(t:bR5):AV->AV->St->KS->OR:=Option.rec (fun _ _ _ _=>none) (fun e=>Bool.rec (fun _ _ _ _=>none) (Option.rec (fun _ _ _ _=>none) (fun z=>aCn (aY P e) z.cells) (iK P e)) (dN P e)) (cW P t)
def yT(t:bR5):Bool:=match P.underlying t with |some (.int _)=>true|_=>false
def aH4(t:bR5):AV->KA->OR:=Option.rec (fun _ _=>none) (fun _ y k=>iG y (k (.i .i64 0)) none fun _ _ _ cap _=>Option.rec none (fun c=>k (.i .i64 c)) cap) (cW P t)
def aGT(z:List AV)(s:AV)(st:St)(k:KS):OR:=iG s (k (.tup []) st) (k (.tup []) st) fun id off len _ _=>bQ (Nat.beq len 0) (k (.tup []) st) (bQ (Nat.ble len 10000000&&jG (iP len z)) (eQ st id fun b=>nM (iP len z) off b.cells fun cs=>nO st id ⟨cs,b.exact⟩ fun st=>k (.tup []) st) none)
def aHf(t:bR5):AV->St->KS->OR:=Option.rec (fun _ _ _=>none) (fun e=>Bool.rec (fun _ _ _=>none) (Option.rec (fun _ _ _=>none) (fun z=>aGT z.cells) (iK P e)) (dN P e)) (cW P t)
def aCB(y:AV)(k:Nat->OR):OR:=iG y (k 0) (k 0) fun _ _ len _ _=>k len
def aBd(sz n:Nat)(d s:AV)(st:St)(k:KS):OR:=bQ (Nat.beq n 0) (k (.i .i64 0) st) (bQ (Nat.ble n 10000000) (iG s none none fun is os _ _ _=>iG d none none fun id od _ _ _=>eQ st is fun b=>fT (Nat.mul n sz) os b.cells fun new=>bQ (jG new) (eQ st id fun B=>nM new od B.cells fun cs=>nO st id ⟨cs,B.exact⟩ fun st=>k (.i .i64 n) st) none) none)
def aEc(sz:Nat)(d s:AV)(st:St)(k:KS):OR:=aCB d fun ld=>aCB s fun ls=>aBd sz (Bool.rec ld ls (Nat.ble ls ld)) d s st k
def pZ(t:bR5):AV->AV->St->KS->OR:=Option.rec (fun _ _ _ _=>none) (fun e=>Bool.rec (fun _ _ _ _=>none) (aEc (aY P e)) (dN P e)) (cW P t)
def mmK(op:BinOp)(l:List AV)(k:KA):OR:=match l with
  | [x,y]=>rP x (fun _=>wR op .other x y fun t=>oU t fun t=>k (Bool.rec y x t)) (fun _=>wR op .other x y fun t=>oU t fun t=>k (Bool.rec y x t))
  |_=>none
def rN(l:List AV)(k:KA):OR:=List.rec none (fun a l _=>List.rec (k a) (fun _ _ _=>none) l) l
def wN(l:List AV)(k:AV->AV->OR):OR:=List.rec none (fun a l _=>List.rec none (fun b l _=>List.rec (k a b) (fun _ _ _=>none) l) l) l
def aHh:List bR5->AV->AV->St->KS->OR:=List.rec (fun _ _ _ _=>none) (fun t l _=>List.rec (fun _ _ _ _=>none) (fun u l _=>List.rec (Option.rec (Bool.rec (fun _ _ _ _=>none) (aEr P t) (yT P u)) (fun _=>pU P t) (cW P u)) (fun _ _ _ _ _ _ _=>none) l) l)
def rI(b:Builtin)(j:Array bR5):List AV->St->KS->OR:=
 match b with
  | .len=>Option.rec (fun _ _ _=>none) (fun t l st k=>rN l fun y=>wM P t y fun v=>k v st) (j[0]?)
  | .cap=>Option.rec (fun _ _ _=>none) (fun t l st k=>rN l fun y=>aH4 P t y fun v=>k v st) (j[0]?)
  | .clear=>Option.rec (fun _ _ _=>none) (fun t l st k=>rN l fun y=>aHf P t y st k) (j[0]?)
  | .copy=>Option.rec (fun _ _ _=>none) (fun t l st k=>wN l fun d s=>pZ P t d s st k) (j[0]?)
  | .append=>fun l st k=>wN l fun s x=>aHh P j.toList s x st k
  | .max=>fun l st k=>mmK .geq l fun v=>k v st
  | .min=>fun l st k=>mmK .leq l fun v=>k v st
  |_=>fun _ _ _=>none
end
end
section
variable {r:AV×St}
def aT.find:aT->Nat->Option AV
 | .nil,_=>none
 | .cons t a e,n=>if t=n then some a else e.find n
 | .del t e,n=>if t=n then none else e.find n
def aT.look:aT->aT->Nat->Option AV
 | .nil,V,n=>V.find n
 | .cons t a e,V,n=>if t=n then some a else e.look V n
 | .del t e,V,n=>if t=n then none else e.look V n
theorem aT.vget_spec{k:KA}:∀(V:aT) (n:Nat),V.vget n k=some r->∃a,V.find n=some a/\k a=some r:=by
 intro V
 induction V with
 |nil=>intro n h;cases h
 | cons t a e ih=>
  intro n h
  have h':(Bool.rec (motive:=fun _=>KA->OR) (e.vget n) (fun k=>k a) (Nat.beq t n)) k=some r:=h
  cases d:Nat.beq t n with
  |true=>rw[d]at h';exact⟨a,by simp [aT.find,bJY d],h'⟩
  |false=>
   rw[d]at h'
   obtain⟨b,h1,h2⟩:=ih n h'
   exact⟨b,by simp [aT.find,bL9 d,h1],h2⟩
 | del t e ih=>
  intro n h
  have h':(Bool.rec (motive:=fun _=>KA->OR) (e.vget n) (fun _=>none) (Nat.beq t n)) k=some r:=h
  cases d:Nat.beq t n with
  |true=>rw[d]at h';cases h'
  |false=>
   rw[d]at h'
   obtain⟨b,h1,h2⟩:=ih n h'
   exact⟨b,by simp [aT.find,bL9 d,h1],h2⟩
theorem aT.lget_spec{k:KA}{V:aT}:∀(L:aT) (n:Nat),L.lget V n k=some r->∃a,L.look V n=some a/\k a=some r:=by
 intro L
 induction L with
 |nil=>intro n h;exact aT.vget_spec V n h
 | cons t a e ih=>
  intro n h
  have h':(Bool.rec (motive:=fun _=>KA->OR) (e.lget V n) (fun k=>k a) (Nat.beq t n)) k=some r:=h
  cases d:Nat.beq t n with
  |true=>rw[d]at h';exact⟨a,by simp [aT.look,bJY d],h'⟩
  |false=>
   rw[d]at h'
   obtain⟨b,h1,h2⟩:=ih n h'
   exact⟨b,by simp [aT.look,bL9 d,h1],h2⟩
 | del t e ih=>
  intro n h
  have h':(Bool.rec (motive:=fun _=>KA->OR) (e.lget V n) (fun _=>none) (Nat.beq t n)) k=some r:=h
  cases d:Nat.beq t n with
  |true=>rw[d]at h';cases h'
  |false=>
   rw[d]at h'
   obtain⟨b,h1,h2⟩:=ih n h'
   exact⟨b,by simp [aT.look,bL9 d,h1],h2⟩
theorem aT.find_rem(t:Nat):∀(V:aT) (n:Nat) (b:AV),t≠n->(aT.rem t V).find n=some b->V.find n=some b:=by
 intro V
 induction V with
 |nil=>intro n b _ h;cases h
 | cons A a' e ih=>
  intro n b o h
  have h':(Bool.rec (motive:=fun _=>aT) (.cons A a' (aT.rem t e)) e (Nat.beq A t)).find n=some b:=h
  cases d:Nat.beq A t with
  |true=>
   rw[d]at h'
   have:=bJY d
   subst this
   have h':e.find n=some b:=h'
   simp [aT.find,o,h']
  |false=>
   rw[d]at h'
   have h2:(if A=n then some a' else(aT.rem t e).find n)=some b:=h'
   clear h' h
   split at h2
   ·rename_i C;subst C;simp only[aT.find,if_true];exact h2
   ·rename_i C;simp [aT.find,C,ih n b o h2]
 |del A e ih=>intro n b _ h;exact h
theorem aT.find_vset(t:Nat)(a:AV):∀(V:aT) (n:Nat) (b:AV),(aT.vset t a V).find n=some b->(t=n/\b=a)\/(t≠n/\V.find n=some b):=by
 intro V n b h
 have h':(if t=n then some a else(aT.rem t V).find n)=some b:=h
 split at h'
 ·rename_i e;injection h' with h';exact .inl ⟨e,h'.symm⟩
 ·rename_i o;exact .inr ⟨o,aT.find_rem t V n b o h'⟩
theorem vI{b:Bool}{y n:OR}(h:bQ b y n=some r):(b=true/\y=some r)\/(b=false/\n=some r):=by
 cases b with
 |true=>exact .inl ⟨rfl,h⟩
 |false=>exact .inr ⟨rfl,h⟩
theorem eE{b:Bool}{y:OR}(h:bQ b y none=some r):b=true/\y=some r:=by
 rcases vI h with h|⟨_,h⟩
 ·exact h
 ·cases h
theorem aBZ(l:List AV):lV l=l.length:=by
 induction l with
 |nil=>rfl
 |cons a l ih=>show Nat.succ (lV l)=_;rw[ih];rfl
theorem aBW(l m:List AV):lU l m=l++m:=by
 induction l with
 |nil=>rfl
 |cons a l ih=>show a::lU l m=_;rw[ih];rfl
theorem aFZ(n:Nat)(z:List AV):iP n z=(bJL n z).flatten:=by
 induction n with
 |zero=>rfl
 |succ n ih=>show lU z (iP n z)=_;rw[ih,aBW,bL7,bLL]
theorem aWz:∀(n:Nat) (l:List AV) (k:List AV->OR),aGS n l k=some r->n<=l.length/\k (l.take n)=some r:=by
 intro n
 induction n with
 |zero=>intro l k h;exact⟨bJJ _,h⟩
 | succ n ih=>
  intro l k h
  cases l with
  |nil=>cases h
  |cons a l=>
   obtain⟨h1,h2⟩:=ih l (fun r=>k (a::r)) h
   exact⟨by simp;omega,h2⟩
theorem aDd(n:Nat):∀(off:Nat) (l:List AV) (k:List AV->OR),fT n off l k=some r->off+n<=l.length/\k ((l.drop off).take n)=some r:=by
 intro off
 induction off with
 |zero=>intro l k h;obtain⟨h1,h2⟩:=aWz n l k h;exact⟨by omega,h2⟩
 |succ off ih=>
  intro l k h
  cases l with
  |nil=>cases h
  |cons a l=>obtain⟨h1,h2⟩:=ih l k h;exact⟨by simp;omega,h2⟩
theorem aN3:∀(n:Nat) (l:List AV) (k:KA),aEv n l k=some r->∃a,l[n]? =some a/\k a=some r:=by
 intro n
 induction n with
 |zero=>intro l k h;cases l with
  |nil=>cases h
  |cons a l=>exact⟨a,rfl,h⟩
 |succ n ih=>intro l k h;cases l with
  |nil=>cases h
  |cons a l=>obtain⟨b,h1,h2⟩:=ih l k h;exact⟨b,by simpa using h1,h2⟩
theorem aWW:∀(cs l:List AV) (k:List AV->OR),aEg cs l k=some r->cs.length<=l.length/\k (cs++l.drop cs.length)=some r:=by
 intro cs
 induction cs with
 |nil=>intro l k h;exact⟨bJJ _,h⟩
 |cons a cs ih=>intro l k h;cases l with
  |nil=>cases h
  |cons b l=>obtain⟨h1,h2⟩:=ih l (fun r=>k (a::r)) h;exact⟨by simp;omega,h2⟩
theorem aBA(cs:List AV):∀(off:Nat) (l:List AV) (k:List AV->OR),nM cs off l k=some r->off+cs.length<=l.length/\k (l.take off++cs++l.drop (off+cs.length))=some r:=by
 intro off
 induction off with
 |zero=>intro l k h;obtain⟨h1,h2⟩:=aWW cs l k h;exact⟨by omega,by simpa using h2⟩
 | succ off ih=>intro l k h;cases l with
  |nil=>cases h
  |cons b l=>
   obtain⟨h1,h2⟩:=ih l (fun r=>k (b::r)) h
   refine⟨by simp;omega, ?_⟩
   rw[show off+1+cs.length=(off+cs.length)+1 by omega]
   exact h2
theorem aFF{y:AV}{k:Bool->OR}(h:oU y k=some r):∃b,y= .b b/\k b=some r:=by
 cases y<;>first|exact⟨_,rfl,h⟩|cases h
theorem pF{y:AV}{k:Nat->OR}(h:iS y k=some r):∃ki n,y= .i ki n/\k n=some r:=by
 cases y<;>first|exact⟨_,_,rfl,h⟩|cases h
theorem aJ7{a b:bR6}(h:Nat.beq (kT a) (kT b)=true):a=b:=by
 cases a<;>cases b<;>first|rfl|(exfalso;revert h;decide)
theorem aJl{ki:bR6}{y:AV}{k:Nat->OR}(h:asK ki y k=some r):∃n,y= .i ki n/\k n=some r:=by
 cases y<;>first
  | (obtain⟨h1,h2⟩:=eE h;obtain rfl:=aJ7 h1;exact⟨_,rfl,h2⟩)
  |cases h
theorem aJk{y:AV}{k j:Nat->OR}(h:rP y k j=some r):(∃ki n,y= .i ki n/\k n=some r)\/(∃ki n,y= .m ki n/\j n=some r):=by
 cases y<;>first|exact .inl ⟨_,_,rfl,h⟩|exact .inr ⟨_,_,rfl,h⟩|cases h
theorem aZ4{ki:bR6}{y:AV}{k j:Nat->OR}(h:oK ki y k j=some r):(∃n,y= .i ki n/\k n=some r)\/(∃n,y= .m ki n/\j n=some r):=by
 cases y<;>first
  | (obtain⟨h1,h2⟩:=eE h;obtain rfl:=aJ7 h1;exact .inl ⟨_,rfl,h2⟩)
  | (obtain⟨h1,h2⟩:=eE h;obtain rfl:=aJ7 h1;exact .inr ⟨_,rfl,h2⟩)
  |cases h
theorem xW{y:AV}{k:Id->Nat->OR}(h:lE y k=some r):∃id off,y= .ptr id off/\k id off=some r:=by
 cases y<;>first|exact⟨_,_,rfl,h⟩|cases h
theorem bBj{y:AV}{k:List AV->OR}(h:asG y k=some r):∃cs,y= .agg cs/\k cs=some r:=by
 cases y<;>first|exact⟨_,rfl,h⟩|cases h
theorem bCC{y:AV}{k:List AV->OR}(h:asT y k=some r):∃cs,y= .tup cs/\k cs=some r:=by
 cases y<;>first|exact⟨_,rfl,h⟩|cases h
theorem bBY{y:AV}{k:Nat->List AV->List AV->OR}(h:asF y k=some r):∃f a b,y= .fn (.func f) a b/\k f a b=some r:=by
 cases y with
 |fn f a b=>cases f<;>first|exact⟨_,_,_,rfl,h⟩|cases h
 |_=>cases h
theorem aNq{n:OR}{x:bR4}(h:aEp n x=some r):x= .slice none 0 0/\n=some r:=by
 unfold aEp at h
 split at h
 ·exact⟨rfl,h⟩
 ·cases h
theorem tO{y:AV}{n e:OR}{k:Id->Nat->Nat->Option Nat->Nat->OR}(h:iG y n e k=some r):
  (y= .v (.slice none 0 0)/\n=some r)\/(y= .se/\e=some r)\/∃id off len cap sz,y= .sl id off len cap sz/\k id off len cap sz=some r:=by
 cases y with
 |v x=>obtain⟨h1,h2⟩:=aNq h;exact .inl ⟨by rw[h1],h2⟩
 |se=>exact .inr (.inl ⟨rfl,h⟩)
 |sl=>exact .inr (.inr ⟨_,_,_,_,_,rfl,h⟩)
 |_=>cases h
theorem CR.inv_b{Γ:aP}{x:Bool}{v:bR4}(h:CR Γ (.b x) v):v= .bool x:=by cases h;rfl
theorem CR.inv_i{Γ:aP}{k:bR6}{n:Nat}{v:bR4}(h:CR Γ (.i k n) v):v= .int k (n:Int):=by cases h;rfl
theorem CR.inv_m{Γ:aP}{k:bR6}{n:Nat}{v:bR4}(h:CR Γ (.m k n) v):v= .int k (Int.negSucc n):=by cases h;rfl
theorem CR.inv_v{Γ:aP}{x v:bR4}(h:CR Γ (.v x) v):v=x/\aGE x:=by cases h with |v h=>exact⟨rfl,h⟩
theorem CR.inv_ptr{Γ:aP}{id:Id}{off:Nat}{v:bR4}(h:CR Γ (.ptr id off) v):∃p s,Γ id=some (p,s)/\v= .pointer (some ⟨p,off,none⟩):=by cases h with |ptr h=>exact⟨_,_,h,rfl⟩
theorem CR.inv_se{Γ:aP}{v:bR4}(h:CR Γ .se v):∃a c,v= .slice (some a) 0 c:=by cases h;exact⟨_,_,rfl⟩
theorem CR.inv_sl{Γ:aP}{id:Id}{off len:Nat}{cap:Option Nat}{sz:Nat}{v:bR4}(h:CR Γ (.sl id off len cap sz) v):
  ∃p s c,Γ id=some (p,s)/\v= .slice (some ⟨p,off,none⟩) len c/\len<=c/\(∀k,cap=some k->c=k)/\off+c*sz<=s:=by
 cases h with |sl h D hc hs=>exact⟨_,_,_,h,rfl,D,hc,hs⟩
theorem CR.inv_fn{Γ:aP}{f:FuncId}{a b:List AV}{v:bR4}(h:CR Γ (.fn (.func f) a b) v):∃va vb,v= .func (.func f) (bMc va) (bMc vb)/\bW Γ a va/\bW Γ b vb:=by
 cases h with |fn w d=>exact⟨_,_,rfl,w,d⟩
theorem CR.inv_agg{Γ:aP}{cs:List AV}{v:bR4}(h:CR Γ (.agg cs) v):∃vs,v= .agg (bMc vs)/\bW Γ cs vs:=by
 cases h with |agg h=>exact⟨_,rfl,h⟩
theorem CR.inv_tup{Γ:aP}{cs:List AV}{v:bR4}(h:CR Γ (.tup cs) v):∃vs,v= .tuple (bMc vs)/\bW Γ cs vs:=by
 cases h with |tup h=>exact⟨_,rfl,h⟩
theorem CR.cells{Γ:aP}{a:AV}{v:bR4}(h:CR Γ a v):bW Γ a.cells v.cells.toList:=by
 cases h with
 |agg h=>exact h
 |v B=>
  cases v<;>first|exact .cons (.v B) .nil|exact absurd rfl (B.1 _)
 |b=>exact .cons (.b _) .nil
 |i=>exact .cons (.i _ _) .nil
 |m=>exact .cons (.m _ _) .nil
 |u=>exact .cons .u .nil
 |se a c=>exact .cons (.se a c) .nil
 |ptr h=>exact .cons (.ptr h) .nil
 |sl h h1 h2 E=>exact .cons (.sl h h1 h2 E) .nil
 |fn w d=>exact .cons (.fn w d) .nil
 |mp h=>exact .cons (.mp h) .nil
 |anyI z=>exact .cons (.anyI z) .nil
 |anyE t v=>exact .cons (.anyE t v) .nil
 |tup h=>exact .cons (.tup h) .nil
theorem CR.one{Γ:aP}{a:AV}{v:bR4}(h:CR Γ a v)(h1:a.one=true):v.oneCell'=true:=by
 cases h with
 |v B=>cases v<;>first|rfl|exact absurd rfl (B.1 _)|exact absurd rfl (B.2 _)
 |agg=>cases h1
 |tup=>cases h1
 |u=>cases h1
 |_=>rfl
theorem aD5{Γ:aP}:∀ {l:List AV} {m:List bR4},bW Γ l m->jG l=true->∀v∈m,v.oneCell'=true:=by
 intro l
 induction l with
 |nil=>intro m h _ v hv;cases h;cases hv
 | cons a l ih=>
  intro m h h1 v hv
  cases h with
  | cons h t=>
   have q:Bool.rec (motive:=fun _=>Bool) false (jG l) a.one=true:=h1
   cases w:a.one with
   |false=>rw[w]at q;cases q
   |true=>
    rw[w]at q
    rcases bJZ.1 hv with rfl|hv
    ·exact h.one w
    ·exact ih t q v hv
theorem aM1(Γ:aP){x:bR4}{a:AV}(h:aE x=some a):CR Γ a x/\a.cells=[a]:=by
 cases x with
 |bool b=>simp [aE]at h;subst h;exact⟨.b b,rfl⟩
 |int k n=>cases n with
  |ofNat n=>simp [aE]at h;subst h;exact⟨.i k n,rfl⟩
  |negSucc n=>simp [aE]at h;subst h;exact⟨.m k n,rfl⟩
 |agg cs=>simp [aE]at h
 |tuple vs=>simp [aE]at h
 |_=>simp [aE]at h;subst h;exact⟨.v ⟨(fun _ e=>by cases e),(fun _ e=>by cases e)⟩,rfl⟩
theorem aVU(Γ:aP):∀ {l:List bR4} {m:List AV},aF l=some m->bW Γ m l:=by
 intro l
 induction l with
 |nil=>intro m h;simp [aF]at h;subst h;exact .nil
 | cons x l ih=>
  intro m h
  simp only[aF]at h
  split at h
  ·rename_i a r h1 h2
   injection h with h;subst h
   exact .cons (aM1 Γ h1).1 (ih h2)
  ·cases h
theorem aHO(Γ:aP){x:bR4}{a:AV}(h:aC x=some a):CR Γ a x:=by
 cases x with
 | agg cs=>
  simp only[aC]at h
  split at h
  ·rename_i l D
   injection h with h;subst h
   have:=CR.agg (aVU Γ D)
   simpa using this
  ·cases h
 | tuple vs=>
  simp only[aC]at h
  split at h
  ·rename_i hv
   injection h with h;subst h
   have:vs= #[]:=by apply bLB;simpa using hv
   rw[this];exact .u
  ·cases h
 |_=>simp only[aC]at h;exact(aM1 Γ h).1
def fJ(Γ:aP)(L V:aT)(tmps:Array bR4):Prop:=∀t a,L.look V t=some a->t<tmps.size/\CR Γ a (tmps.getD t undef)
theorem fJ.mono{Γ Γ':aP}(H:aP.le Γ Γ'){L V:aT}{tmps:Array bR4}(h:fJ Γ L V tmps):fJ Γ' L V tmps:=fun t a G=>⟨(h t a G).1,(h t a G).2.mono H⟩
theorem fR{Γ:aP}(F:pT Γ){L V:aT}{a:Act}(hs:fJ Γ L V a.tmps){x:bR7}{k:KA}(h:cF x L V k=some r):∃y,CR Γ y (a.eval x)/\k y=some r:=by
 cases x with
 |tmp t=>
  obtain⟨y,h1,h2⟩:=aT.lget_spec L t (h:L.lget V t k=some r)
  exact⟨y,(hs t y h1).2,h2⟩
 |const v=>
  have h':zN (aC v) L V k=some r:=h
  cases hv:aC v with
  |none=>rw[hv]at h';cases h'
  |some y=>rw[hv]at h';exact⟨y,aHO Γ hv,h'⟩
 | global g=>
  have h':zN (Bool.rec none (some (.ptr (iH g) 0)) (Nat.ble (Nat.succ g) G0)) L V k=some r:=h
  cases d:Nat.ble (Nat.succ g) G0 with
  |false=>rw[d]at h';cases h'
  |true=>
   rw[d]at h'
   obtain⟨s,e⟩:=F g (bJP d)
   exact⟨.ptr (iH g) 0,.ptr e,h'⟩
 |func f=>exact⟨_,.fn .nil .nil,h⟩
theorem aFb{Γ:aP}(F:pT Γ){L V:aT}{a:Act}(hs:fJ Γ L V a.tmps):∀ {l:List bR7} {k:List AV->OR},jH l L V k=some r->∃ys,bW Γ ys (l.map a.eval)/\k ys=some r:=by
 intro l
 induction l with
 |nil=>intro k h;exact⟨[],.nil,h⟩
 |cons x l ih=>
  intro k h
  obtain⟨y,h1,h2⟩:=fR F hs (h:cF x L V (fun a=>jH l L V fun r=>k (a::r))=some r)
  obtain⟨ys,E,I⟩:=ih h2
  exact⟨y::ys,.cons h1 E,I⟩
theorem aI7(Γ:aP)(k:bR6)(n:Int):CR Γ (rD k n) (.int k n):=by
 cases n with
 |ofNat n=>exact .i k n
 |negSucc n=>exact .m k n
theorem yD(k:bR6){n:Nat}(h:n<=fU k):k.wrap (n:Int)=(n:Int):=by
 have h':∀x:Nat,fU k=x->n<=x:=fun x e=>e ▸ h
 cases k
 ·have:=h' 127 rfl;simp [IntKind.wrap,IntKind.bits,IntKind.signed];omega
 ·have:=h' 32767 rfl;simp [IntKind.wrap,IntKind.bits,IntKind.signed];omega
 ·have:=h' 2147483647 rfl;simp [IntKind.wrap,IntKind.bits,IntKind.signed];omega
 ·have:=h' 9223372036854775807 rfl;simp [IntKind.wrap,IntKind.bits,IntKind.signed];omega
 ·have:=h' 255 rfl;simp [IntKind.wrap,IntKind.bits,IntKind.signed];omega
 ·have:=h' 65535 rfl;simp [IntKind.wrap,IntKind.bits,IntKind.signed];omega
 ·have:=h' 4294967295 rfl;simp [IntKind.wrap,IntKind.bits,IntKind.signed];omega
 ·have:=h' 18446744073709551615 rfl;simp [IntKind.wrap,IntKind.bits,IntKind.signed];omega
theorem aGm(k:bR6)(n:Int)(hs:k.signed=true):k.wrap n=if (2:Int)^(k.bits-1)<=n%2^k.bits then n%2^k.bits-2^k.bits else n%2^k.bits:=by
 unfold IntKind.wrap;simp [hs]
theorem aOE(k:bR6){n:Nat}(hs:sgn k=true)(h:n<=fU k):k.wrap (Int.negSucc n)=Int.negSucc n:=by
 have h':∀x:Nat,fU k=x->n<=x:=fun x e=>e ▸ h
 have e:Int.negSucc n= -(n:Int)-1:=by omega
 rw[e]
 cases k
 ·have:=h' 127 rfl
  refine(aGm _ _ rfl).trans ((if_pos (show(2:Int)^7<=(-(n:Int)-1)%2^8 by omega)).trans ?_)
  show(-(n:Int)-1)%(2:Int)^8-2^8=_
  omega
 ·have:=h' 32767 rfl
  refine(aGm _ _ rfl).trans ((if_pos (show(2:Int)^15<=(-(n:Int)-1)%2^16 by omega)).trans ?_)
  show(-(n:Int)-1)%(2:Int)^16-2^16=_
  omega
 ·have:=h' 2147483647 rfl
  refine(aGm _ _ rfl).trans ((if_pos (show(2:Int)^31<=(-(n:Int)-1)%2^32 by omega)).trans ?_)
  show(-(n:Int)-1)%(2:Int)^32-2^32=_
  omega
 ·have:=h' 9223372036854775807 rfl
  refine(aGm _ _ rfl).trans ((if_pos (show(2:Int)^63<=(-(n:Int)-1)%2^64 by omega)).trans ?_)
  show(-(n:Int)-1)%(2:Int)^64-2^64=_
  omega
 all_goals cases hs
theorem xN(Γ:aP)(k:bR6)(n:Nat):CR Γ (jV k n) (.int k (k.wrap (n:Int))):=by
 unfold jV
 cases c:Nat.ble n (fU k)with
 |true=>rw[yD k (bJP c)];exact .i k n
 |false=>exact aI7 Γ k _
theorem aF4(Γ:aP)(k:bR6)(n:Nat):CR Γ (oD k n) (.int k (k.wrap (Int.negSucc n))):=by
 unfold oD
 cases hs:sgn k with
 |false=>exact aI7 Γ k _
 |true=>
  cases c:Nat.ble n (fU k)with
  |true=>rw[aOE k hs (bJP c)];exact .m k n
  |false=>exact aI7 Γ k _
theorem aAh(Γ:aP)(k:bR6)(a b:Nat):CR Γ (fS k a b) (.int k (k.wrap ((a:Int)-(b:Int)))):=by
 unfold fS
 cases c:Nat.ble b a with
 |true=>
  have j:=bJP c
  rw[show(a:Int)-(b:Int)=((a-b:Nat):Int) by omega]
  exact xN Γ k _
 | false=>
  have l:a<b:=by
   rcases bJS a b with h|h
   ·exact h
   ·rw[bKX h]at c;cases c
  rw[show(a:Int)-(b:Int)=Int.negSucc (bMb (Nat.sub b a)) by
   rw[bKa];show _= -((bMb (b-a):Nat)+1:Int);have:bMb (b-a)=b-a-1:=rfl;omega]
  exact aF4 Γ k _
theorem gI(b:Bool):pS b= !b:=by cases b<;>rfl
theorem aDQ(a b:Bool):uQ a b=(a==b):=by cases a<;>cases b<;>rfl
theorem aPw(k:bR6):aB5 k=k.bits:=by cases k<;>rfl
theorem aFa(a b:Nat):aCh a b=min a b:=by
 unfold aCh
 cases h:Nat.ble a b with
 |true=>rw[bK7 (bJP h)]
 |false=>
  rcases bJS a b with h'|h'
  ·rw[bKX (Nat.le_of_lt h')]at h;cases h
  ·rw[bMW h']
theorem bCn(k:bR6):fU k<2^k.bits:=by cases k<;>decide
theorem aXH(k:bR6):∃n,fU k+1=2^n/\n<=k.bits:=by
 cases k
 ·exact⟨7,by decide,by decide⟩
 ·exact⟨15,by decide,by decide⟩
 ·exact⟨31,by decide,by decide⟩
 ·exact⟨63,by decide,by decide⟩
 ·exact⟨8,by decide,by decide⟩
 ·exact⟨16,by decide,by decide⟩
 ·exact⟨32,by decide,by decide⟩
 ·exact⟨64,by decide,by decide⟩
theorem xO(k:bR6){n:Nat}(h:n<=fU k):(BitVec.ofInt k.bits (n:Int)).toNat=n:=by
 rw[BitVec.toNat_ofInt]
 have:=bCn k
 have h2:((n:Int)%((2^k.bits:Nat):Int))=(n:Int):=Int.emod_eq_of_lt (by omega) (by exact_mod_cast (by omega:n<2^k.bits))
 rw[h2];rfl
theorem aGr{f:Bool->Bool->Bool}{op:Nat->Nat->Nat}(g:∀a b i,(op a b).testBit i=f (a.testBit i) (b.testBit i))(hf:f false false=false)(k:bR6){a b:Nat}(o:a<=fU k)(c:b<=fU k):op a b<=fU k:=by
 obtain⟨n,hn,_⟩:=aXH k
 have:op a b<2^n:=by
  apply Nat.lt_pow_two_of_testBit
  intro i d
  rw[g,Nat.testBit_lt_two_pow (bJK (by omega:a<2^n) (bK2 (by omega) d)),Nat.testBit_lt_two_pow (bJK (by omega:b<2^n) (bK2 (by omega) d)),hf]
 omega
theorem aXc(w a b:Nat)(x y:BitVec w)(hx:x.toNat=a)(m:y.toNat=b):(x&&& ~~~y).toNat=Nat.xor a (bLn a b):=by
 apply Nat.eq_of_testBit_eq
 intro i
 have h1:(x&&& ~~~y).toNat.testBit i=(a.testBit i&&(decide (i<w)&& !b.testBit i)):=by
  rw[←BitVec.getLsbD,BitVec.getLsbD_and,BitVec.getLsbD_not,BitVec.getLsbD,BitVec.getLsbD,hx,m]
 have h2:(Nat.xor a (bLn a b)).testBit i=(a.testBit i^^ (a.testBit i&&b.testBit i)):=by
  show(a^^^ (a&&& b)).testBit i=_
  rw[Nat.testBit_xor,Nat.testBit_and]
 rw[h1,h2]
 by_cases d:i<w
 ·cases a.testBit i<;>cases b.testBit i<;>simp [d]
 ·have:a.testBit i=false:=by
   rw[←hx];exact Nat.testBit_lt_two_pow (bJK x.isLt (bK2 (by omega) (by omega)))
  rw[this];simp
end
section
variable {r:AV×St}{P:bR8}{Γ:aP}
theorem CR.cast{a:AV}{k:bR6}{m n:Int}(h:CR Γ a (.int k m))(e:m=n):CR Γ a (.int k n):=e ▸ h
def pV(P:bR8)(Γ:aP)(op:BinOp)(t:bR5)(vx vy:bR4)(c:KA)(r:AV×St):Prop:=∃av v,CR Γ av v/\c av=some r/\∀w,(binOp op t vx vy).run P w= .ok v w
theorem bEf{x:AV}{vx:bR4}(hx:CR Γ x vx){f g:Nat->OR}(h:rP x f g=some r):∃k n,vx= .int k n/\((∃a:Nat,x= .i k a/\n=a/\f a=some r)\/(∃a:Nat,x= .m k a/\n=Int.negSucc a/\g a=some r)):=by
 rcases aJk h with ⟨k,a,rfl,h'⟩|⟨k,a,rfl,h'⟩
 ·exact⟨k,_,hx.inv_i,.inl ⟨a,rfl,rfl,h'⟩⟩
 ·exact⟨k,_,hx.inv_m,.inr ⟨a,rfl,rfl,h'⟩⟩
theorem aPO{k:bR6}{x:AV}{vx:bR4}(hx:CR Γ x vx){f g:Nat->OR}(h:oK k x f g=some r):∃n,vx= .int k n/\((∃a:Nat,n=a/\f a=some r)\/(∃a:Nat,n=Int.negSucc a/\g a=some r)):=by
 rcases aZ4 h with ⟨a,rfl,h'⟩|⟨a,rfl,h'⟩
 ·exact⟨_,hx.inv_i,.inl ⟨a,rfl,h'⟩⟩
 ·exact⟨_,hx.inv_m,.inr ⟨a,rfl,h'⟩⟩
def aB3(k:bR6)(x:AV):Prop:=(∃n,x= .i k n)\/(∃n,x= .m k n)
theorem aDn{k:bR6}{x y:AV}{vx vy:bR4}(d:aB3 k x)(hx:CR Γ x vx)(j:CR Γ y vy){f1 f2 g1 g2:Nat->Nat->OR}(h:rP x (fun a=>oK k y (f1 a) (f2 a)) (fun a=>oK k y (g1 a) (g2 a))=some r):
  ∃m n:Int,vx= .int k m/\vy= .int k n/\((∃a b:Nat,m=a/\n=b/\f1 a b=some r)\/(∃a b:Nat,m=a/\n=Int.negSucc b/\f2 a b=some r)\/(∃a b:Nat,m=Int.negSucc a/\n=b/\g1 a b=some r)\/(∃a b:Nat,m=Int.negSucc a/\n=Int.negSucc b/\g2 a b=some r)):=by
 obtain⟨p,m,h1,h2⟩:=bEf hx h
 rcases h2 with ⟨a,C,A,F⟩|⟨a,C,A,F⟩
 ·obtain rfl:p=k:=by rcases d with ⟨n,e⟩|⟨n,e⟩<;>rw[C]at e<;>injection e
  obtain⟨n,D,s⟩:=aPO j F
  rcases s with ⟨b,s,B⟩|⟨b,s,B⟩
  ·exact⟨m,n,h1,D,.inl ⟨a,b,A,s,B⟩⟩
  ·exact⟨m,n,h1,D,.inr (.inl ⟨a,b,A,s,B⟩)⟩
 ·obtain rfl:p=k:=by rcases d with ⟨n,e⟩|⟨n,e⟩<;>rw[C]at e<;>injection e
  obtain⟨n,D,s⟩:=aPO j F
  rcases s with ⟨b,s,B⟩|⟨b,s,B⟩
  ·exact⟨m,n,h1,D,.inr (.inr (.inl ⟨a,b,A,s,B⟩))⟩
  ·exact⟨m,n,h1,D,.inr (.inr (.inr ⟨a,b,A,s,B⟩))⟩
theorem qS(k:bR6)(t:bR5)(m n:Int)(w:bR3):
  (binOp .add t (.int k m) (.int k n)).run P w= .ok (.int k (k.wrap (m+n))) w/\(binOp .sub t (.int k m) (.int k n)).run P w= .ok (.int k (k.wrap (m-n))) w/\(binOp .mul t (.int k m) (.int k n)).run P w= .ok (.int k (k.wrap (m*n))) w:=by
 simp [binOp,Op.intArith]
theorem aC0(k:bR6)(t:bR5)(m n:Int)(w:bR3):
  (binOp .eql t (.int k m) (.int k n)).run P w= .ok (.bool (m==n)) w/\(binOp .neq t (.int k m) (.int k n)).run P w= .ok (.bool (m != n)) w/\(binOp .lss t (.int k m) (.int k n)).run P w= .ok (.bool (decide (m<n))) w/\
  (binOp .leq t (.int k m) (.int k n)).run P w= .ok (.bool (decide (m<=n))) w/\(binOp .gtr t (.int k m) (.int k n)).run P w= .ok (.bool (decide (m>n))) w/\(binOp .geq t (.int k m) (.int k n)).run P w= .ok (.bool (decide (m≥n))) w:=by
 simp [binOp,Op.intCmp]
section
variable {k:bR6}{x y:AV}{vx vy:bR4}(d:aB3 k x)(hx:CR Γ x vx)(j:CR Γ y vy){c:KA}(t:bR5)
include d hx j
theorem aYe(h:aH1 k x y c=some r):pV P Γ .add t vx vy c r:=by
 obtain⟨m,n,rfl,rfl,h⟩:=aDn d hx j h
 rcases h with ⟨a,b,rfl,rfl,h⟩|⟨a,b,rfl,rfl,h⟩|⟨a,b,rfl,rfl,h⟩|⟨a,b,rfl,rfl,h⟩
 ·exact⟨_,_,(xN Γ k _),h,fun w=>(qS k t _ _ w).1⟩
 ·exact⟨_,_,(aAh Γ k _ _).cast (n:=k.wrap ((a:Int)+Int.negSucc b)) (congrArg _ (by omega)),h,fun w=>(qS k t _ _ w).1⟩
 ·exact⟨_,_,(aAh Γ k _ _).cast (n:=k.wrap (Int.negSucc a+(b:Int))) (congrArg _ (by omega)),h,fun w=>(qS k t _ _ w).1⟩
 ·exact⟨_,_,(aF4 Γ k _),h,fun w=>(qS k t _ _ w).1⟩
theorem aZ2(h:aGW k x y c=some r):pV P Γ .sub t vx vy c r:=by
 obtain⟨m,n,rfl,rfl,h⟩:=aDn d hx j h
 rcases h with ⟨a,b,rfl,rfl,h⟩|⟨a,b,rfl,rfl,h⟩|⟨a,b,rfl,rfl,h⟩|⟨a,b,rfl,rfl,h⟩
 ·exact⟨_,_,(aAh Γ k _ _),h,fun w=>(qS k t _ _ w).2.1⟩
 ·exact⟨_,_,(xN Γ k _).cast (n:=k.wrap ((a:Int)-Int.negSucc b)) (congrArg _ (by show((a+(b+1):Nat):Int)=_;omega)),h,fun w=>(qS k t _ _ w).2.1⟩
 ·exact⟨_,_,(aF4 Γ k _).cast (n:=k.wrap (Int.negSucc a-(b:Int))) (congrArg _ (by show Int.negSucc (a+b)=_;omega)),h,fun w=>(qS k t _ _ w).2.1⟩
 ·exact⟨_,_,(aAh Γ k _ _).cast (n:=k.wrap (Int.negSucc a-Int.negSucc b)) (congrArg _ (by omega)),h,fun w=>(qS k t _ _ w).2.1⟩
theorem aZS(h:aH7 k x y c=some r):pV P Γ .mul t vx vy c r:=by
 obtain⟨m,n,rfl,rfl,h⟩:=aDn d hx j h
 rcases h with ⟨a,b,rfl,rfl,h⟩|⟨a,b,rfl,rfl,h⟩|⟨a,b,rfl,rfl,h⟩|⟨a,b,rfl,rfl,h⟩
 ·exact⟨_,_,(xN Γ k _),h,fun w=>(qS k t _ _ w).2.2⟩
 ·exact⟨_,_,(aAh Γ k _ _).cast (n:=k.wrap ((a:Int)*Int.negSucc b)) (congrArg _ (by rw[bKa];show((0:Nat):Int)-((a*(b+1):Nat):Int)=_;rw[bLa,Int.mul_neg];simp)),h,fun w=>(qS k t _ _ w).2.2⟩
 ·exact⟨_,_,(aAh Γ k _ _).cast (n:=k.wrap (Int.negSucc a*(b:Int))) (congrArg _ (by rw[bKa];show((0:Nat):Int)-(((a+1)*b:Nat):Int)=_;rw[bLa,Int.neg_mul];simp)),h,fun w=>(qS k t _ _ w).2.2⟩
 ·exact⟨_,_,(xN Γ k _).cast (n:=k.wrap (Int.negSucc a*Int.negSucc b)) (congrArg _ (by rw[bKa,bKa];show(((a+1)*(b+1):Nat):Int)=_;rw[bLa,Int.neg_mul_neg];simp)),h,fun w=>(qS k t _ _ w).2.2⟩
theorem aBB{f g:Nat->Nat->Bool}{pm mp:Bool}{op:BinOp}{q:Int->Int->Bool}(hq:∀(m n:Int) w,(binOp op t (.int k m) (.int k n)).run P w= .ok (.bool (q m n)) w)
  (h1:∀a b:Nat,q a b=f a b) (h2:∀a b:Nat,q a (Int.negSucc b)=pm) (C:∀a b:Nat,q (Int.negSucc a) b=mp) (A:∀a b:Nat,q (Int.negSucc a) (Int.negSucc b)=g a b)
  (h:uV f g pm mp k x y c=some r):pV P Γ op t vx vy c r:=by
 obtain⟨m,n,rfl,rfl,h⟩:=aDn d hx j h
 rcases h with ⟨a,b,rfl,rfl,h⟩|⟨a,b,rfl,rfl,h⟩|⟨a,b,rfl,rfl,h⟩|⟨a,b,rfl,rfl,h⟩
 ·exact⟨_,_,.b _,h,fun w=>by rw[hq,h1]⟩
 ·exact⟨_,_,.b _,h,fun w=>by rw[hq,h2]⟩
 ·exact⟨_,_,.b _,h,fun w=>by rw[hq,C]⟩
 ·exact⟨_,_,.b _,h,fun w=>by rw[hq,A]⟩
theorem aFn{f:Nat->Nat->Nat}{op:BinOp}(hq:∀(a b:Nat) w,a<=fU k->b<=fU k->(binOp op t (.int k a) (.int k b)).run P w= .ok (.int k (f a b:Nat)) w)(h:nnK f k x y c=some r):pV P Γ op t vx vy c r:=by
 obtain⟨p,a,rfl,g⟩:=pF h
 clear h
 obtain⟨b,rfl,h⟩:=aJl g
 clear g
 obtain rfl:p=k:=by rcases d with ⟨n,e⟩|⟨n,e⟩<;>injection e
 obtain⟨h1,h⟩:=eE h
 obtain⟨h2,h⟩:=eE h
 rw[hx.inv_i,j.inv_i]
 exact⟨_,_,.i p _,h,fun w=>hq a b w (bJP h1) (bJP h2)⟩
theorem aPM{f:Nat->Nat->Nat}{op:BinOp}(hq:∀(a b:Nat) w,a<=fU k->b≠0->(binOp op t (.int k a) (.int k b)).run P w= .ok (.int k (f a b:Nat)) w)(h:qrK f k x y c=some r):pV P Γ op t vx vy c r:=by
 obtain⟨p,a,rfl,g⟩:=pF h
 clear h
 obtain⟨b,rfl,h⟩:=aJl g
 clear g
 obtain rfl:p=k:=by rcases d with ⟨n,e⟩|⟨n,e⟩<;>injection e
 rcases vI h with ⟨_,h⟩|⟨h0,h⟩
 ·cases h
 obtain⟨h1,h⟩:=eE h
 rw[hx.inv_i,j.inv_i]
 exact⟨_,_,.i p _,h,fun w=>hq a b w (bJP h1) (bL9 h0)⟩
theorem aYJ(h:aUu k x y c=some r):pV P Γ .shl t vx vy c r:=by
 obtain⟨p,a,rfl,g⟩:=pF h
 clear h
 obtain⟨k2,b,rfl,h⟩:=pF g
 clear g
 obtain rfl:p=k:=by rcases d with ⟨n,e⟩|⟨n,e⟩<;>injection e
 rw[hx.inv_i,j.inv_i]
 refine⟨_,_,(xN Γ p _),h,fun w=> ?_⟩
 simp only[binOp,Op.shift]
 rw[aq,if_neg (by omega),aFa,aPw]
 simp
theorem aY1(h:aUM k x y c=some r):pV P Γ .shr t vx vy c r:=by
 obtain⟨p,a,rfl,g⟩:=pF h
 clear h
 obtain⟨k2,b,rfl,h⟩:=pF g
 clear g
 obtain rfl:p=k:=by rcases d with ⟨n,e⟩|⟨n,e⟩<;>injection e
 rw[hx.inv_i,j.inv_i]
 refine⟨_,_,.i p _,h,fun w=> ?_⟩
 simp only[binOp,Op.shift]
 rw[aq,if_neg (by omega),aFa,aPw]
 have e:(a:Int).fdiv (2^min b p.bits)=((Nat.div a (Nat.pow 2 (min b p.bits)):Nat):Int):=by
  rw[show((2:Int)^min b p.bits)=((2^min b p.bits:Nat):Int) by simp,Int.fdiv_eq_ediv_of_nonneg _ (Int.natCast_nonneg _)]
  rfl
 simp [e]
end
theorem aFD(k:bR6)(t:bR5)(a b:Nat)(w:bR3)(o:a<=fU k)(l:b<=fU k):
  (binOp .and t (.int k a) (.int k b)).run P w= .ok (.int k (bLn a b:Nat)) w/\(binOp .or t (.int k a) (.int k b)).run P w= .ok (.int k (Nat.lor a b:Nat)) w/\(binOp .xor t (.int k a) (.int k b)).run P w= .ok (.int k (Nat.xor a b:Nat)) w/\
  (binOp .andNot t (.int k a) (.int k b)).run P w= .ok (.int k (Nat.xor a (bLn a b):Nat)) w:=by
 have G:(BitVec.ofInt k.bits a&&& BitVec.ofInt k.bits b).toNat=bLn a b:=by rw[BitVec.toNat_and,xO k o,xO k l];rfl
 have H:(BitVec.ofInt k.bits a|||BitVec.ofInt k.bits b).toNat=Nat.lor a b:=by rw[BitVec.toNat_or,xO k o,xO k l];rfl
 have J:(BitVec.ofInt k.bits a^^^ BitVec.ofInt k.bits b).toNat=Nat.xor a b:=by rw[BitVec.toNat_xor,xO k o,xO k l];rfl
 have K:=aXc k.bits a b _ _ (xO k o) (xO k l)
 have I:=aGr (f:=fun a b=>a&&b) (op:=bLn) (fun a b i=>Nat.testBit_and a b i) rfl k o l
 have l2:=aGr (f:=fun a b=>a||b) (op:=Nat.lor) (fun a b i=>bMv a b i) rfl k o l
 have L:=aGr (f:=fun a b=>a^^ b) (op:=Nat.xor) (fun a b i=>Nat.testBit_xor a b i) rfl k o l
 have M:=aGr (f:=fun a b=>a^^ b) (op:=Nat.xor) (fun a b i=>Nat.testBit_xor a b i) rfl k o I
 refine⟨?_, ?_, ?_, ?_⟩
 ·simp only[binOp,ne_eq,not_true_eq_false,if_false,Op.intBits];rw[G,yD k I];rfl
 ·simp only[binOp,ne_eq,not_true_eq_false,if_false,Op.intBits];rw[H,yD k l2];rfl
 ·simp only[binOp,ne_eq,not_true_eq_false,if_false,Op.intBits];rw[J,yD k L];rfl
 ·simp only[binOp,ne_eq,not_true_eq_false,if_false,Op.intBits];rw[K,yD k M];rfl
theorem aQA(k:bR6)(t:bR5)(a b:Nat)(w:bR3)(o:a<=fU k)(l:b≠0):
  (binOp .quo t (.int k a) (.int k b)).run P w= .ok (.int k (Nat.div a b:Nat)) w/\(binOp .rem t (.int k a) (.int k b)).run P w= .ok (.int k (Nat.mod a b:Nat)) w:=by
 have E:¬((b:Int)=0):=by omega
 have G:(a:Int).tdiv (b:Int)=((a/b:Nat):Int):=rfl
 have H:(a:Int).tmod (b:Int)=((a%b:Nat):Int):=rfl
 refine⟨?_, ?_⟩
 ·simp only[binOp,ne_eq,not_true_eq_false,if_false,Op.intDiv]
  rw[if_neg E,G,yD k (bJH (Nat.div_le_self _ _) o)];rfl
 ·simp only[binOp,ne_eq,not_true_eq_false,if_false,Op.intDiv]
  rw[if_neg E,H];rfl
theorem aQG(a b:Nat):((a:Int)==(b:Int))=Nat.beq a b:=by
 rw[bKh];simp;omega
theorem aBU(a b:Nat):decide ((a:Int)<=(b:Int))=Nat.ble a b:=by
 rw[bKh];simp
theorem aPl{k:bR6}{x y:AV}{vx vy:bR4}(d:aB3 k x)(hx:CR Γ x vx)(j:CR Γ y vy){c:KA}(t:bR5)(op:BinOp)(h:iOp op k x y c=some r):pV P Γ op t vx vy c r:=by
 have l:∀a b:Nat,(Int.negSucc a==Int.negSucc b)=Nat.beq a b:=fun a b=>by rw[bKh];simp
 have u:∀a b:Nat,decide (Int.negSucc a<=Int.negSucc b)=Nat.ble b a:=fun a b=>by rw[bKh];simp;omega
 have z:∀m n:Int,decide (m<n)= !decide (n<=m):=fun m n=>by rw[bKh];simp
 cases op with
 |add=>exact aYe d hx j t h
 |sub=>exact aZ2 d hx j t h
 |mul=>exact aZS d hx j t h
 |quo=>exact aPM d hx j t (fun a b w o l=>(aQA k t a b w o l).1) h
 |rem=>exact aPM d hx j t (fun a b w o l=>(aQA k t a b w o l).2) h
 |and=>exact aFn d hx j t (fun a b w o l=>(aFD k t a b w o l).1) h
 |or=>exact aFn d hx j t (fun a b w o l=>(aFD k t a b w o l).2.1) h
 |xor=>exact aFn d hx j t (fun a b w o l=>(aFD k t a b w o l).2.2.1) h
 |andNot=>exact aFn d hx j t (fun a b w o l=>(aFD k t a b w o l).2.2.2) h
 |shl=>exact aYJ d hx j t h
 |shr=>exact aY1 d hx j t h
 |eql=>exact aBB d hx j t (q:=fun m n=>m==n) (fun m n w=>(aC0 k t m n w).1) aQG (fun a b=>by simp) (fun a b=>by simp) l h
 |neq=>exact aBB d hx j t (q:=fun m n=>m != n) (fun m n w=>(aC0 k t m n w).2.1) (fun a b=>by rw[gI,←aQG];rfl) (fun a b=>by simp) (fun a b=>by simp) (fun a b=>by rw[gI,←l];rfl) h
 |lss=>exact aBB d hx j t (q:=fun m n=>decide (m<n)) (fun m n w=>(aC0 k t m n w).2.2.1) (fun a b=>by rw[gI,z,aBU]) (fun a b=>by simp;omega) (fun a b=>by simp;omega) (fun a b=>by rw[gI,z,u]) h
 |leq=>exact aBB d hx j t (q:=fun m n=>decide (m<=n)) (fun m n w=>(aC0 k t m n w).2.2.2.1) aBU (fun a b=>by simp;omega) (fun a b=>by simp;omega) u h
 |gtr=>exact aBB d hx j t (q:=fun m n=>decide (m>n)) (fun m n w=>(aC0 k t m n w).2.2.2.2.1) (fun a b=>by rw[gI];show decide ((b:Int)<a)=_;rw[z,aBU]) (fun a b=>by simp;omega) (fun a b=>by simp;omega) (fun a b=>by rw[gI];show decide (Int.negSucc b<Int.negSucc a)=_;rw[z,u]) h
 |geq=>exact aBB d hx j t (q:=fun m n=>decide (m≥n)) (fun m n w=>(aC0 k t m n w).2.2.2.2.2) (fun a b=>aBU b a) (fun a b=>by simp;omega) (fun a b=>by simp;omega) (fun a b=>u b a) h
end
section
variable {r:AV×St}{P:bR8}{Γ:aP}
def aEn:bR4->Bool
 | .nilIface=>false
 | .agg _=>false
 |_=>true
theorem aWb(op:BinOp)(t:bR5)(x y:bR7)(a b:bR4)(w:bR3)(h:aEn a=true):(eqGuard op t x y a b).run P w= .ok () w:=by
 unfold eqGuard
 cases a<;>first
  | (cases op<;>rfl)
  | (simp [aEn]at h)
theorem aIH{op:BinOp}{b:Bool}{k:KA}(h:qI op b k=some r):(op= .eql/\k (.b b)=some r)\/(op= .neq/\k (.b (!b))=some r):=by
 cases op<;>first
  |exact .inl ⟨rfl,h⟩
  |exact .inr ⟨rfl,by rw[←gI];exact h⟩
  |cases h
theorem aZr{n:OR}{x:bR4}(h:aHg n x=some r):x= .pointer none/\n=some r:=by
 unfold aHg at h
 split at h
 ·exact⟨rfl,h⟩
 ·cases h
theorem aYw{n:OR}{x:bR4}(h:aH0 n x=some r):x= .nilFunc/\n=some r:=by
 unfold aH0 at h
 split at h
 ·exact⟨rfl,h⟩
 ·cases h
theorem aNJ{x:AV}{vx:bR4}(hx:CR Γ x vx){k:Bool->OR}(h:aH3 x k=some r):∃a,vx= .pointer a/\k a.isNone=some r:=by
 cases x with
 |v x=>
  obtain⟨rfl,h'⟩:=aZr (h:aHg (k true) x=some r)
  obtain⟨rfl,_⟩:=hx.inv_v;exact⟨none,rfl,h'⟩
 |ptr i o=>obtain⟨p,s,_,rfl⟩:=hx.inv_ptr;exact⟨some _,rfl,h⟩
 |_=>cases h
theorem aO5{x:AV}{vx:bR4}(hx:CR Γ x vx){k:Bool->OR}(h:aGY x k=some r):∃a n c,vx= .slice a n c/\k a.isNone=some r:=by
 cases x with
 |v x=>
  obtain⟨rfl,h'⟩:=aNq (h:aEp (k true) x=some r)
  obtain⟨rfl,_⟩:=hx.inv_v;exact⟨none,0,0,rfl,h'⟩
 |se=>obtain⟨a,c,rfl⟩:=hx.inv_se;exact⟨some a,0,c,rfl,h⟩
 |sl=>obtain⟨p,s,c,_,rfl,_⟩:=hx.inv_sl;exact⟨some _,_,_,rfl,h⟩
 |_=>cases h
def sS:bR4->Option Bool
 | .nilFunc=>some true
 | .func .. =>some false
 |_=>none
theorem aNk{x:AV}{vx:bR4}(hx:CR Γ x vx){k:Bool->OR}(h:aHi x k=some r):∃b,sS vx=some b/\k b=some r:=by
 cases x with
 |v x=>
  obtain⟨rfl,h'⟩:=aYw (h:aH0 (k true) x=some r)
  obtain⟨rfl,_⟩:=hx.inv_v;exact⟨true,rfl,h'⟩
 |fn f a b=>cases f<;>first|(obtain⟨va,vb,rfl,_⟩:=hx.inv_fn;exact⟨false,rfl,h⟩)|cases h
 |_=>cases h
theorem aJa{op:BinOp}{a b:Bool}{k:KA}(h:Bool.rec (motive:=fun _=>OR) (Bool.rec (motive:=fun _=>OR) none (qI op false k) b) (qI op b k) a=some r):
  (a=true\/b=true)/\qI op (a&&b) k=some r:=by
 cases a with
 |true=>exact⟨.inl rfl,by simpa using h⟩
 |false=>cases b with
  |true=>exact⟨.inr rfl,h⟩
  |false=>cases h
theorem aFi{op:BinOp}{t:bR5}{vx vy:bR4}{b:Bool}(F:op= .eql\/op= .neq)(h1:∀w:bR3,(binOp .eql t vx vy).run P w=((Op.equal t vx vy).run P w).andThen fun b w=> .ok (.bool b) w)(h2:∀w:bR3,(binOp .neq t vx vy).run P w=((Op.equal t vx vy).run P w).andThen fun b w=> .ok (.bool (!b)) w)
  (B:∀w:bR3,(Op.equal t vx vy).run P w= .ok b w) {k:KA} (h:qI op b k=some r):pV P Γ op t vx vy k r:=by
 rcases aIH h with ⟨rfl,g⟩|⟨rfl,g⟩
 ·exact⟨_,.bool b,.b b,g,fun w=>by rw[h1,B];rfl⟩
 ·exact⟨_,.bool (!b),.b _,g,fun w=>by rw[h2,B];rfl⟩
theorem aGv{op:BinOp}{b:Bool}{k:KA}(h:qI op b k=some r):op= .eql\/op= .neq:=by
 rcases aIH h with ⟨h,_⟩|⟨h,_⟩
 ·exact .inl h
 ·exact .inr h
theorem fC{t:bR5}{d:TypeDesc}(h:P.underlying t=some d)(w:bR3):(underlying t).run P w= .ok d w:=run_underlying h w
theorem bEA{t:bR5}(h:fA P t= .ptr):∃e,P.underlying t=some (.pointer e):=by unfold fA at h;split at h<;>first|exact⟨_,by assumption⟩|cases h
theorem bE5{t:bR5}(h:fA P t= .sli):∃e,P.underlying t=some (.slice e):=by unfold fA at h;split at h<;>first|exact⟨_,by assumption⟩|cases h
theorem bDq{t:bR5}(h:fA P t= .fun_):∃a b c,P.underlying t=some (.func a b c):=by unfold fA at h;split at h<;>first|exact⟨_,_,_,by assumption⟩|cases h
theorem bFs{t:bR5}(h:fA P t= .boo):P.underlying t=some .bool:=by unfold fA at h;split at h<;>first|assumption|cases h
theorem aWs(d:Nat){t e:bR5}(l:P.underlying t=some (.pointer e))(a b:Option bRb)(h:a.isNone=true\/b.isNone=true)(w:bR3):(Op.equalIn (d+1) t (.pointer a) (.pointer b)).run P w= .ok (a.isNone&&b.isNone) w:=by
 simp only[Op.equalIn,au,fC l,ba]
 cases a<;>cases b<;>simp_all
theorem aWc(d:Nat){t e:bR5}(l:P.underlying t=some (.slice e))(a b:Option bRb)(n c n' c':Nat)(h:a.isNone=true\/b.isNone=true)(w:bR3):(Op.equalIn (d+1) t (.slice a n c) (.slice b n' c')).run P w= .ok (a.isNone&&b.isNone) w:=by
 simp only[Op.equalIn,au,fC l,ba]
 cases a<;>cases b<;>simp_all
theorem aWl(d:Nat){t:bR5}{C D:Array bR5}{E:Bool}(l:P.underlying t=some (.func C D E)){x y:bR4}{a b:Bool}(hx:sS x=some a)(j:sS y=some b)(h:a=true\/b=true)(w:bR3):(Op.equalIn (d+1) t x y).run P w= .ok (a&&b) w:=by
 simp only[Op.equalIn,au,fC l,ba]
 cases x<;>first|(simp [sS]at hx;done)|(cases y<;>first|(simp [sS]at j;done)|(simp [sS]at hx j;subst hx j;simp_all))
theorem aW3(d:Nat){t:bR5}(l:P.underlying t=some .bool)(a b:Bool)(w:bR3):(Op.equalIn (d+1) t (.bool a) (.bool b)).run P w= .ok (a==b) w:=by
 simp only[Op.equalIn,au,fC l,ba]
 rfl
theorem aDa{op:BinOp}{t:bR5}{x y:AV}{vx vy:bR4}(hx:CR Γ x vx)(j:CR Γ y vy){k:KA}(h:aCx op (fA P t) x y k=some r):pV P Γ op t vx vy k r/\aEn vx=true:=by
 cases q:fA P t with
 |boo=>rw[q]at h;cases h
 |other=>rw[q]at h;cases h
 |ptr=>
  rw[q]at h
  obtain⟨e,l⟩:=bEA q
  obtain⟨a,rfl,h⟩:=aNJ hx (h:aH3 x (fun a=>aH3 y fun b=>_)=some r)
  obtain⟨b,rfl,h⟩:=aNJ j h
  obtain⟨u,h⟩:=aJa h
  exact⟨aFi (aGv h) (fun w=>by simp [binOp]) (fun w=>by simp [binOp]) (fun w=>aWs 9999 l a b u w) h,rfl⟩
 |sli=>
  rw[q]at h
  obtain⟨e,l⟩:=bE5 q
  obtain⟨a,n,c,rfl,h⟩:=aO5 hx (h:aGY x (fun a=>aGY y fun b=>_)=some r)
  obtain⟨b,n',c',rfl,h⟩:=aO5 j h
  obtain⟨u,h⟩:=aJa h
  exact⟨aFi (aGv h) (fun w=>by simp [binOp]) (fun w=>by simp [binOp]) (fun w=>aWc 9999 l a b n c n' c' u w) h,rfl⟩
 |fun_=>
  rw[q]at h
  obtain⟨C,D,E,l⟩:=bDq q
  obtain⟨a,z,h⟩:=aNk hx (h:aHi x (fun a=>aHi y fun b=>_)=some r)
  obtain⟨b,A,h⟩:=aNk j h
  obtain⟨u,h⟩:=aJa h
  have hf:aEn vx=true:=by cases vx<;>first|rfl|(simp [sS]at z)
  refine⟨aFi (aGv h) (fun w=> ?_) (fun w=> ?_) (fun w=> ?_) h,hf⟩
  ·cases vx<;>first|(simp [sS]at z;done)|(cases vy<;>first|(simp [sS]at A;done)|(simp [binOp];done))
  ·cases vx<;>first|(simp [sS]at z;done)|(cases vy<;>first|(simp [sS]at A;done)|(simp [binOp];done))
  ·exact aWl 9999 l z A u w
theorem aWQ{op:BinOp}{t:bR5}{a b:ByteArray}{k:KA}(h:aKM op a b k=some r):pV P Γ op t (.string a) (.string b) k r:=by
 unfold aKM at h
 split at h
 ·exact⟨_,_,.b _,h,fun w=>by simp [binOp,Op.stringOp]⟩
 ·exact⟨_,_,.b _,h,fun w=>by simp [binOp,Op.stringOp]⟩
 ·split at h
  ·rename_i G
   refine⟨_,.string (a++b),.v ⟨(fun _ e=>by cases e),(fun _ e=>by cases e)⟩,h,fun w=> ?_⟩
   have:¬(((a.size+b.size:Nat):Int)>IntKind.i64.max):=by
    have e:IntKind.i64.max=9223372036854775807:=by decide
    rw[e];omega
   simp only[binOp,Op.stringOp]
   rw[aq,if_neg this];rfl
  ·cases h
 ·cases h
theorem aXX{op:BinOp}{t:bR5}{x y:AV}{vx vy:bR4}(hx:CR Γ x vx)(j:CR Γ y vy){k:KA}(h:wR op (fA P t) x y k=some r):pV P Γ op t vx vy k r/\aEn vx=true:=by
 cases x with
 | b a=>
  have h:aTT op (fA P t) a y k=some r:=h
  cases q:fA P t with
  |boo=>
   rw[q]at h
   have l:=bFs q
   obtain⟨b,rfl,h'⟩:=aFF (h:oU y (fun b=>qI op (uQ a b) k)=some r)
   rw[hx.inv_b,j.inv_b]
   rw[aDQ]at h'
   exact⟨aFi (aGv h') (fun w=>by simp [binOp]) (fun w=>by simp [binOp]) (fun w=>aW3 9999 l a b w) h',rfl⟩
  |_=>rw[q]at h;cases h
 |i ki a=>exact⟨aPl (.inl ⟨a,rfl⟩) hx j t op h,by rw[hx.inv_i];rfl⟩
 |m ki a=>exact⟨aPl (.inr ⟨a,rfl⟩) hx j t op h,by rw[hx.inv_m];rfl⟩
 | v x=>
  have h:vK op (fA P t) x y k=some r:=h
  unfold vK at h
  split at h
  ·obtain⟨rfl,_⟩:=hx.inv_v
   obtain⟨rfl,_⟩:=j.inv_v
   exact⟨aWQ h,rfl⟩
  ·exact aDa hx j h
 |se=>exact aDa hx j h
 |ptr i o=>exact aDa hx j h
 |sl a b c d e=>exact aDa hx j h
 |fn a b c=>exact aDa hx j h
 |_=>cases h
theorem bBz{op:UnOp}{x:AV}{vx:bR4}(hx:CR Γ x vx){k:KA}(h:unK op x k=some r):∃av v,CR Γ av v/\k av=some r/\∀w,(Op.unary op vx).run P w= .ok v w:=by
 cases op with
 |neg=>
  cases x with
  |i ki n=>rw[hx.inv_i];exact⟨_,_,(aAh Γ ki 0 n),h,fun w=>by simp [Op.unary,Op.intArith]⟩
  |m ki n=>rw[hx.inv_m];exact⟨_,_,(xN Γ ki (n+1)).cast (n:=ki.wrap (0-Int.negSucc n)) (congrArg _ (by omega)),h,fun w=>by simp [Op.unary,Op.intArith]⟩
  |_=>cases h
 |not=>
  obtain⟨b,rfl,h'⟩:=aFF (h:oU x (fun b=>k (.b (pS b)))=some r)
  rw[hx.inv_b]
  exact⟨_,.bool (!b),by rw[←gI];exact .b _,h',fun w=>rfl⟩
 |_=>cases h
theorem aJc{st:St}{id:Id}{b:Option cK}(F:Id):Tr.find F (Tr.put b id st.heap)=if F=id then b else Tr.find F st.heap:=by
 split
 ·rename_i h;rw[h];exact Tr.put_same _ _ _
 ·rename_i h;exact Tr.put_other _ _ _ _ (fun e=>h e.symm)
structure aDR(w w':bR3)(p:Nat)(cs:Array bR4)(el:bR5):Prop where
 here:w'.heap[p]? =some (.cells cs el (0,0))
 far:∀q,q≠p->w'.heap[q]? =w.heap[q]?
 size:w'.heap.size=w.heap.size
 os:w'.os=w.os
 tape:w'.tape=w.tape
 output:w'.output=w.output
structure bCN(w w':bR3)(p:Nat)(ob:Obj):Prop where
 here:w'.heap[p]? =some ob
 far:∀q,q≠p->w'.heap[q]? =w.heap[q]?
 size:w'.heap.size=w.heap.size
 os:w'.os=w.os
 tape:w'.tape=w.tape
 output:w'.output=w.output
theorem dH.putO{st:St}{w w':bR3}(h:dQ st Γ w){id:Id}{b b':cK}(m:st.look id b)(i:st.ro<=id.nat){p s:Nat}(n:Γ id=some (p,s)){ob:Obj}(g:bCN w w' p ob)(L:BR Γ b' s (some ob)):
  dH st Γ w ⟨Tr.put (some b') id st.heap,st.nxt,st.ro,st.hid⟩ Γ w':=by
 have a:∀ {x:Id} {c:cK},St.look ⟨Tr.put (some b') id st.heap,st.nxt,st.ro,st.hid⟩ x c->(x=id/\c=b')\/(x≠id/\st.look x c):=fun {x c} hx=>by
  obtain⟨h1,h2⟩:=hx
  have f:Tr.find x (Tr.put (some b') id st.heap)=some c:=h2
  rw[aJc]at f
  split at f
  ·rename_i e;injection f with f;exact .inl ⟨e,f.symm⟩
  ·rename_i e;exact .inr ⟨e,h1,f⟩
 have G:id.nat<st.nxt.nat:=by
  rcases bJS id.nat st.nxt.nat with h1|h1
  ·exact h1
  ·have:=h.top id h1;rw[m.2]at this;cases this
 refine⟨⟨?_, ?_,h.fresh,fun x hx=>(Tr.put_other _ _ _ _ (fun e=>by rw[←e]at hx;have t:st.nxt.nat<=id.nat:=hx;omega)).trans (h.top x hx),h.glob,h.flo⟩,aP.le_refl _,rfl,fun _ _=>rfl,g.os,g.tape,g.output,by rw[g.size];exact bJE _,rfl,rfl,bJE _, ?_, ?_, ?_⟩
 ·intro x c hx
  rcases a hx with ⟨rfl,rfl⟩|⟨o,hx⟩
  ·obtain⟨A,s',j,u,_⟩:=h.blk x b m
   obtain⟨rfl,rfl⟩:A=p/\s'=s:=by rw[n]at j;injection j with j;injection j with C B;exact⟨C.symm,B.symm⟩
   exact⟨A,s',n,by rw[g.size];exact u,by rw[g.here];exact L.thw⟩
  ·obtain⟨A,s',j,u,L⟩:=h.blk x c hx
   refine⟨A,s',j,by rw[g.size];exact u, ?_⟩
   rw[g.far A (fun e=>o (h.inj x id c b A s' s hx m (.inr (bJH h.flo i)) j (by rw[e];exact n)))]
   exact L
 ·intro x y c d q s1 Q hx E H l k
  have:∀ {x:Id} {c:cK},St.look ⟨Tr.put (some b') id st.heap,st.nxt,st.ro,st.hid⟩ x c->∃c',st.look x c':=fun {x c} hx=>by
   rcases a hx with ⟨rfl,_⟩|⟨_,hx⟩
   ·exact⟨b,m⟩
   ·exact⟨c,hx⟩
  obtain⟨c',R⟩:=this hx
  obtain⟨Y,S⟩:=this E
  exact h.inj x y c' Y q s1 Q R S H l k
 ·intro q _ hn
  exact g.far q (fun e=>hn id b s m i (by rw[e];exact n))
 ·intro q x c s' _ hx hr hq
  rcases a hx with ⟨rfl,_⟩|⟨_,hx⟩
  ·exact⟨x,b,s',m,hr,hq⟩
  ·exact⟨x,c,s',hx,hr,hq⟩
 ·intro x hx hr
  have o:x≠id:=fun e=>by
   subst e
   rcases hr with hr|hr
   ·omega
   ·exact hr m.1
  exact Tr.put_other _ _ _ _ (fun e=>o e.symm)
theorem dH.put{st:St}{w w':bR3}(h:dQ st Γ w){id:Id}{b b':cK}(m:st.look id b)(i:st.ro<=id.nat){p s:Nat}(n:Γ id=some (p,s)){cs:Array bR4}{el:bR5}(g:aDR w w' p cs el)
  (hs:cs.size=s) (v:b'.cells.length<=s) (hc:bW Γ b'.cells (cs.toList.take b'.cells.length)) (T:b'.exact=true->s=b'.cells.length):
  dH st Γ w ⟨Tr.put (some b') id st.heap,st.nxt,st.ro,st.hid⟩ Γ w':=
 dH.putO h m i n ⟨g.here,g.far,g.size,g.os,g.tape,g.output⟩ (.of rfl hs v hc T)
theorem dH.move{st:St}{w w':bR3}(h:dQ st Γ w){id:Id}{b b':cK}(m:st.look id b)(i:st.ro<=id.nat){p s:Nat}(n:Γ id=some (p,s)){cs:Array bR4}{el:bR5}(g:aDR w w' p cs el)
  (hs:cs.size=s) (v:b'.cells.length<=s) (hc:bW Γ b'.cells (cs.toList.take b'.cells.length)) (T:b'.exact=true->s=b'.cells.length):
  dH st Γ w ⟨Tr.put (some b') st.nxt (Tr.put none id st.heap),Id.succ st.nxt,st.ro,st.hid⟩ (Γ.add st.nxt p s) w':=by
 have hn:Γ st.nxt=none:=h.fresh _ (bJE _)
 have z:aP.le Γ (Γ.add st.nxt p s):=aP.add_le hn _ _
 have hid:id≠st.nxt:=fun e=>by rw[e,hn]at n;cases n
 have U:(Id.succ st.nxt).nat=st.nxt.nat+1:=Id.nat_succ _
 have a:∀ {x:Id} {c:cK},St.look ⟨Tr.put (some b') st.nxt (Tr.put none id st.heap),Id.succ st.nxt,st.ro,st.hid⟩ x c->(x=st.nxt/\c=b')\/(x≠st.nxt/\x≠id/\st.look x c):=fun {x c} hx=>by
  obtain⟨h1,h2⟩:=hx
  have f:Tr.find x (Tr.put (some b') st.nxt (Tr.put none id st.heap))=some c:=h2
  by_cases e:x=st.nxt
  ·subst e;rw[Tr.put_same]at f;injection f with f;exact .inl ⟨rfl,f.symm⟩
  ·rw[Tr.put_other _ _ _ _ (fun V=>e V.symm)]at f
   by_cases B:x=id
   ·subst B;rw[Tr.put_same]at f;cases f
   ·rw[Tr.put_other _ _ _ _ (fun V=>B V.symm)]at f
    exact .inr ⟨e,B,h1,f⟩
 obtain⟨X,I,D,u,_⟩:=h.blk id b m
 obtain⟨rfl,rfl⟩:X=p/\I=s:=by rw[n]at D;injection D with D;injection D with C B;exact⟨C.symm,B.symm⟩
 refine⟨⟨?_, ?_, ?_, ?_,h.glob.mono z,h.flo⟩,z,rfl,fun id Z=>aP.add_ne _ (fun e=>by rw[e]at Z;omega) _ _,g.os,g.tape,g.output,by rw[g.size];exact bJE _,rfl,rfl,by show st.nxt.nat<=(Id.succ st.nxt).nat;omega, ?_, ?_, ?_⟩
 ·intro x c hx
  rcases a hx with ⟨rfl,rfl⟩|⟨o,M,hx⟩
  ·exact⟨X,I,aP.add_self _ _ _ _,by rw[g.size];exact u,.thw (.of g.here hs v (hc.mono z) T)⟩
  ·obtain⟨A,s',j,N,L⟩:=h.blk x c hx
   refine⟨A,s',z _ _ j,by rw[g.size];exact N, ?_⟩
   rw[g.far A (fun e=>M (h.inj x id c b A s' I hx m (.inr (bJH h.flo i)) j (by rw[e];exact n)))]
   exact L.mono z
 ·intro x y c d q s1 Q hx E H l k
  rcases a hx with ⟨rfl,_⟩|⟨J,W,hx⟩
  ·rcases a E with ⟨rfl,_⟩|⟨K,O,E⟩
   ·rfl
   ·rw[aP.add_self]at l;injection l with l;injection l with C B
    rw[aP.add_ne _ K]at k
    exact absurd (h.inj y id d b q Q I E m (.inr (bJH h.flo i)) k (by rw[←C];exact n)) O
  ·rw[aP.add_ne _ J]at l
   rcases a E with ⟨rfl,_⟩|⟨K,O,E⟩
   ·rw[aP.add_self]at k;injection k with k;injection k with C B
    exact absurd (h.inj x id c b q s1 I hx m (.inr (bJH h.flo i)) l (by rw[←C];exact n)) W
   ·rw[aP.add_ne _ K]at k
    exact h.inj x y c d q s1 Q hx E H l k
 ·intro x hx
  have t:(Id.succ st.nxt).nat<=x.nat:=hx
  have:x≠st.nxt:=fun e=>by rw[e]at t;omega
  rw[aP.add_ne _ this];exact h.fresh x (by omega)
 ·intro x hx
  have t:(Id.succ st.nxt).nat<=x.nat:=hx
  have G:id.nat<st.nxt.nat:=by
   rcases bJS id.nat st.nxt.nat with h1|h1
   ·exact h1
   ·have:=h.top id h1;rw[m.2]at this;cases this
  show Tr.find x (Tr.put (some b') st.nxt (Tr.put none id st.heap))=none
  rw[Tr.put_other _ _ _ _ (fun e=>by rw[←e]at t;omega),Tr.put_other _ _ _ _ (fun e=>by rw[←e]at t;omega)]
  exact h.top x (by omega)
 ·intro q _ hq
  exact g.far q (fun e=>hq id b I m i (by rw[e];exact n))
 ·intro q x c s' _ hx hr hq
  rcases a hx with ⟨rfl,_⟩|⟨J,_,hx⟩
  ·rw[aP.add_self]at hq;injection hq with hq;injection hq with C B
   exact⟨id,b,I,m,i,by rw[←C];exact n⟩
  ·rw[aP.add_ne _ J]at hq;exact⟨x,c,s',hx,hr,hq⟩
 ·intro x hx hr
  have o:x≠id:=fun e=>by
   subst e
   rcases hr with hr|hr
   ·omega
   ·exact hr m.1
  show Tr.find x (Tr.put (some b') st.nxt (Tr.put none id st.heap))=_
  rw[Tr.put_other _ _ _ _ (fun e=>by rw[←e]at hx;omega),Tr.put_other _ _ _ _ (fun e=>o e.symm)]
def sG(P:bR8)(o:bRa)(a:Act)(st:St)(Γ:aP)(w:bR3)(av:AV)(st':St):Prop:=
 ∀(Q:Exit->Act->bR3->Prop) (K:Act->bR3->Prop),(∀v w' Γ',dH st Γ w st' Γ' w'->CR Γ' av v->K (a.put o.dst v) w')->o.wp P a w K Q
def iL(P:bR8)(s:dT)(op:Op):Prop:=
 ∀ {L V:aT} {st:St} {k:KS} {r:AV×St} {Γ:aP} {a:Act} {w:bR3} {o:bRa},o.op=op->s L V st k=some r->dQ st Γ w->fJ Γ L V a.tmps->∃av st',k av st'=some r/\sG P o a st Γ w av st'
theorem sG.value{o:bRa}{a:Act}{st:St}{w:bR3}{av:AV}{st':St}{v:bR4}{w':bR3}{Γ':aP}(E:(execOp a.eval o).run P w= .ok (.value v) w')(H:dH st Γ w st' Γ' w')(hc:CR Γ' av v):sG P o a st Γ w av st':=
 fun Q K hK=>by unfold Oper.wp;rw[E];exact hK v w' Γ' H hc
theorem sG.skip{o:bRa}{a:Act}{st:St}{w:bR3}{st':St}{w':bR3}{Γ':aP}(E:(execOp a.eval o).run P w= .ok .skip w')(H:dH st Γ w st' Γ' w'):sG P o a st Γ w .u st':=
 fun Q K hK=>by unfold Oper.wp;rw[E];exact hK undef w' Γ' H .u
theorem sG.pure{o:bRa}{a:Act}{st:St}{w:bR3}{av:AV}{v:bR4}(hs:dQ st Γ w)(E:(execOp a.eval o).run P w= .ok (.value v) w)(hc:CR Γ av v):sG P o a st Γ w av st:= .value E (.refl hs) hc
theorem tQ{α:Type}{f:α->dT}{x:Option α}{L V:aT}{st:St}{k:KS}(h:oR f x L V st k=some r):∃y,x=some y/\f y L V st k=some r:=by
 cases x with
 |none=>cases h
 |some y=>exact⟨y,rfl,h⟩
theorem qU{f:dT}{b:Bool}{L V:aT}{st:St}{k:KS}(h:bR f b L V st k=some r):b=true/\f L V st k=some r:=by
 cases b with
 |false=>cases h
 |true=>exact⟨rfl,h⟩
theorem bBr(x:bR7):iL P (aGP x) (.move x):=fun {L V st k r Γ a w o} B h hs A=>by
 obtain⟨y,I,h⟩:=fR hs.glob A h
 exact⟨y,st,h,.pure hs (by simp only[execOp,B];rfl) I⟩
theorem aWE(x:bR7):iL P (aGP x) (.assign x):=fun {L V st k r Γ a w o} B h hs A=>by
 obtain⟨y,I,h⟩:=fR hs.glob A h
 exact⟨y,st,h,.pure hs (by simp only[execOp,B];rfl) I⟩
theorem bCK(c x y:bR7):iL P (aUg c x y) (.pick c x y):=fun {L V st k r Γ a w o} B h hs A=>by
 obtain⟨vc,hc,h⟩:=fR hs.glob A h
 obtain⟨t,rfl,h'⟩:=aFF h
 obtain⟨vx,hx,h'⟩:=fR hs.glob A h'
 obtain⟨vy,I,h'⟩:=fR hs.glob A h'
 refine⟨_,st,h',.pure hs (v:=if t then a.eval x else a.eval y) ?_ ?_⟩
 ·simp only[execOp,B,hc.inv_b];cases t<;>rfl
 ·cases t<;>simpa
theorem bCg(op:UnOp)(t:bR5)(x:bR7):iL P (aU0 op x) (.unOp op t x):=fun {L V st k r Γ a w o} B h hs A=>by
 obtain⟨vx,hx,h⟩:=fR hs.glob A h
 obtain⟨av,v,hc,h,E⟩:=bBz (P:=P) hx h
 exact⟨av,st,h,.pure hs (v:=v) (by simp only[execOp,B,au,E w,ba];rfl) hc⟩
theorem aWJ(op:BinOp)(t:bR5)(x y:bR7)(u:bR5):iL P (aQR P op t x y) (.binOp op t x y u):=fun {L V st k r Γ a w o} B h hs A=>by
 obtain⟨vx,hx,h⟩:=fR hs.glob A h
 obtain⟨vy,I,h⟩:=fR hs.glob A h
 obtain⟨⟨av,v,hc,h,E⟩,hf⟩:=aXX (P:=P) hx I h
 exact⟨av,st,h,.pure hs (v:=v) (by simp only[execOp,B,au,aWb _ _ _ _ _ _ _ hf,E w,ba];rfl) hc⟩
theorem aNO{a:AV}{b:Bool}{v:bR4}(h:aCF a=some b)(hc:CR Γ a v):(b=true/\v= .nilIface)\/(b=false/\∃t u,v= .iface t u):=by
 unfold aCF at h
 split at h
 ·injection h with h;exact .inl ⟨h.symm,hc.inv_v.1⟩
 ·injection h with h;cases hc with |anyE t v=>exact .inr ⟨h.symm,t,v,rfl⟩
 ·cases h
theorem aWq(d:Nat){t:bR5}{ms:Array (String×bR5)}(W:P.underlying t=some (.interface ms)){x:bR4}{b:Bool}(h:(b=true/\x= .nilIface)\/(b=false/\∃t u,x= .iface t u))(w:bR3):(Op.equalIn (d+1) t x .nilIface).run P w= .ok b w:=by
 simp only[Op.equalIn,au,fC W,ba]
 rcases h with ⟨rfl,rfl⟩|⟨rfl,t',u',rfl⟩<;>rfl
theorem bFx{op:BinOp}{t:bR5}{x y:bR7}{u:bR5}(hc:(nF y&&aB7 P t)=true):iL P (aUv op x) (.binOp op t x y u):=fun {L V st k r Γ a w o} B h hs A=>by
 rw[bJI]at hc
 obtain⟨h1,h2⟩:=hc
 have I:y= .const .nilIface:=by
  unfold nF at h1
  split at h1
  ·rfl
  ·cases h1
 subst I
 obtain⟨ms,W⟩:∃ms,P.underlying t=some (.interface ms):=by
  unfold aB7 at h2
  split at h2
  ·exact⟨_,by assumption⟩
  ·cases h2
 obtain⟨av,hx,h⟩:=fR hs.glob A h
 cases Y:aCF av with
 |none=>rw[Y]at h;cases h
 | some b=>
  rw[Y]at h
  have h:qI op b (fun v=>k v st)=some r:=h
  have H:∀w:bR3,(eqGuard op t x (.const .nilIface) (a.eval x) .nilIface).run P w= .ok () w:=fun w=>by
   unfold eqGuard
   cases op<;>cases a.eval x<;>first|rfl|simp
  have Z:∀w:bR3,(Op.equal t (a.eval x) .nilIface).run P w= .ok b w:=fun w=>by
   exact aWq 9999 W (aNO Y hx) w
  have e0:a.eval (.const .nilIface)= .nilIface:=rfl
  have J:∀(op:BinOp),op= .eql\/op= .neq->∀w:bR3,(binOp op t (a.eval x) .nilIface).run P w= .ok (.bool (if op= .eql then b else !b)) w:=by
   intro op a' w
   rcases aNO Y hx with ⟨rfl,e⟩|⟨rfl,t',u',e⟩<;>rcases a' with rfl|rfl<;>(have Z:=Z w;rw[e]at Z ⊢;simp [binOp,Z])
  rcases aIH h with ⟨rfl,g⟩|⟨rfl,g⟩
  ·exact⟨_,st,g,.pure hs (v:= .bool b) (by simp only[execOp,B,au,e0,H,ba,J .eql (.inl rfl)];rfl) (.b _)⟩
  ·exact⟨_,st,g,.pure hs (v:= .bool !b) (by simp only[execOp,B,au,e0,H,ba,J .neq (.inr rfl)];rfl) (.b _)⟩
theorem aYS(op:BinOp)(t:bR5)(x y:bR7)(u:bR5):iL P (aAL P op t x y) (.binOp op t x y u):=by
 unfold aAL
 cases hc:(nF y&&aB7 P t)with
 |true=>exact bFx hc
 |false=>exact aWJ op t x y u
theorem bCv(s d:bR5)(x:bR7):iL P (aGQ P s d x) (.convert s d x):=fun {L V st k r Γ a w o} B h hs A=>by
 obtain⟨ki,C,h⟩:=tQ h
 obtain⟨vx,hx,h⟩:=fR hs.glob A h
 unfold nP at C
 split at C
 ·rename_i us k0 h1 h2
  injection C with C;subst C
  have E:∀n:Int,a.eval x= .int (match a.eval x with | .int k _=>k|_=> .i8) n->(convert s d (a.eval x)).run P w= .ok (.int k0 (k0.wrap n)) w:=fun n e=>by
   rw[e]
   unfold convert
   simp only[au,fC h1,fC h2,ba]
   cases us<;>rfl
  rcases aJk h with ⟨k',n,rfl,h'⟩|⟨k',n,rfl,h'⟩
  ·exact⟨_,st,h',.pure hs (by simp only[execOp,B,au,E n (by rw[hx.inv_i]),ba];rfl) (xN Γ k0 n)⟩
  ·exact⟨_,st,h',.pure hs (by simp only[execOp,B,au,E (Int.negSucc n) (by rw[hx.inv_m]),ba];rfl) (aF4 Γ k0 n)⟩
 ·cases C
theorem bEr(x:bR7):iL P (aUR x) (.nilCheck x):=fun {L V st k r Γ a w o} B h hs A=>by
 obtain⟨vx,hx,h⟩:=fR hs.glob A h
 cases vx with
 |ptr id off=>
  obtain⟨p,s,hp,e⟩:=hx.inv_ptr
  exact⟨_,st,(h:k (.ptr id off) st=some r),.pure hs (by simp only[execOp,B,e];rfl) (by rw[←e];exact hx)⟩
 | fn f l m=>
  cases f with
  |func f=>
   obtain⟨va,vb,e,_⟩:=hx.inv_fn
   exact⟨_,st,(h:k (.fn (.func f) l m) st=some r),.pure hs (by simp only[execOp,B,e];rfl) (by rw[←e];exact hx)⟩
  |_=>cases h
 |_=>cases h
theorem bCP(x:bR7)(i:Nat):iL P (aUr x i) (.extract x i):=fun {L V st k r Γ a w o} B h hs A=>by
 obtain⟨vx,hx,h⟩:=fR hs.glob A h
 obtain⟨cs,rfl,h'⟩:=bCC h
 obtain⟨av,hn,h'⟩:=aN3 _ _ _ h'
 obtain⟨vs,e,A⟩:=hx.inv_tup
 obtain⟨v,S,hc⟩:=A.get hn
 exact⟨av,st,h',.pure hs (v:=v) (by simp only[execOp,B,e,Instr.extract,bMd,S];rfl) hc⟩
theorem bGi(f:Fn)(x y:Array bR7):iL P (mfK f x y) (.makeFunc f x y):=fun {L V st k r Γ a w o} B h hs A=>by
 cases f with
 |func f=> ?_
 |_=>cases h
 obtain⟨l,h1,h⟩:=aFb hs.glob A (h:jH x.toList L V (fun a=>jH y.toList L V fun b=>k (.fn (.func f) a b) st)=some r)
 obtain⟨m,h2,h⟩:=aFb hs.glob A h
 refine⟨_,st,h,.pure hs (v:= .func (.func f) (x.map a.eval) (y.map a.eval)) (by simp only[execOp,B];rfl) ?_⟩
 have e:∀z:Array bR7,(z.toList.map a.eval).toArray=z.map a.eval:=fun z=>by apply bLB;simp
 have:=CR.fn (f:=f) h1 h2
 rw[e,e]at this
 exact this
theorem aI0{t:bR5}(h:dG P t=true):∃i d,P.info? t=some i/\P.underlying t=some d:=by
 unfold dG at h
 rw[bJI]at h
 obtain⟨i,F⟩:=bMw.1 h.1
 obtain⟨d,X⟩:=bMw.1 h.2
 exact⟨i,d,F,X⟩
theorem aFe{t:bR5}(h:dG P t=true)(w:bR3):(isAgg t).run P w= .ok (jZ P t) w:=by
 obtain⟨i,d,F,X⟩:=aI0 h
 unfold isAgg jZ
 simp only[au,fC X,ba,X]
 cases d<;>rfl
theorem run_sizeOf{t:bR5}(h:dG P t=true)(w:bR3):(sizeOf t).run P w= .ok (aY P t) w:=by
 obtain⟨i,d,F,X⟩:=aI0 h
 simp [sizeOf,typeInfo,F,aY,Program.cellsOf]
theorem aII{t:bR5}{off:Nat}{cells:List AV}{k:KA}(h:oQ P t off cells k=some r):
  ∃av,k av=some r/\((jZ P t=true/\off+aY P t<=cells.length/\av= .agg ((cells.drop off).take (aY P t)))\/(jZ P t=false/\cells[off]? =some av)):=by
 unfold oQ at h
 cases T:jZ P t with
 |true=>rw[T]at h;obtain⟨h1,h2⟩:=aDd _ _ _ _ h;exact⟨_,h2,.inl ⟨rfl,h1,rfl⟩⟩
 |false=>rw[T]at h;obtain⟨av,h1,h2⟩:=aN3 _ _ _ h;exact⟨av,h2,.inr ⟨rfl,h1⟩⟩
theorem yI{w:bR3}{p:Nat}{cs:Array bR4}{el:bR5}{fr:Nat×Nat}(h:w.heap[p]? =some (.cells cs el fr))(i:Nat):w.cell? ⟨p,i,none⟩=cs[i]? :=by
 simp [World.cell?,h]
theorem pL(p off j:Nat):(⟨p,off,none⟩:bRb).add j=⟨p,off+j,none⟩:=by
 unfold Addr.add;split<;>simp_all
theorem aLH{t:bR5}(C:dG P t=true){w:bR3}{p off:Nat}{cs:Array bR4}{el:bR5×Nat×Nat}{cells:List AV}(U:w.heap[p]? =some (.cells cs el.1 el.2))(D:cells.length<=cs.size)
  (hc:bW Γ cells (cs.toList.take cells.length)) {av:AV} (h2:(jZ P t=true/\off+aY P t<=cells.length/\av= .agg ((cells.drop off).take (aY P t)))\/(jZ P t=false/\cells[off]? =some av)):∃v,CR Γ av v/\(loadVar t ⟨p,off,none⟩).run P w= .ok v w:=by
 unfold loadVar
 rcases h2 with ⟨T,e',rfl⟩|⟨T,hn⟩
 ·refine⟨_,.agg ((hc.drop off).take (aY P t)), ?_⟩
  have N:(((cs.toList.take cells.length).drop off).take (aY P t)).length=aY P t:=by simp;omega
  have M:=run_loadCells_list (P:=P) w ⟨p,off,none⟩ (((cs.toList.take cells.length).drop off).take (aY P t)) (fun j v O=>by
   rw[pL,yI U]
   rw[bKY]at O
   split at O
   ·rw[bLf,bKY]at O
    split at O
    ·simpa using O
    ·cases O
   ·cases O)
  rw[N]at M
  simp only[au,aFe C,ba,T,if_true,run_sizeOf C,M]
  rfl
 ·obtain⟨v,S,R⟩:=hc.get hn
  refine⟨v,R, ?_⟩
  have:w.cell? ⟨p,off,none⟩=some v:=by
   rw[yI U]
   rw[bKY]at S
   split at S
   ·simpa using S
   ·cases S
  simp only[au,aFe C,ba,T,bJQ,if_false,run_load,this]
theorem aWu{t:bR5}(C:dG P t=true){w:bR3}{p off:Nat}{cs:Array bR4}{el:bR5×Nat×Nat}{cells:List AV}(U:w.heap[p]? =some (.cells cs el.1 el.2))(D:cells.length<=cs.size)
  (hc:bW Γ cells (cs.toList.take cells.length)) {k:KA} (h:oQ P t off cells k=some r):∃av v,CR Γ av v/\k av=some r/\(loadVar t ⟨p,off,none⟩).run P w= .ok v w:=by
 obtain⟨av,h1,h2⟩:=aII h
 obtain⟨v,h3,h4⟩:=aLH (P:=P) C U D hc h2
 exact⟨av,v,h3,h1,h4⟩
theorem bCq(t:bR5)(x:bR7):iL P (yW P t x) (.load t x):=fun {L V st k r Γ a w o} B h hs A=>by
 obtain⟨C,h⟩:=qU h
 obtain⟨vx,hx,h⟩:=fR hs.glob A h
 obtain⟨id,off,rfl,h'⟩:=xW h
 obtain⟨b,b',h'⟩:=rW h'
 obtain⟨p,s,hp,e⟩:=hx.inv_ptr
 obtain⟨p',s',G,f',cs,el,U,hsz,D,hc,_⟩:=hs.blkc id b b'
 obtain⟨rfl,rfl⟩:p'=p/\s'=s:=by rw[hp]at G;injection G with G;injection G with e1 e2;exact⟨e1.symm,e2.symm⟩
 obtain⟨av,v,R,h',E⟩:=aWu (P:=P) C U (by omega) hc h'
 exact⟨av,st,h',.pure hs (v:=v) (by simp only[execOp,B,e,Instr.loadAt,Instr.sureAddr,au,az,ba,E]) R⟩
theorem aMR{o:bRa}{a:Act}{st:St}{w:bR3}(hs:dQ st Γ w){cs:List AV}{v:bR4}(el:bR5)(hc:bW Γ cs v.cells.toList)(E:(execOp a.eval o).run P w= .ok (.value (.pointer (some ⟨w.heap.size,0,none⟩))) { w with heap:=w.heap.push (.cells v.cells el) }):
  sG P o a st Γ w (.ptr st.nxt 0) (st.new ⟨cs,true⟩):=by
 have D:cs.length=v.cells.size:=by rw[hc.length];simp
 refine .value E (dH.new hs (b:=⟨cs,true⟩) (cs:=v.cells) el ?_ (by show cs.length<=_;omega) (fun _=>D.symm)) (.ptr (aP.add_self _ _ _ _))
 show bW Γ cs (v.cells.toList.take cs.length)
 rw[D,←bLC,bKp];exact hc
theorem bEy(t:bR5)(x:bR7):iL P (aUD x) (.box t x):=fun {L V st k r Γ a w o} B h hs A=>by
 obtain⟨vx,hx,h⟩:=fR hs.glob A h
 exact⟨_,_,h,aMR hs t hx.cells (by simp only[execOp,B];rfl)⟩
theorem aHZ{e:bR5}{z:AV}(h:iK P e=some z):∃i zv,P.info? e=some i/\i.zero=some zv/\∀Γ,CR Γ z zv:=by
 unfold iK at h
 split at h
 ·rename_i i F
  split at h
  ·rename_i zv hz;exact⟨i,zv,F,hz,fun Γ=>aHO Γ h⟩
  ·cases h
 ·cases h
theorem aYp(e:bR5):iL P (aGw P e) (.alloc e):=fun {L V st k r Γ a w o} B h hs A=>by
 obtain⟨z,hz,h⟩:=tQ h
 obtain⟨i,zv,F,c',hc⟩:=aHZ hz
 refine⟨_,_,h,aMR hs e (hc Γ).cells ?_⟩
 simp only[execOp,B,Instr.alloc,au,zeroValue,typeInfo,run_program,ba,F,c',az]
 rfl
theorem bDe(s:bR5)(x:bR7)(f:Nat):iL P (aEj P s x f) (.fieldAddr s x f):=fun {L V st k r Γ a w o} B h hs A=>by
 obtain⟨fo,hf,h⟩:=tQ h
 obtain⟨C,h⟩:=qU h
 obtain⟨vx,hx,h⟩:=fR hs.glob A h
 obtain⟨id,off,rfl,h'⟩:=xW h
 obtain⟨p,q,hp,e⟩:=hx.inv_ptr
 unfold lI at hf
 split at hf
 ·rename_i fs W
  split at hf
  ·rename_i g H
   injection hf with hf;subst hf
   refine⟨_,st,h',.pure hs (v:= .pointer (some ⟨p,off+g.offset,none⟩)) ?_ (.ptr hp)⟩
   have hsz:∃n,(sizeOf g.type).run P w= .ok n w/\n≠0:=by
    unfold dN at C
    split at C
    ·rename_i i z F _
     simp only[bJI]at C
     refine⟨i.size,by simp [sizeOf,typeInfo,F], ?_⟩
     have:=bJP C.1.1.2
     omega
    ·cases C
   obtain⟨n,hn,d'⟩:=hsz
   simp only[execOp,B,e,Instr.fieldAt,Instr.sureAddr,au,fC W,ba,H,az,fieldPlace,hn,aq,if_neg d',pL]
  ·cases hf
 ·cases hf
theorem bBM{α:Type}(m vs:List α)(off n:Nat)(h:off+vs.length<=n)(hn:n<=m.length):(m.take off++vs++m.drop (off+vs.length)).take n=(m.take n).take off++vs++(m.take n).drop (off+vs.length):=by
 rw[bKC,bK7 (by omega),bMx,bMx,List.drop_take]
 have C:(m.take off).length=off:=by simp;omega
 rw[C,bJU (by omega),bJU (l:=vs) (by omega),bJW,C]
theorem bW.put{l new:List AV}{m vs:List bR4}{off:Nat}(h:bW Γ l (m.take l.length))(j:l.length<=m.length)(G:bW Γ new vs)(I:off+new.length<=l.length):
  (l.take off++new++l.drop (off+new.length)).length=l.length/\bW Γ (l.take off++new++l.drop (off+new.length)) ((m.take off++vs++m.drop (off+vs.length)).take l.length):=by
 have e:new.length=vs.length:=G.length
 refine⟨by simp;omega, ?_⟩
 rw[bBM m vs off _ (by omega) j,e]
 exact((h.take off).app G).app (h.drop _)
theorem aHM{w:bR3}{p:Nat}{cs cs':Array bR4}{el:bR5}(h:w.heap[p]? =some (.cells cs el (0,0))):aDR w (w.setRow p cs') p cs' el:=
 ⟨setRow_heap w p cs cs' el (0,0) h,fun q hq=>setRow_other w p q cs' hq,by simp [World.setRow],rfl,rfl,rfl⟩
theorem aDi{st:St}{id:Id}{b:cK}{k:St->OR}(h:nO st id b k=some r):st.ro<=id.nat/\k ⟨Tr.put (some b) id st.heap,st.nxt,st.ro,st.hid⟩=some r:=aOK h
theorem aDf{st:St}{w:bR3}(hs:dQ st Γ w){id:Id}{b:cK}(u:st.lookc id b)(J:st.ro<=id.nat){p s:Nat}(N:Γ id=some (p,s)){new:List AV}{vs:List bR4}(G:bW Γ new vs)(h1:jG new=true){off:Nat}(I:off+new.length<=b.cells.length):
  ∃w',(storeCells ⟨p,off,none⟩ vs).run P w= .ok () w'/\(∃cs el,aDR w w' p cs el)/\dH st Γ w ⟨Tr.put (some ⟨b.cells.take off++new++b.cells.drop (off+new.length),b.exact⟩) id st.heap,st.nxt,st.ro,st.hid⟩ Γ w':=by
 obtain⟨p',s',A,d',cs,el,Q,hsz,c',hc,he⟩:=hs.blkw id b u J
 obtain⟨rfl,rfl⟩:p'=p/\s'=s:=by rw[N]at A;injection A with A;injection A with C K;exact⟨C.symm,K.symm⟩
 have e':new.length=vs.length:=G.length
 have D:=run_storeCells_at P p' off el vs 0 cs w Q (by omega) (aD5 G h1)
 simp only[Nat.add_zero]at D
 obtain⟨g1,g2⟩:=bW.put hc (by simp;omega) G I
 refine⟨_,D,⟨_,_,aHM Q⟩,dH.put hs u.lk J N (b':=⟨_,b.exact⟩) (aHM Q) ?_ ?_ ?_ ?_⟩
 ·simp;omega
 ·show(b.cells.take off++new++b.cells.drop (off+new.length)).length<=_;omega
 ·show bW Γ _ (bLM (b.cells.take off++new++b.cells.drop (off+new.length)).length _);rw[g1];exact g2
 ·intro hx;show _=(b.cells.take off++new++b.cells.drop (off+new.length)).length;rw[g1];exact he hx
theorem aYn(t:bR5)(x y:bR7):iL P (aCc P t x y) (.store t x y):=fun {L V st k r Γ a w o} R h hs j=>by
 obtain⟨hk,h⟩:=qU h
 obtain⟨vx,hx,h⟩:=fR hs.glob j h
 obtain⟨vy,H,h⟩:=fR hs.glob j h
 obtain⟨id,off,rfl,h'⟩:=xW h
 obtain⟨b,u,h'⟩:=rW h'
 obtain⟨g1,h'⟩:=eE h'
 obtain⟨g2,h'⟩:=eE h'
 obtain⟨g3,h'⟩:=aBA _ _ _ _ h'
 obtain⟨g4,h'⟩:=aDi h'
 obtain⟨p,s,N,e⟩:=hx.inv_ptr
 obtain⟨w',hr,_,M⟩:=aDf (P:=P) hs u g4 N H.cells g2 g3
 refine⟨_,_,h',.skip (w':=w') ?_ M⟩
 have hsz:(a.eval y).cells.size=aY P t:=by
  have:=bJY g1
  rw[aBZ,H.cells.length]at this;simpa using this
 simp only[execOp,R,e,Instr.storeAt,Instr.sureAddr,au,az,ba,storeVar,run_sizeOf hk,aq,hsz,ne_eq,not_true_eq_false,if_false,hr]
theorem aWA:∀(l:List bR4) (k off:Nat) (cells:Array bR4),off+k+l.length<=cells.size->
  ((l.zipIdx k).foldl (fun cs (q:bR4×Nat)=>cs.setIfInBounds (off+q.2) q.1) cells).toList=cells.toList.take (off+k)++l++cells.toList.drop (off+k+l.length):=by
 intro l
 induction l with
 |nil=>intro k off cells _;simp
 |cons v l ih=>
  intro k off cells h
  simp only[List.zipIdx_cons,bLN]
  rw[ih (k+1) off _ (by simp at h ⊢;omega)]
  have e:=list_seg_step cells.toList (off+k) v l (by simp at h ⊢;omega)
  simpa [Array.toList_setIfInBounds,Nat.add_assoc]using e
theorem aMz(M:pT Γ){L V:aT}{a:Act}(j:fJ Γ L V a.tmps){pl pl':Nat->Option (Nat×Nat)}(F:∀i q,pl' i=some q->pl i=some q):∀(ps:List (Nat×bR7)) (cs:List AV) (vs:Array bR4) (k:List AV->OR),bW Γ cs vs.toList->aCs pl' ps L V cs k=some r->
  ∃cs' vs',k cs'=some r/\bW Γ cs' vs'.toList/\Instr.fill pl vs (ps.map fun p=>(p.1,a.eval p.2))=some vs'/\vs'.size=vs.size:=by
 intro ps
 induction ps with
 |nil=>intro cs vs k hc h;exact⟨cs,vs,h,hc,rfl,rfl⟩
 | cons p ps ih=>
  intro cs vs k hc h
  have h:(Option.rec (motive:=fun _=>OR) none (fun q=>cF p.2 L V fun a=>bQ (Nat.beq (lV a.cells) q.2) (nM a.cells q.1 cs fun cs=>aCs pl' ps L V cs k) none) (pl' p.1))=some r:=h
  cases hq:pl' p.1 with
  |none=>rw[hq]at h;cases h
  | some q=>
   rw[hq]at h
   obtain⟨y,H,h⟩:=fR M j (h:cF p.2 L V _=some r)
   obtain⟨g1,h⟩:=eE h
   obtain⟨g2,h⟩:=aBA _ _ _ _ h
   have S:y.cells.length=(a.eval p.2).cells.size:=by rw[H.cells.length];simp
   have T:y.cells.length=q.2:=by rw[←aBZ];exact bJY g1
   have f':cs.length=vs.size:=by rw[hc.length];simp
   have hf:=aWA (a.eval p.2).cells.toList 0 q.1 vs (by simp;omega)
   obtain⟨cs',vs',C,K,U,e4⟩:=ih _ ((a.eval p.2).cells.zipIdx.foldl (fun cs (E:bR4×Nat)=>cs.setIfInBounds (q.1+E.2) E.1) vs) k (by
    have W:((a.eval p.2).cells.zipIdx.foldl (fun cs (E:bR4×Nat)=>cs.setIfInBounds (q.1+E.2) E.1) vs).toList=vs.toList.take q.1++(a.eval p.2).cells.toList++vs.toList.drop (q.1+(a.eval p.2).cells.toList.length):=by
     rw[←Array.foldl_toList,Array.toList_zipIdx];simpa using hf
    rw[W,←H.cells.length]
    exact((hc.take _).app H.cells).app (hc.drop _)) h
   refine⟨cs',vs',C,K, ?_, ?_⟩
   ·simp only[bKc,Instr.fill,F _ _ hq]
    rw[if_neg]
    ·exact U
    ·simp only[ne_eq,bLg,ap,not_or]
     exact⟨by rw[←S,T];simp,by omega⟩
   ·rw[e4]
    have X:∀(l:List (bR4×Nat)) (c:Array bR4),(l.foldl (fun cs (E:bR4×Nat)=>cs.setIfInBounds (q.1+E.2) E.1) c).size=c.size:=by
     intro l
     induction l with
     |nil=>intro c;rfl
     |cons x l ih=>intro c;simp only[bLN];rw[ih];simp
    rw[←Array.foldl_toList];exact X _ _
theorem aYA(t:bR5)(ps:Array (Nat×bR7)):iL P (aGd P t ps) (.build t ps):=fun {L V st k r Γ a w o} R h hs j=>by
 obtain⟨O,h⟩:=qU h
 obtain⟨z,X,h⟩:=tQ h
 obtain⟨i,zv,hi,Y,hc⟩:=aHZ X
 unfold aAi at O
 split at O
 ·rename_i fs hu
  have Z:∀f∈fs.toList,dG P f.type=true:=fun f hf=>by
   have:=Array.all_eq_true'.1 O f (by simpa using hf);exact this
  have hm:∀l:List Field,(∀f∈l,dG P f.type=true)->l.mapM (fun f=>(P.info? f.type).map fun i=>(f.offset,i.size))=some (l.map fun f=>(f.offset,aY P f.type)):=by
   intro l
   induction l with
   |nil=>intro _;rfl
   |cons f l ih=>
    intro j
    obtain⟨i',d,a',_⟩:=aI0 (j f (by simp))
    simp only[bMY,a',bKe,Option.bind_eq_bind,Option.bind_some,ih (fun g M=>j g (by simp [M])),Option.pure_def,bKc,aY,Program.cellsOf,bLt]
  have F:∀x q,qW P t x=some q->((fs.toList.map fun f=>(f.offset,aY P f.type)).toArray)[x]? =some q:=fun x q hq=>by
   unfold qW lI at hq
   rw[hu]at hq
   simp only at hq
   cases hx:fs[x]? with
   |none=>rw[hx]at hq;cases hq
   | some g=>
    rw[hx]at hq
    simp only at hq
    split at hq
    ·injection hq with hq
     simp only[bMd,bLP,Array.getElem?_toList,hx,bKe,hq]
    ·cases hq
  obtain⟨cs',vs',C,K,U,e4⟩:=aMz hs.glob j (pl:=fun x=>((fs.toList.map fun f=>(f.offset,aY P f.type)).toArray)[x]?) F _ _ _ _ (hc Γ).cells h
  refine⟨_,st,C,.pure hs (v:= .agg vs') ?_ ?_⟩
  ·have B:P.built t (ps.map fun(i,x)=>(i,a.eval x)).toList=some vs':=by
    unfold Program.built
    simp only[hi,hu,Y,hm _ Z]
    rw[←U];congr 1;simp
   simp only[execOp,R,au,run_build w t _ vs' B,ba,az]
  ·have:=CR.agg K;simpa using this
 ·cases O
theorem bBm{α:Type}{l:List α}{s:Nat}(A:l.length=s)(_:0<s):∀(n j:Nat),j<n*s->(bJL n l).flatten[j]? =l[j%s]? :=by
 intro n
 induction n with
 |zero=>intro j h;omega
 | succ n ih=>
  intro j h
  rw[bL7,bLL,List.getElem?_append,A]
  split
  ·rename_i S;rw[Nat.mod_eq_of_lt S]
  ·rename_i S
   rw[ih (j-s) (by rw[Nat.succ_mul]at h;omega)]
   rw[show j%s=(j-s)%s by rw[←Nat.mod_eq_sub_mod (by omega)]]
theorem aOm{α:Type}(l:List α)(n:Nat):(bJL n l).flatten.length=n*l.length:=by simp
def lB(z:Array bR4)(n:Nat):Array bR4:=(bMZ n).map (z[· % z.size]!)
theorem aDl{cs:List AV}{z:Array bR4}(h:bW Γ cs z.toList)(hs:0<z.size)(n:Nat):bW Γ (iP n cs) (lB z (n*z.size)).toList:=by
 have A:cs.length=z.size:=by rw[h.length];simp
 rw[aFZ]
 refine bW.of_get (by rw[aOm,A];simp [lB]) fun j a v ha R=> ?_
 have S:j<n*z.size:=by
  have:=(bKv.1 ha).1
  rw[aOm,A]at this;exact this
 rw[bBm A hs n j S]at ha
 obtain⟨v',b',hc⟩:=h.get ha
 have J:j%z.size<z.size:=Nat.mod_lt _ hs
 have e:v=v':=by
  simp only[lB,Array.toList_map,Array.toList_range,bLP,List.getElem?_range S,bKe]at R
  injection R with R
  rw[←R]
  have:z[j%z.size]? =some v':=by simpa using b'
  simp [Array.getElem!_eq_getD,bM4,this]
 rw[e];exact hc
theorem rU{t e:bR5}(h:cW P t=some e):P.underlying t=some (.slice e):=by
 unfold cW at h
 split at h
 ·rename_i D;injection h with h;rw[←h];exact D
 ·cases h
structure wI(P:bR8)(e:bR5)(z:AV)(i:TypeInfo)(zv:bR4):Prop where
 info:P.info? e=some i
 zero:i.zero=some zv
 rel:∀Γ,CR Γ z zv
 size:zv.cells.size=i.size
 pos:1<=i.size
 small:i.size<=1000
 bytes:i.bytes<=65536
theorem aBx{e:bR5}(h:dN P e=true){z:AV}(H:iK P e=some z):∃i zv,wI P e z i zv:=by
 obtain⟨i,zv,hi,c',hc⟩:=aHZ H
 unfold dN at h
 rw[hi,H]at h
 simp only[bJI]at h
 refine⟨i,zv,hi,c',hc, ?_,bJP h.1.1.2,bJP h.1.2,bJP h.2⟩
 have:=bJY h.1.1.1
 rw[aBZ,(hc ⟨fun _=>none,0⟩).cells.length]at this
 simpa using this
theorem wI.szOf{e:bR5}{z:AV}{i:TypeInfo}{zv:bR4}(h:wI P e z i zv):aY P e=i.size:=by
 simp [Ev.aY,Program.cellsOf,h.info]
theorem aVL{t e:bR5}{z:AV}{i:TypeInfo}{zv:bR4}(D:P.underlying t=some (.slice e))(hc:wI P e z i zv){len:Nat}(B:len<=1000){parts:Array (Nat×bR4)}{cells:Array bR4}
  (hf:Instr.fill (fun j=>some (j*i.size,i.size)) (lB zv.cells (len*zv.cells.size)) parts.toList=some cells) (w:bR3):
  (Instr.buildSlice t len parts).run P w= .ok (.slice (some ⟨w.heap.size,0,none⟩) len len) { w with heap:=w.heap.push (.cells cells e) }:=by
 have h1:¬(len*i.size>2^24):=by
  have:=bLh B hc.small;omega
 rw[hc.size]at hf
 by_cases h0:len*i.size=0
 ·have H:lB zv.cells (len*i.size)=(bMZ (len*i.size)).map ((#[]:Array bR4)[· % (#[]:Array bR4).size]!):=by rw[h0];simp [lB]
  rw[H]at hf
  simp only[Instr.buildSlice,au,fC D,ba,sizeOf,typeInfo,run_program,hc.info,az,aq,h0,if_true]at hf ⊢
  rw[hf]
  rfl
 ·simp only[Instr.buildSlice,au,fC D,ba,sizeOf,typeInfo,run_program,hc.info,az,aq,if_neg h1,if_neg h0,zeroValue,hc.zero]
  have d':Instr.fill (fun j=>some (j*i.size,i.size)) ((bMZ (len*i.size)).map (zv.cells[· % zv.cells.size]!)) parts.toList=some cells:=hf
  rw[d']
  rfl
theorem aNT{o:bRa}{a:Act}{st:St}{w:bR3}(hs:dQ st Γ w){cs:List AV}{vs:Array bR4}{el:bR5}{n m sz:Nat}(hc:bW Γ cs vs.toList)(C:n<=m)(J:m*sz<=vs.size)
  (hr:(execOp a.eval o).run P w= .ok (.value (.slice (some ⟨w.heap.size,0,none⟩) n m)) { w with heap:=w.heap.push (.cells vs el) }):
  sG P o a st Γ w (.sl st.nxt 0 n (some m) sz) (st.new ⟨cs,true⟩):=by
 have B:cs.length=vs.size:=by rw[hc.length];simp
 refine .value hr (dH.new hs (b:=⟨cs,true⟩) (cs:=vs) el ?_ (by show cs.length<=_;omega) (fun _=>B.symm)) (.sl (aP.add_self _ _ _ _) C (fun k e=>by injection e) (by omega))
 show bW Γ cs (vs.toList.take cs.length)
 rw[B,←bLC,bKp];exact hc
theorem aZ5{o:bRa}{a:Act}{st:St}{w:bR3}(hs:dQ st Γ w){cs:List AV}{vs:Array bR4}{el:bR5}{n m sz:Nat}(hc:bW Γ cs (vs.toList.take cs.length))(C:n<=m)(A:cs.length<=vs.size)(J:m*sz<=vs.size)(_:n*sz<=cs.length)
  (hr:(execOp a.eval o).run P w= .ok (.value (.slice (some ⟨w.heap.size,0,none⟩) n m)) { w with heap:=w.heap.push (.cells vs el) }):
  sG P o a st Γ w (.sl st.nxt 0 n none sz) (st.new ⟨cs,false⟩):=by
 refine .value hr (dH.new hs (b:=⟨cs,false⟩) (cs:=vs) el hc A (fun h=>by cases h)) (.sl (aP.add_self _ _ _ _) C (fun k e=>by cases e) (by omega))
theorem bDf(t:bR5)(len:Nat)(ps:Array (Nat×bR7)):iL P (aGV P t len ps) (.buildSlice t len ps):=fun {L V st k r Γ a w o} G h hs A=>by
 obtain⟨e,K,h⟩:=tQ h
 obtain⟨E,h⟩:=qU h
 obtain⟨z,H,h⟩:=tQ h
 rw[bJI]at E
 obtain⟨i,zv,u⟩:=aBx E.1 H
 have B:=bJP E.2
 have F:0<zv.cells.size:=by have:=u.pos;have:=u.size;omega
 obtain⟨cs',vs',e1,T,e3,e4⟩:=aMz hs.glob A (pl:=fun j=>some (j*i.size,i.size)) (fun j q hq=>by injection hq with hq;subst hq;rw[u.szOf];rfl) _ _ _ _ (aDl (u.rel Γ).cells F len) h
 have f':Instr.fill (fun j=>some (j*i.size,i.size)) (lB zv.cells (len*zv.cells.size)) (ps.map fun(i,x)=>(i,a.eval x)).toList=some vs':=by rw[←e3];congr 1;simp
 refine⟨_,_,e1,aNT hs T (bJE _) ?_ (by simp only[execOp,G,au,aVL (rU K) u B f' w,ba];rfl)⟩
 rw[e4,u.szOf,←u.size];simp [lB]
theorem wrap_small(n:Nat)(h:n<=10000000):IntKind.i64.wrap (n:Int)=n:=yD .i64 (bJH h (by show 10000000<=9223372036854775807;omega))
theorem run_makeSlice{t e:bR5}{z:AV}{i:TypeInfo}{zv:bR4}(D:P.underlying t=some (.slice e))(hc:wI P e z i zv){n m:Nat}(C:n<=m)(J:m<=10000000)(k1 k2:bR6)(w:bR3):
  (Instr.makeSlice t (.int k1 n) (.int k2 m)).run P w= .ok (.slice (some ⟨w.heap.size,0,none⟩) n m) { w with heap:=w.heap.push (.cells (lB zv.cells (m*zv.cells.size)) e) }:=by
 have h1:¬((i.bytes:Int)*(m:Int)>2^48):=by
  have:=bLh hc.bytes J
  have h2:((i.bytes*m:Nat):Int)<=((65536*10000000:Nat):Int):=by exact_mod_cast this
  rw[bLa]at h2;omega
 have U:=wrap_small n (by omega)
 have W:=wrap_small m J
 have X:¬((n:Int)<0):=by omega
 have Y:¬((m:Int)<0):=by omega
 have Z:¬((n:Int)>(m:Int)):=by omega
 rw[hc.size]
 by_cases h0:m*i.size=0
 ·have H:lB zv.cells (m*i.size)=(bMZ (m*i.size)).map ((#[]:Array bR4)[· % (#[]:Array bR4).size]!):=by rw[h0];simp [lB]
  rw[H]
  simp only[Instr.makeSlice,au,fC D,ba,asInt,asIntOf,az,typeInfo,run_program,hc.info,U,W,X,Y,h1,Z,decide_false,bN0,bJQ,if_false,aq,run_askRoom,sizeOf,bLc,h0,if_true]
  rfl
 ·simp only[Instr.makeSlice,au,fC D,ba,asInt,asIntOf,az,typeInfo,run_program,hc.info,U,W,X,Y,h1,Z,decide_false,bN0,bJQ,if_false,aq,run_askRoom,sizeOf,bLc,if_neg h0,zeroValue,hc.zero]
  rfl
theorem bDs(t:bR5)(x y:bR7):iL P (aCR P t x y) (.makeSlice t x y):=fun {L V st k r Γ a w o} G h hs A=>by
 obtain⟨e,K,h⟩:=tQ h
 obtain⟨E,h⟩:=qU h
 obtain⟨z,H,h⟩:=tQ h
 obtain⟨i,zv,u⟩:=aBx E H
 obtain⟨vx,hx,h⟩:=fR hs.glob A h
 obtain⟨vy,M,h⟩:=fR hs.glob A h
 obtain⟨k1,n,rfl,h'⟩:=pF h
 obtain⟨k2,m,rfl,d⟩:=pF h'
 obtain⟨g1,d⟩:=eE d
 obtain⟨g2,d⟩:=eE d
 have C:=bJP g1
 have J:=bJP g2
 have F:0<zv.cells.size:=by have:=u.pos;have:=u.size;omega
 have I:(execOp a.eval o).run P w= .ok (.value (.slice (some ⟨w.heap.size,0,none⟩) n m)) { w with heap:=w.heap.push (.cells (lB zv.cells (m*zv.cells.size)) e) }:=by simp only[execOp,G,hx.inv_i,M.inv_i,au,run_makeSlice (rU K) u C J,ba];rfl
 cases E:Nat.beq n m with
 |true=>
  rw[E]at d
  refine⟨_,_,d,aNT hs (aDl (u.rel Γ).cells F m) C ?_ I⟩
  rw[u.szOf,←u.size];simp [lB]
 | false=>
  rw[E]at d
  have h3:=aDl (u.rel Γ).cells F n
  have N:(iP n z.cells).length=n*zv.cells.size:=by rw[h3.length];simp [lB]
  have O:=bK8 zv.cells.size C
  have hsz:(lB zv.cells (m*zv.cells.size)).size=m*zv.cells.size:=by simp [lB]
  refine⟨_,_,d,aZ5 hs ?_ C (by rw[N,hsz];exact O) ?_ ?_ I⟩
  ·rw[N]
   have e:(lB zv.cells (m*zv.cells.size)).toList.take (n*zv.cells.size)=(lB zv.cells (n*zv.cells.size)).toList:=by
    simp only[lB,Array.toList_map,Array.toList_range,←List.map_take,List.take_range,bK7 O]
   rw[e];exact h3
  ·rw[u.szOf,←u.size,hsz];exact bJE _
  ·rw[u.szOf,←u.size,N];exact bJE _
theorem bDU(t:bR5)(x:bR7)(f:Nat):iL P (aH2 P t x f) (.field t x f):=fun {L V st k r Γ a w o} G h hs A=>by
 obtain⟨fo,hf,h⟩:=tQ h
 obtain⟨Q,h⟩:=qU h
 obtain⟨vx,hx,h⟩:=fR hs.glob A h
 obtain⟨cs,rfl,h'⟩:=bBj h
 obtain⟨vs,e,hc⟩:=hx.inv_agg
 obtain⟨av,h9,h2⟩:=aII h'
 clear h h'
 unfold lI at hf
 split at hf
 ·rename_i fs D
  split at hf
  ·rename_i g hg
   injection hf with hf;subst hf
   rcases h2 with ⟨E,O,rfl⟩|⟨E,hn⟩
   ·refine⟨_,st,h9,.pure hs (v:= .agg (vs.toArray.extract g.offset (g.offset+aY P g.type))) ?_ ?_⟩
    ·simp only[execOp,G,e,Instr.field,au,fC D,ba,hg,asAgg,az,part,aFe Q,E,if_true,run_sizeOf Q]
    ·have:=CR.agg ((hc.drop g.offset).take (aY P g.type))
     have e':vs.toArray.extract g.offset (g.offset+aY P g.type)=((vs.drop g.offset).take (aY P g.type)).toArray:=by
      apply bLB;simp
     rw[e'];exact this
   ·obtain⟨v,R,g'⟩:=hc.get hn
    refine⟨av,st,h9,.pure hs (v:=v) ?_ g'⟩
    simp only[execOp,G,e,Instr.field,au,fC D,ba,hg,asAgg,az,part,aFe Q,E,bJQ,if_false,bMd,R]
  ·cases hf
 ·cases hf
theorem aMh{sz:Nat}{id:Id}{off len n:Nat}{st:St}{k:KS}(h:nL sz id off len n st k=some r):n<len/\k (.ptr id (off+n*sz)) st=some r:=by
 obtain⟨h1,h2⟩:=eE h
 exact⟨bJP h1,h2⟩
theorem bEI(t:bR5)(x y:bR7):iL P (aEq P t x y) (.indexAddr t x y):=fun {L V st k r Γ a w o} G h hs A=>by
 unfold aEq at h
 cases K:cW P t with
 | some e=>
  rw[K]at h
  have D:=rU K
  obtain⟨Q,h⟩:=qU (h:bR (aEy x y (aY P e)) (dG P e) L V st k=some r)
  obtain⟨vx,hx,h⟩:=fR hs.glob A h
  obtain⟨vy,M,h⟩:=fR hs.glob A h
  obtain⟨k1,n,rfl,h'⟩:=pF h
  rcases tO h' with ⟨_,d⟩|⟨_,d⟩|⟨id,off,len,cap,sz,rfl,d⟩
  ·cases d
  ·cases d
  ·obtain⟨a',d⟩:=aMh d
   obtain⟨p,s,c,hp,T,_⟩:=hx.inv_sl
   refine⟨_,st,d,.pure hs (v:= .pointer (some ⟨p,off+n*aY P e,none⟩)) ?_ (.ptr hp)⟩
   have h0:(0:Int)<=(n:Int)/\(n:Int)<(len:Int):=by omega
   simp only[execOp,G,T,M.inv_i,Instr.indexAt,asIntOf,au,az,ba,fC D,aq,if_pos h0,run_sizeOf Q,bLc,pL]
 | none=>
  rw[K]at h
  obtain⟨q,hq,h⟩:=tQ (h:oR (fun a=>bR (aHe x y a.1 (aY P a.2)) (dG P a.2)) (aEA P t) L V st k=some r)
  obtain⟨Q,h⟩:=qU h
  obtain⟨vx,hx,h⟩:=fR hs.glob A h
  obtain⟨vy,M,h⟩:=fR hs.glob A h
  obtain⟨k1,n,rfl,h'⟩:=pF h
  obtain⟨id,off,rfl,d⟩:=xW h'
  obtain⟨a',d⟩:=aMh d
  obtain⟨p,s,hp,T⟩:=hx.inv_ptr
  unfold aEA at hq
  split at hq
  ·rename_i len e D
   injection hq with hq;subst hq
   refine⟨_,st,d,.pure hs (v:= .pointer (some ⟨p,off+n*aY P e,none⟩)) ?_ (.ptr hp)⟩
   have h0:(0:Int)<=(n:Int)/\(n:Int)<(len:Int):=by have:n<len:=a';omega
   simp only[execOp,G,T,M.inv_i,Instr.indexAt,asIntOf,au,az,ba,fC D,Instr.sureAddr,aq,if_pos h0,run_sizeOf Q,bLc,pL]
  ·cases hq
theorem bDE(t:bR5)(x y:bR7):iL P (aHp P t x y) (.index t x y):=fun {L V st k r Γ a w o} G h hs A=>by
 obtain⟨ht,h⟩:=qU h
 obtain⟨vx,hx,h⟩:=fR hs.glob A h
 obtain⟨vy,M,h⟩:=fR hs.glob A h
 obtain⟨k1,n,rfl,h'⟩:=pF h
 have D:P.underlying t=some .string:=by unfold nH at ht;split at ht<;>first|assumption|cases ht
 cases vx with
 | v x=>
  cases x with
  | string s=>
   have h':Option.rec (motive:=fun _=>OR) none (fun b=>k (.i .u8 b) st) (uM s n)=some r:=h'
   unfold uM at h'
   cases E:s[n]? with
   |none=>rw[E]at h';cases h'
   |some b=>
    rw[E]at h'
    refine⟨_,st,h',.pure hs (v:= .int .u8 (b.toNat:Int)) ?_ (.i _ _)⟩
    simp only[execOp,G,(hx.inv_v).1,M.inv_i,Instr.index,asIntOf,au,az,ba,fC D]
    rw[if_pos (by omega),bLc,E]
    rfl
  |_=>cases h'
 |_=>cases h'
theorem tD(hg:pT Γ){L V:aT}{a:Act}(f:fJ Γ L V a.tmps){x:Option bR7}{d:Nat}{k:Nat->OR}(h:qB x d L V k=some r):∃n,k n=some r/\((x=none/\n=d)\/∃o ki,x=some o/\a.eval o= .int ki (n:Int)):=by
 cases x with
 |none=>exact⟨d,h,.inl ⟨rfl,rfl⟩⟩
 |some o=>
  obtain⟨v,X,h⟩:=fR hg f (h:cF o L V (fun a=>iS a k)=some r)
  obtain⟨ki,n,rfl,h'⟩:=pF h
  exact⟨n,h',.inr ⟨o,ki,rfl,X.inv_i⟩⟩
theorem pA(k:bR6)(n y:Nat)(c:BoundsCode)(h:n<=y)(w:bR3):(Instr.sliceBound (.int k (n:Int)) y c).run P w= .ok n w:=by
 have h':(0:Int)<=(n:Int)/\(n:Int)<=(y:Int):=by omega
 simp only[Instr.sliceBound,asIntOf,au,az,ba,aq,if_pos h',bLc]
def Bnd(ρ:bR7->bR4)(x:Option bR7)(d n:Nat):Prop:=(x=none/\n=d)\/∃o ki,x=some o/\ρ o= .int ki (n:Int)
theorem aF5{ρ:bR7->bR4}{lo i mx:Option bR7}{len cap l h m:Nat}(f:Bnd ρ lo 0 l)(hh:Bnd ρ i len h)(hm:Bnd ρ mx cap m)(h1:l<=h)(h2:h<=m)(u:m<=cap)(hx:mx≠none->i≠none)(w:bR3):
  (Instr.sliceBounds true len cap (lo.map ρ) (i.map ρ) (mx.map ρ)).run P w= .ok (l,h,m) w:=by
 unfold Instr.sliceBounds
 rcases hm with ⟨rfl,rfl⟩|⟨om,km,rfl,em⟩
 ·rcases hh with ⟨rfl,rfl⟩|⟨oh,kh,rfl,eh⟩
  ·rcases f with ⟨rfl,rfl⟩|⟨ol,kl,rfl,el⟩
   ·simp
   ·simp [el,pA _ _ _ _ h1]
  ·rcases f with ⟨rfl,rfl⟩|⟨ol,kl,rfl,el⟩
   ·simp [eh,pA _ _ _ _ h2]
   ·simp [eh,el,pA _ _ _ _ h2,pA _ _ _ _ h1]
 ·rcases hh with ⟨rfl,rfl⟩|⟨oh,kh,rfl,eh⟩
  ·exact absurd rfl (hx (by simp))
  ·rcases f with ⟨rfl,rfl⟩|⟨ol,kl,rfl,el⟩
   ·simp [em,eh,pA _ _ _ _ h2,pA _ _ _ _ u]
   ·simp [em,eh,el,pA _ _ _ _ h2,pA _ _ _ _ h1,pA _ _ _ _ u]
theorem aFk{t e:bR5}(A:P.underlying t=some (.slice e))(z:dG P e=true){x:bR4}{base:Option bRb}{len cap l h m:Nat}(hx:x= .slice base len cap){lo i mx:Option bR4}{w:bR3}
  (C:(Instr.sliceBounds true len cap lo i mx).run P w= .ok (l,h,m) w):
  (Instr.sliceAt t x lo i mx).run P w= .ok (.slice (if m=l then base else base.map (·.add (l*aY P e))) (h-l) (m-l)) w:=by
 subst hx
 simp only[Instr.sliceAt,Instr.slice,au,fC A,ba,C,run_sizeOf z,az]
theorem aMT{id:Id}{off sz len:Nat}{cap:Option Nat}{l h:Nat}{k:KA}(hh:qD id off sz len cap l h k=some r):
  h<=len/\l<=h/\((l=h/\l=0/\k (.sl id off 0 cap sz)=some r)\/(l=h/\l≠0/\k .se=some r)\/(l≠h/\k (.sl id (off+l*sz) (h-l) (cap.map (· - l)) sz)=some r)):=by
 obtain⟨h1,hh⟩:=eE hh
 obtain⟨h2,hh⟩:=eE hh
 refine⟨bJP h1,bJP h2, ?_⟩
 rcases vI hh with ⟨u,hh⟩|⟨u,hh⟩
 ·have u:=bJY u
  rcases vI hh with ⟨Y,hh⟩|⟨Y,hh⟩
  ·exact .inl ⟨u,bJY Y,hh⟩
  ·exact .inr (.inl ⟨u,bL9 Y,hh⟩)
 ·refine .inr (.inr ⟨bL9 u, ?_⟩)
  cases cap<;>exact hh
theorem aO3{id:Id}{off sz len p s c l h m:Nat}{cap:Option Nat}{k:KA}(hh:qD id off sz len cap l h k=some r)(I:Γ id=some (p,s))(hm:h<=m)(H:∀q,cap=some q->m=q)(O:m<=c)(hs:off+c*sz<=s):
  l<=h/\h<=len/\∃av,k av=some r/\CR Γ av (.slice (if m=l then some ⟨p,off,none⟩else(some (⟨p,off,none⟩:bRb)).map (·.add (l*sz))) (h-l) (m-l)):=by
 obtain⟨h1,h2,u⟩:=aMT hh
 refine⟨h2,h1, ?_⟩
 have Z:off+m*sz<=s:=by have:=bK8 sz O;omega
 rcases u with ⟨rfl,rfl,u⟩|⟨rfl,h0,u⟩|⟨b',u⟩
 ·refine⟨_,u, ?_⟩
  have e:(if m=0 then some (⟨p,off,none⟩:bRb)else(some (⟨p,off,none⟩:bRb)).map (·.add (0*sz)))=some ⟨p,off,none⟩:=by
   split
   ·rfl
   ·simp [pL]
  rw[e]
  exact .sl I (by omega) (fun q hq=>by rw[H q hq];omega) (by simpa using Z)
 ·refine⟨_,u, ?_⟩
  have e:∃a,(if m=l then some (⟨p,off,none⟩:bRb)else(some (⟨p,off,none⟩:bRb)).map (·.add (l*sz)))=some a:=by
   split
   ·exact⟨_,rfl⟩
   ·exact⟨_,rfl⟩
  obtain⟨a,e⟩:=e
  rw[e,show l-l=0 by omega]
  exact .se a _
 ·refine⟨_,u, ?_⟩
  rw[if_neg (by omega)]
  simp only[bKe,pL]
  refine .sl I (by omega) (fun q hq=> ?_) ?_
  ·cases cap with
   |none=>cases hq
   |some q0=>simp only[bKe,Option.some.injEq]at hq;rw[←hq,H q0 rfl]
  ·have:l*sz+(m-l)*sz=m*sz:=by rw[←bKw];congr 1;omega
   omega
theorem aWY{a:AV}{s:ByteArray}(h:aGF a=some s):a= .v (.string s):=by
 unfold aGF at h
 split at h
 ·injection h with h;subst h;rfl
 ·cases h
theorem aWo{ρ:bR7->bR4}{lo i:Option bR7}{len l h:Nat}(f:Bnd ρ lo 0 l)(hh:Bnd ρ i len h)(h1:l<=h)(h2:h<=len)(w:bR3):
  (Instr.sliceBounds false len len (lo.map ρ) (i.map ρ) none).run P w= .ok (l,h,len) w:=by
 unfold Instr.sliceBounds
 rcases hh with ⟨rfl,rfl⟩|⟨oh,kh,rfl,eh⟩
 ·rcases f with ⟨rfl,rfl⟩|⟨ol,kl,rfl,el⟩
  ·simp
  ·simp [el,pA _ _ _ _ h1]
 ·rcases f with ⟨rfl,rfl⟩|⟨ol,kl,rfl,el⟩
  ·simp [eh,pA _ _ _ _ h2]
  ·simp [eh,el,pA _ _ _ _ h2,pA _ _ _ _ h1]
theorem bAx(t:bR5)(x:bR7)(lo i mx:Option bR7):iL P (aKI P t x lo i mx) (.slice t x lo i mx):=fun {L V st k r Γ a w o} U h hs f=>by
 obtain⟨z,h0⟩:=qU h
 clear h
 rw[bJI]at z
 obtain⟨z,D⟩:=z
 have A:P.underlying t=some .string:=by
  unfold nH at z
  split at z
  ·assumption
  ·cases z
 cases mx with
 |some _=>cases D
 |none=>
 obtain⟨vx,hx,h⟩:=fR hs.glob f h0
 cases Q:aGF vx with
 |none=>rw[Q]at h;cases h
 |some s=>
  rw[Q]at h
  obtain rfl:=aWY Q
  obtain⟨B,_⟩:=hx.inv_v
  obtain⟨l,h',J⟩:=tD hs.glob f (h:qB lo 0 L V _=some r)
  obtain⟨n,h',K⟩:=tD hs.glob f h'
  obtain⟨g1,h'⟩:=eE h'
  obtain⟨g2,h'⟩:=eE h'
  have C:=aWo (P:=P) (ρ:=a.eval) (len:=s.size) J K (bJP g2) (bJP g1) w
  refine⟨_,st,h',.pure hs (v:= .string (s.extract l n)) ?_ (.v ⟨fun _ e=>(by cases e),fun _ e=>(by cases e)⟩)⟩
  simp only[execOp,U,Instr.sliceAt,Instr.slice,au,fC A,ba,B,Option.map_none,C,Option.isSome_none,bJQ,if_false,az]
theorem aXE(t:bR5)(x:bR7)(lo i mx:Option bR7):iL P (uA P t x lo i mx) (.slice t x lo i mx):=fun {L V st k r Γ a w o} U h hs f=>by
 cases E:cW P t with
 |none=>
  have h:aKI P t x lo i mx L V st k=some r:=by unfold uA at h;rw[E]at h;exact h
  exact bAx t x lo i mx U h hs f
 |some e=>
 unfold uA at h
 rw[E]at h
 have h:=h
 obtain⟨z,h⟩:=qU (b:=dG P e&&aAZ i mx) h
 rw[bJI]at z
 obtain⟨z,R⟩:=z
 have D:mx≠none->i≠none:=fun h1 h2=>by
  subst h2
  cases mx with
  |none=>exact h1 rfl
  |some _=>cases R
 obtain⟨vx,hx,h⟩:=fR hs.glob f h
 have A:=rU E
 have j:∀v,(Instr.sliceAt t (a.eval x) (lo.map a.eval) (i.map a.eval) (mx.map a.eval)).run P w= .ok v w->(execOp a.eval o).run P w= .ok (.value v) w:=fun v X=>by
  simp only[execOp,U,au,X,ba];rfl
 have seC:∀ {ad:bRb} {c:Nat},a.eval x= .slice (some ad) 0 c->fB lo L V (fB i L V (fB mx L V (k .se st)))=some r->∃av st',k av st'=some r/\sG P o a st Γ w av st':=fun {ad c} B h'=>by
  obtain⟨n1,h',J⟩:=tD hs.glob f h'
  obtain⟨z1,h'⟩:=eE h'
  obtain⟨n2,h',K⟩:=tD hs.glob f h'
  obtain⟨z2,h'⟩:=eE h'
  obtain⟨n3,h',b3⟩:=tD hs.glob f h'
  obtain⟨z3,h'⟩:=eE h'
  obtain rfl:=bJY z1
  obtain rfl:=bJY z2
  obtain rfl:=bJY z3
  have M:∃m,m<=c/\Bnd a.eval mx c m:=by
   rcases b3 with ⟨h1,_⟩|h1
   ·exact⟨c,bJE _,.inl ⟨h1,rfl⟩⟩
   ·exact⟨0,bJJ _,.inr h1⟩
  obtain⟨m,H,M⟩:=M
  have C:=aF5 (P:=P) (ρ:=a.eval) (len:=0) (cap:=c) J K M (by omega) (by omega) H D w
  have:=aFk A z B C
  refine⟨_,st,h',.pure hs (j _ this) ?_⟩
  have S:∃ad',(if m=0 then some ad else(some ad:Option bRb).map (·.add (0*aY P e)))=some ad':=by
   split
   ·exact⟨_,rfl⟩
   ·exact⟨_,rfl⟩
  obtain⟨ad',S⟩:=S
  rw[S]
  exact .se ad' _
 rcases tO h with ⟨rfl,h'⟩|⟨_,h'⟩|⟨id,off,len,cap,sz,rfl,h'⟩
 ·obtain⟨B,_⟩:=hx.inv_v
  obtain⟨n1,h',J⟩:=tD hs.glob f h'
  obtain⟨z1,h'⟩:=eE h'
  obtain⟨n2,h',K⟩:=tD hs.glob f h'
  obtain⟨z2,h'⟩:=eE h'
  obtain⟨n3,h',b3⟩:=tD hs.glob f h'
  obtain⟨z3,h'⟩:=eE h'
  obtain rfl:=bJY z1
  obtain rfl:=bJY z2
  obtain rfl:=bJY z3
  have C:=aF5 (P:=P) (ρ:=a.eval) (len:=0) (cap:=0) J K b3 (by omega) (by omega) (by omega) D w
  have:=aFk A z B C
  refine⟨_,st,h',.pure hs (j _ this) ?_⟩
  have S:(if (0:Nat)=0 then(none:Option bRb)else(none:Option bRb).map (·.add (0*aY P e)))=none:=by simp
  rw[S];exact .v ⟨(fun _ e=>by cases e),(fun _ e=>by cases e)⟩
 ·rename_i Q
  obtain rfl:=Q
  obtain⟨ad,c,B⟩:∃ad c,a.eval x= .slice (some ad) 0 c:=by
   generalize a.eval x=vx at hx
   cases hx with |se ad c=>exact⟨ad,c,rfl⟩
  exact seC B h'
 ·cases g0:Nat.beq sz (aY P e)with
  |false=>
   rw[g0]at h'
   obtain⟨g1,h'⟩:=eE (h':bQ (Nat.beq len 0) _ none=some r)
   obtain rfl:=bJY g1
   obtain⟨p,s,c,I,B,_⟩:=hx.inv_sl
   exact seC B h'
  |true=>
  rw[g0]at h'
  have h':rH lo i mx L V id off len cap sz (fun v=>k v st)=some r:=h'
  obtain rfl:=bJY g0
  obtain⟨p,s,c,I,B,d',T,hsz⟩:=hx.inv_sl
  obtain⟨l,h',J⟩:=tD hs.glob f h'
  obtain⟨hh,h',K⟩:=tD hs.glob f h'
  cases mx with
  |none=>
   have h':qD id off (aY P e) len cap l hh (fun v=>k v st)=some r:=h'
   obtain⟨e',_,_⟩:=aMT h'
   obtain⟨g1,g2,av,g3,g4⟩:=aO3 h' I (m:=c) (c:=c) (by omega) T (bJE _) hsz
   have C:=aF5 (P:=P) (ρ:=a.eval) (len:=len) (cap:=c) J K (.inl ⟨rfl,rfl⟩:Bnd a.eval none c c) g1 (by omega) (bJE _) (fun h=>absurd rfl h) w
   exact⟨av,st,g3,.pure hs (j _ (aFk A z B C)) g4⟩
  |some om=>
   obtain⟨vm,a',h'⟩:=fR hs.glob f (h':cF om L V _=some r)
   obtain⟨km,m,rfl,F⟩:=pF h'
   obtain⟨q1,F⟩:=eE F
   obtain⟨W,F⟩:=eE F
   have q1:=bJP q1
   have W:=bJP W
   obtain⟨g1,g2,av,g3,g4⟩:=aO3 F I (m:=m) (c:=c) W (fun q hq=>by injection hq) (by omega) hsz
   have C:=aF5 (P:=P) (ρ:=a.eval) (len:=len) (cap:=c) J K (.inr ⟨om,km,rfl,a'.inv_i⟩:Bnd a.eval (some om) c m) g1 W (by omega) D w
   exact⟨av,st,g3,.pure hs (j _ (aFk A z B C)) g4⟩
theorem aWG{t:bR5}(h:nH P t=true):P.underlying t=some .string:=by unfold nH at h;split at h<;>first|assumption|cases h
theorem aYM{t:bR5}{y:AV}{v:bR4}(N:CR Γ y v){k:KA}(h:wM P t y k=some r):∃n:Nat,k (.i .i64 n)=some r/\∀(g:Array bR5) (ty:bR5) w,g[0]? =some t->(bb g ty #[v]).run P w= .ok (.int .i64 (n:Int)) w:=by
 unfold wM at h
 cases E:cW P t with
 | some e=>
  rw[E]at h
  have A:=rU E
  rcases tO (h:iG y _ _ _=some r)with ⟨rfl,h'⟩|⟨rfl,h'⟩|⟨id,off,len,cap,sz,rfl,h'⟩
  ·obtain⟨rfl,_⟩:=N.inv_v
   exact⟨0,h',fun g ty w G=>by simp [bb,G,fC A,goInt]⟩
  ·obtain⟨a,c,rfl⟩:=N.inv_se
   exact⟨0,h',fun g ty w G=>by simp [bb,G,fC A,goInt]⟩
  ·obtain⟨p,s,c,I,rfl,_⟩:=N.inv_sl
   exact⟨len,h',fun g ty w G=>by simp [bb,G,fC A,goInt]⟩
 | none=>
  rw[E]at h
  cases y with
  | v x=>
   cases x with
   |string s=>
    obtain⟨h1,h2⟩:=eE (h:bQ (nH P t) (k (.i .i64 s.size)) none=some r)
    obtain⟨rfl,_⟩:=N.inv_v
    exact⟨s.size,h2,fun g ty w G=>by simp [bb,G,fC (aWG h1),goInt]⟩
   |_=>cases h
  |_=>cases h
theorem aYt{t:bR5}{y:AV}{v:bR4}(N:CR Γ y v){k:KA}(h:aH4 P t y k=some r):∃n:Nat,k (.i .i64 n)=some r/\∀(g:Array bR5) (ty:bR5) w,g[0]? =some t->(bc g ty #[v]).run P w= .ok (.int .i64 (n:Int)) w:=by
 unfold aH4 at h
 cases E:cW P t with
 |none=>rw[E]at h;cases h
 | some e=>
  rw[E]at h
  have A:=rU E
  rcases tO (h:iG y _ _ _=some r)with ⟨rfl,h'⟩|⟨rfl,h'⟩|⟨id,off,len,cap,sz,rfl,h'⟩
  ·obtain⟨rfl,_⟩:=N.inv_v
   exact⟨0,h',fun g ty w G=>by simp [bc,G,fC A,goInt]⟩
  ·cases h'
  ·obtain⟨p,s,c,I,rfl,_,hc,_⟩:=N.inv_sl
   cases cap with
   |none=>cases h'
   |some c'=>
    obtain rfl:=hc c' rfl
    exact⟨c,h',fun g ty w G=>by simp [bc,G,fC A,goInt]⟩
structure aHn(P:bR8)(Γ:aP)(w:bR3)(sz:Nat)(v:bR4)(new:List AV)(n:Nat)(vs:List bR4):Prop where
 rel:bW Γ new vs
 len:vs.length=n*sz
 val:∃b c,v= .slice b n c
 cells:0<n->∃p off c,v= .slice (some ⟨p,off,none⟩) n c/\∀j u,vs[j]? =some u->w.cell? ⟨p,off+j,none⟩=some u
theorem aZ6{st:St}{w:bR3}(hs:dQ st Γ w){sz:Nat}{y:AV}{v:bR4}(V:CR Γ y v){k:List AV->Nat->OR}(h:aHj st sz y k=some r):∃new n vs,k new n=some r/\aHn P Γ w sz v new n vs:=by
 rcases tO h with ⟨rfl,h'⟩|⟨rfl,h'⟩|⟨id,off,len,cap,c4,rfl,h'⟩
 ·obtain⟨rfl,_⟩:=V.inv_v
  exact⟨[],0,[],h',.nil,by simp,⟨_,_,rfl⟩,fun h=>absurd h (bKl 0)⟩
 ·obtain⟨a,c,rfl⟩:=V.inv_se
  exact⟨[],0,[],h',.nil,by simp,⟨_,_,rfl⟩,fun h=>absurd h (bKl 0)⟩
 ·obtain⟨b,F,h'⟩:=rW h'
  obtain⟨l,h'⟩:=aDd _ _ _ _ h'
  obtain⟨p,s,c,L,rfl,_⟩:=V.inv_sl
  obtain⟨S,s',o,j',cs,el,W,hsz,A,hc,_⟩:=hs.blkc id b F
  obtain⟨rfl,rfl⟩:S=p/\s'=s:=by rw[L]at o;injection o with o;injection o with O U;exact⟨O.symm,U.symm⟩
  have l:off+len*sz<=b.cells.length:=l
  refine⟨_,len,((cs.toList.take b.cells.length).drop off).take (len*sz),h',(hc.drop off).take _,by simp;omega,⟨_,_,rfl⟩,fun _=>⟨S,off,c,rfl,fun j u D=> ?_⟩⟩
  rw[yI W]
  rw[bKY]at D
  split at D
  ·rw[bLf,bKY]at D
   split at D
   ·simpa using D
   ·cases D
  ·cases D
theorem aHn.src{w:bR3}{sz n:Nat}{v:bR4}{new:List AV}{vs:List bR4}(h:aHn P Γ w sz v new n vs)(hn:0<n){tx e':bR5}(hk:P.underlying tx=some (.slice e'))(h1:jG new=true):Src P sz tx v n vs w:=by
 obtain⟨p,off,c,rfl,hc⟩:=h.cells hn
 exact Src.ofSlice w hk _ n c vs h.len (fun j u D=>by rw[pL];exact hc j u D) (aD5 h.rel h1)
theorem aVH{t tx e e' ty:bR5}{i:TypeInfo}(E:P.underlying t=some (.slice e))(hx:P.underlying tx=some (.slice e'))(hi:P.info? e=some i)(base bx:Option bRb)(sLen sCap cx:Nat)(h:sLen<=sCap)(w:bR3):
  (be #[t,tx] ty #[.slice base sLen sCap,.slice bx 0 cx]).run P w= .ok (.slice base sLen sCap) w:=by
 cases bx<;>cases base<;>simp [be,fC E,fC hx,sizeOf,typeInfo,hi,bf,h,bg,loadCells,loadCellsFrom,storeCells]
theorem aLD{t tx e ty:bR5}{i:TypeInfo}(E:P.underlying t=some (.slice e))(hi:P.info? e=some i){w w':bR3}{x:bR4}{n:Nat}{vs:List bR4}(hs:Src P i.size tx x n vs w){p off sLen sCap:Nat}(B:sLen+n<=sCap)
  (y':(storeCells ⟨p,off+sLen*i.size,none⟩ vs).run P w= .ok () w'):
  (be #[t,tx] ty #[.slice (some ⟨p,off,none⟩) sLen sCap,x]).run P w= .ok (.slice (some ⟨p,off,none⟩) (sLen+n) sCap) w':=by
 rcases hs.kind with ⟨e',hk⟩|hk<;>simp [be,fC E,fC hk,sizeOf,typeInfo,hi,hs.len,B,hs.cells,pL,y']
theorem aIT{st:St}{w:bR3}(hs:dQ st Γ w){t tx e ty:bR5}{z:AV}{i:TypeInfo}{zv:bR4}(E:P.underlying t=some (.slice e))(hc:wI P e z i zv){x:bR4}{n:Nat}{new old:List AV}{vs olds:List bR4}(g':Src P i.size tx x n vs w)(hr:bW Γ new vs)(d':bW Γ old olds)
  {base:Option bRb} {sLen sCap:Nat} (M:olds.length=sLen*i.size) (hold:(bg i.size sLen (.slice base sLen sCap)).run P w.drew= .ok olds.toArray w.drew) (hg:sCap<sLen+n) (h1:sLen<=10000000) (h2:n<=10000000):
  ∃v w' Γ',(be #[t,tx] ty #[.slice base sLen sCap,x]).run P w= .ok v w'/\dH st Γ w (st.new ⟨old++new,false⟩) Γ' w'/\CR Γ' (.sl st.nxt 0 (sLen+n) none i.size) v:=by
 have X:(sLen+n)*i.bytes<=140737488355328:=by
  have:=bLh (show sLen+n<=20000000 by omega) hc.bytes;omega
 have Q:=run_append_grow_src (P:=P) w t tx ty e i zv E hc.info hc.zero base sLen sCap olds hold x n vs g' hg (by omega) (growslice_fits hg X)
 have k':dQ st Γ w.drew:=hs.drew rfl
 have z':(bi zv.cells (grownCap w (sLen+n) sCap e-(sLen+n))).size=(grownCap w (sLen+n) sCap e-(sLen+n))*i.size:=by
  simp [bi,hc.size]
 have l':sLen+n<=grownCap w (sLen+n) sCap e:=by unfold grownCap;simp only[Question.cut];omega
 have C:bW Γ (old++new) (olds++vs):=d'.app hr
 have f':((olds++vs).toArray++bi zv.cells (grownCap w (sLen+n) sCap e-(sLen+n))).size=grownCap w (sLen+n) sCap e*i.size:=by
  rw[bN1,z']
  simp only[List.size_toArray,bJW,M,g'.newsLen]
  rw[←bKw,←bKw];congr 1;omega
 have T:dH st Γ w.drew (st.new ⟨old++new,false⟩) (Γ.add st.nxt w.heap.size ((olds++vs).toArray++bi zv.cells (grownCap w (sLen+n) sCap e-(sLen+n))).size)
   (w.drew.alloc (.cells ((olds++vs).toArray++bi zv.cells (grownCap w (sLen+n) sCap e-(sLen+n))) e)):=
  dH.new k' (b:=⟨old++new,false⟩) (cs:=(olds++vs).toArray++bi zv.cells (grownCap w (sLen+n) sCap e-(sLen+n))) e (by
   show bW Γ (old++new) (bLM (old++new).length _)
   rw[C.length]
   simp only[Array.toList_append,List.take_left']
   simpa using C) (by rw[C.length];simp) (fun h=>by cases h)
 refine⟨_,_,_,Q,(dH.drew (w':=w.drew) hs rfl rfl rfl rfl).trans T, ?_⟩
 refine .sl (aP.add_self _ _ _ _) l' (fun k h=>by cases h) ?_
 show 0+_<=_
 rw[f'];omega
theorem dH.less{st Y R:St}{w w1:bR3}{Γ1:aP}(h:dH st Γ w Y Γ1 w1)(hl:∀x c,R.look x c->Y.look x c)(t':∀id:Id,R.nxt.nat<=id.nat->Tr.find id R.heap=none)(hn:R.nxt=Y.nxt)(hr:R.ro=Y.ro)(hh:R.hid=Y.hid)
  (hold:∀id,id.nat<st.nxt.nat->(id.nat<st.ro\/¬st.vis id)->Tr.find id R.heap=Tr.find id st.heap):dH st Γ w R Γ1 w1:=
 ⟨⟨fun id b X=>h.sim.blk id b (hl _ _ X),fun id a0 b b' p s s' h1 h2=>h.sim.inj id a0 b b' p s s' (hl _ _ h1) (hl _ _ h2),fun id hi=>h.sim.fresh id (by rw[←hn];exact hi),t',h.sim.glob,by rw[hr];exact h.sim.flo⟩,
  h.sub,h.fl,h.same,h.os,h.tape,h.output,h.size,hr.trans h.ro,hh.trans h.hid,by rw[hn];exact h.nxt,h.frame,fun q id b s hq X=>h.wr q id b s hq (hl _ _ X),hold⟩
theorem bBl(size:Nat)(w:bR3):(bg size 0 (.slice none 0 0)).run P w= .ok ([]:List bR4).toArray w:=by simp [bg]
def aAw(P:bR8)(t tx:bR5)(st:St)(Γ:aP)(w:bR3)(vs vx:bR4)(av:AV)(st':St):Prop:=
 ∀ty,∃v w' Γ',(be #[t,tx] ty #[vs,vx]).run P w= .ok v w'/\dH st Γ w st' Γ' w'/\CR Γ' av v
section
variable {st:St}{w:bR3}(hs:dQ st Γ w){t tx e e':bR5}{z:AV}{i:TypeInfo}{zv:bR4}(E:P.underlying t=some (.slice e))(hc:wI P e z i zv)(hx:P.underlying tx=some (.slice e')){vx:bR4}{n:Nat}{new:List AV}{vs:List bR4}
 (f:aHn P Γ w i.size vx new n vs) (hn:0<n) (H:n<=10000000) (h1:jG new=true)
include hs E hc hx f hn H h1
theorem aYm{k:KS}(h:uY st i.size new n k=some r):∃av st',k av st'=some r/\aAw P t tx st Γ w (.slice none 0 0) vx av st':=by
 refine⟨_,_,h,fun ty=> ?_⟩
 have:=aIT hs E hc (ty:=ty) (f.src hn hx h1) f.rel (.nil:bW Γ [] []) (base:=none) (sLen:=0) (sCap:=0) (by simp) (bBl _ _) (by omega) (by omega) H
 simpa using this
theorem aXQ{id:Id}{off len p s c:Nat}(L:Γ id=some (p,s))(A:len<=10000000)(hg:c<len+n){k:KS}(h:uR st i.size id off len n new k=some r):
  ∃av st',k av st'=some r/\aAw P t tx st Γ w (.slice (some ⟨p,off,none⟩) len c) vx av st':=by
 obtain⟨b,F,h⟩:=rW h
 obtain⟨l,h⟩:=aDd _ _ _ _ h
 have l:off+len*i.size<=b.cells.length:=l
 obtain⟨S,s',o,j',cs,el,W,hsz,m',Z,_⟩:=hs.blkc id b F
 obtain⟨rfl,rfl⟩:S=p/\s'=s:=by rw[L]at o;injection o with o;injection o with O U;exact⟨O.symm,U.symm⟩
 rw[aBW]at h
 refine⟨_,_,h,fun ty=> ?_⟩
 have M:(((cs.toList.take b.cells.length).drop off).take (len*i.size)).length=len*i.size:=by simp;omega
 have I:∀j u,(((cs.toList.take b.cells.length).drop off).take (len*i.size))[j]? =some u->w.drew.cell? ((⟨S,off,none⟩:bRb).add j)=some u:=fun j u D=>by
  rw[pL]
  show w.cell? _=_
  rw[yI W]
  rw[bKY]at D
  split at D
  ·rw[bLf,bKY]at D
   split at D
   ·simpa using D
   ·cases D
  ·cases D
 exact aIT hs E hc (ty:=ty) (f.src hn hx h1) f.rel ((Z.drop off).take (len*i.size)) M (run_firstCells_some w.drew i.size len ⟨S,off,none⟩ len c _ M I) hg A H
theorem aXO{id:Id}{off len p s c:Nat}(L:Γ id=some (p,s))(A:len<=10000000)(_:len<=c)(hsz:off+c*i.size<=s){k:KS}(h:oN st i.size id off len n c new k=some r):
  ∃av st',k av st'=some r/\aAw P t tx st Γ w (.slice (some ⟨p,off,none⟩) len c) vx av st':=by
 rcases vI h with ⟨g,h⟩|⟨g,h⟩
 ·have B:len+n<=c:=bJP g
  obtain⟨b,F,h⟩:=rW h
  obtain⟨g2,h⟩:=aBA _ _ _ _ h
  obtain⟨g3,h⟩:=aDi h
  obtain⟨w',hr,_,a2⟩:=aDf (P:=P) hs F g3 L f.rel h1 g2
  refine⟨_,_,h,fun ty=>⟨_,w',Γ,aLD E hc.info (f.src hn hx h1) B hr,a2, ?_⟩⟩
  exact .sl L B (fun k h=>by injection h) hsz
 ·have hg:c<len+n:=by
   rcases bJS c (len+n)with h|h
   ·exact h
   ·have:Nat.ble (Nat.add len n) c=true:=bKX h
    rw[this]at g;cases g
  exact aXQ hs E hc hx f hn H h1 L A hg h
theorem aZO{id:Id}{off len p s c:Nat}(L:Γ id=some (p,s))(A:len<=10000000)(_:len<=c)(hsz:off+c*i.size<=s){k:KS}(h:uP st i.size id off len n new k=some r):
  ∃av st',k av st'=some r/\aAw P t tx st Γ w (.slice (some ⟨p,off,none⟩) len c) vx av st':=by
 obtain⟨g,h⟩:=eE h
 obtain rfl:=bJY g
 obtain⟨b,F,h⟩:=rW h
 obtain⟨l,h⟩:=aDd _ _ _ _ h
 have l:0+len*i.size<=b.cells.length:=l
 obtain⟨d',h⟩:=aOK h
 obtain⟨S,s',o,j',cs,el,W,f',m',Z,_⟩:=hs.blkw id b F d'
 obtain⟨rfl,rfl⟩:S=p/\s'=s:=by rw[L]at o;injection o with o;injection o with O U;exact⟨O.symm,U.symm⟩
 rw[aBW]at h
 refine⟨_,_,h,fun ty=> ?_⟩
 have M:(((cs.toList.take b.cells.length).drop 0).take (len*i.size)).length=len*i.size:=by simp;omega
 have holds:bW Γ ((b.cells.drop 0).take (len*i.size)) (((cs.toList.take b.cells.length).drop 0).take (len*i.size)):=(Z.drop 0).take _
 by_cases B:len+n<=c
 ·have b8:(len+n)*i.size<=c*i.size:=bK8 _ B
  have c5:=f.len
  have b9:(len+n)*i.size=len*i.size+n*i.size:=bKw _ _ _
  have Q:=run_storeCells_at P S (0+len*i.size) el vs 0 cs w W (by omega) (aD5 f.rel h1)
  have c6:new.length=vs.length:=f.rel.length
  have O:(cs.toList.take (0+len*i.size)++vs++cs.toList.drop (0+len*i.size+vs.length)).take ((b.cells.drop 0).take (len*i.size)++new).length=((cs.toList.take b.cells.length).drop 0).take (len*i.size)++vs:=by
   have U:((b.cells.drop 0).take (len*i.size)++new).length=(cs.toList.take (0+len*i.size)++vs).length:=by simp;omega
   rw[U,List.take_left']
   ·simp only[List.drop_zero,bKi,bKC];rw[bK7 (by omega)]
   ·rfl
  have n':=dH.move hs F.lk d' L (b':=⟨(b.cells.drop 0).take (len*i.size)++new,false⟩) (cs:=(cs.toList.take (0+len*i.size)++vs++cs.toList.drop (0+len*i.size+vs.length)).toArray) (aHM W) (by simp;omega) (by show List.length _<=_;simp;omega) (by
    show bW Γ _ (bLM _ (bMc _).toList)
    rw[List.toList_toArray,O]
    exact holds.app f.rel) (fun h=>by cases h)
  exact⟨_,_,_,aLD E hc.info (f.src hn hx h1) B Q,n',.sl (aP.add_self _ _ _ _) B (fun k h=>by cases h) (by omega)⟩
 ·have I:∀j u,(((cs.toList.take b.cells.length).drop 0).take (len*i.size))[j]? =some u->w.drew.cell? ((⟨S,0,none⟩:bRb).add j)=some u:=fun j u D=>by
   rw[pL]
   show w.cell? _=_
   rw[yI W]
   rw[bKY]at D
   split at D
   ·rw[bLf,bKY]at D
    split at D
    ·simpa using D
    ·cases D
   ·cases D
  obtain⟨v,w',Γ',g1,g2,g3⟩:=aIT hs E hc (ty:=ty) (f.src hn hx h1) f.rel holds M (run_firstCells_some w.drew i.size len ⟨S,0,none⟩ len c _ M I) (by omega) A H
  have a3:id≠st.nxt:=fun e=>by rw[e,hs.fresh _ (bJE _)]at L;cases L
  refine⟨v,w',Γ',g1,g2.less ?_ ?_ rfl rfl rfl ?_,g3⟩
  ·intro x c hx
   obtain⟨q1,q2⟩:=hx
   refine⟨q1, ?_⟩
   have q2:Tr.find x (Tr.put (some ⟨_,false⟩) st.nxt (Tr.put none id st.heap))=some c:=q2
   show Tr.find x (Tr.put _ st.nxt st.heap)=some c
   by_cases O:x=st.nxt
   ·subst O;rw[Tr.put_same]at q2 ⊢;exact q2
   ·rw[Tr.put_other _ _ _ _ (fun e=>O e.symm)]at q2 ⊢
    by_cases U:x=id
    ·subst U;rw[Tr.put_same]at q2;cases q2
    ·rw[Tr.put_other _ _ _ _ (fun e=>U e.symm)]at q2;exact q2
  ·intro x hx
   have o':(Id.succ st.nxt).nat<=x.nat:=hx
   rw[Id.nat_succ]at o'
   have a4:id.nat<st.nxt.nat:=by
    rcases bJS id.nat st.nxt.nat with h1|h1
    ·exact h1
    ·have:=hs.top id h1;rw[F.lk.2]at this;cases this
   show Tr.find x (Tr.put (some _) st.nxt (Tr.put none id st.heap))=none
   rw[Tr.put_other _ _ _ _ (fun e=>by rw[←e]at o';omega),Tr.put_other _ _ _ _ (fun e=>by rw[←e]at o';omega)]
   exact hs.top x (by omega)
  ·intro x hx hr
   have a5:x≠id:=fun e=>by
    subst e
    rcases hr with hr|hr
    ·omega
    ·exact hr F.lk.1
   show Tr.find x (Tr.put (some _) st.nxt (Tr.put none id st.heap))=_
   rw[Tr.put_other _ _ _ _ (fun e=>by rw[←e]at hx;omega),Tr.put_other _ _ _ _ (fun e=>a5 e.symm)]
end
theorem aWZ{st:St}{w:bR3}(hs:dQ st Γ w){t tx e e':bR5}{z:AV}{i:TypeInfo}{zv:bR4}(E:P.underlying t=some (.slice e))(hc:wI P e z i zv)(hx:P.underlying tx=some (.slice e')){s x:AV}{vs vx:bR4}(J:CR Γ s vs)(q':CR Γ x vx){k:KS}(h:wH i.size s x st k=some r):
  ∃av st',k av st'=some r/\aAw P t tx st Γ w vs vx av st':=by
 obtain⟨new,n,news,h,f⟩:=aZ6 (P:=P) hs q' h
 rcases vI h with ⟨g,h⟩|⟨g,h⟩
 ·obtain rfl:=bJY g
  obtain⟨bx,cx,rfl⟩:=f.val
  have hz:∀base sLen sCap,vs= .slice base sLen sCap->sLen<=sCap->aAw P t tx st Γ w vs (.slice bx 0 cx) s st:=fun base sLen sCap e l ty=>by
   refine⟨vs,w,Γ, ?_,.refl hs,J⟩
   rw[e];exact aVH E hx hc.info base bx sLen sCap cx l w
  rcases tO h with ⟨e0,h'⟩|⟨e0,h'⟩|⟨id,off,len,cap,sz,e0,h'⟩
  ·rw[e0]at J;exact⟨_,_,h',hz none 0 0 (J.inv_v).1 (bJE _)⟩
  ·rw[e0]at J;obtain⟨a,c,O⟩:=J.inv_se;exact⟨_,_,h',hz _ _ _ O (bJJ _)⟩
  ·rw[e0]at J;obtain⟨p,q,c,_,O,l,_⟩:=J.inv_sl;exact⟨_,_,h',hz _ _ _ O l⟩
 ·have hn:0<n:=by have:=bL9 g;omega
  obtain⟨g2,h⟩:=eE h
  rw[bJI]at g2
  have H:=bJP g2.1
  rcases tO h with ⟨rfl,h'⟩|⟨_,h'⟩|⟨id,off,len,cap,sz,rfl,h'⟩
  ·rw[(J.inv_v).1]
   exact aYm hs E hc hx f hn H g2.2 h'
  ·cases h'
  ·obtain⟨g3,h2⟩:=eE h'
   clear h'
   rw[bJI]at g3
   obtain rfl:=bJY g3.1
   have A:=bJP g3.2
   obtain⟨p,q,c,L,rfl,l,u',hsz⟩:=J.inv_sl
   cases cap with
   |none=>exact aZO hs E hc hx f hn H g2.2 L A l hsz h2
   |some c0=>
    obtain rfl:=u' c0 rfl
    exact aXO hs E hc hx f hn H g2.2 L A l hsz h2
theorem aWp{t:bR5}(h:yT P t=true):∃k,P.underlying t=some (.int k):=by unfold yT at h;split at h<;>first|exact⟨_,by assumption⟩|cases h
theorem aVD{t tn ty e:bR5}{i:TypeInfo}{kn:bR6}(E:P.underlying t=some (.slice e))(a6:P.underlying tn=some (.int kn))(hi:P.info? e=some i)(w:bR3):
  (be #[t,tn] ty #[.slice none 0 0,.int .i64 ((0:Nat):Int)]).run P w= .ok (.slice none 0 0) w:=by
 have W:IntKind.i64.wrap 0=0:=by rw[IntKind.wrap_i64];omega
 simp [be,fC E,fC a6,sizeOf,typeInfo,hi,asInt,asIntOf,W]
theorem aXk{st:St}{w:bR3}(hs:dQ st Γ w){t tx e:bR5}{kn:bR6}{z:AV}{i:TypeInfo}{zv:bR4}(E:P.underlying t=some (.slice e))(hc:wI P e z i zv)(hx:P.underlying tx=some (.int kn)){s x:AV}{vs vx:bR4}(J:CR Γ s vs)(q':CR Γ x vx){k:KS}(h:aCn i.size z.cells s x st k=some r):
  ∃av st',k av st'=some r/\aAw P t tx st Γ w vs vx av st':=by
 obtain⟨n,rfl,h⟩:=aJl h
 rw[q'.inv_i]
 rcases tO h with ⟨rfl,h'⟩|⟨_,h'⟩|⟨_,_,_,_,_,_,h'⟩
 ·rw [(J.inv_v).1]
  rcases vI h' with ⟨g,h'⟩|⟨g,h'⟩
  ·obtain rfl:=bJY g
   exact⟨_,_,h',fun ty=>⟨_,w,Γ,aVD E hx hc.info w,.refl hs,.v ⟨fun _=>by simp,fun _=>by simp⟩⟩⟩
  ·have hn:0<n:=by have:=bL9 g;omega
   obtain⟨g2,h'⟩:=eE h'
   have H:=bJP g2
   refine⟨_,_,h',fun ty=> ?_⟩
   have a':0<zv.cells.size:=by have:=hc.pos;have:=hc.size;omega
   have X:n*i.bytes<=281474976710656:=by
    have:=bLh H hc.bytes;omega
   have Q:=Lib.run_append_nil_zeros (P:=P) w t tx ty e i zv .i64 kn E hx hc.info hc.zero n hn hc.pos (by omega) X
   have C:bW Γ (iP n z.cells) (bi zv.cells n).toList:=aDl (hc.rel Γ).cells a' n
   have hsz:∀m,(bi zv.cells m).size=m*i.size:=fun m=>by simp [bi,hc.size]
   have A:(iP n z.cells).length=n*i.size:=by rw[C.length,bLC,hsz]
   have l':n<=grownCap w n 0 e:=by unfold grownCap;simp only[Question.cut];omega
   have k':dQ st Γ w.drew:=hs.drew rfl
   have f':(bi zv.cells n++bi zv.cells (grownCap w n 0 e-n)).size=grownCap w n 0 e*i.size:=by
    rw[bN1,hsz,hsz,←bKw];congr 1;omega
   have T:dH st Γ w.drew (st.new ⟨iP n z.cells,false⟩) (Γ.add st.nxt w.heap.size (bi zv.cells n++bi zv.cells (grownCap w n 0 e-n)).size)
     (w.drew.alloc (.cells (bi zv.cells n++bi zv.cells (grownCap w n 0 e-n)) e)):=
    dH.new k' (b:=⟨iP n z.cells,false⟩) (cs:=bi zv.cells n++bi zv.cells (grownCap w n 0 e-n)) e (by
     show bW Γ (iP n z.cells) (bLM (iP n z.cells).length _)
     rw[C.length,Array.toList_append,List.take_left']
     ·exact C
     ·rfl) (by show(iP n z.cells).length<=_;rw[A,bN1,hsz];omega) (fun h=>by cases h)
   refine⟨_,_,_,Q,(dH.drew (w':=w.drew) hs rfl rfl rfl rfl).trans T, ?_⟩
   refine .sl (aP.add_self _ _ _ _) l' (fun k h=>by cases h) ?_
   show 0+_<=_
   rw[f'];omega
 ·cases h'
 ·cases h'
theorem aYL{st:St}{w:bR3}(hs:dQ st Γ w){t:bR5}{y:AV}{v:bR4}(V:CR Γ y v){k:KS}(h:aHf P t y st k=some r):
  ∃st',k (.tup []) st'=some r/\∃w',(∀(G:Array bR5) (ty:bR5),G[0]? =some t->(bj G ty #[v]).run P w= .ok (.tuple #[]) w')/\dH st Γ w st' Γ w':=by
 unfold aHf at h
 cases E:cW P t with
 |none=>rw[E]at h;cases h
 | some e=>
  rw[E]at h
  have h:(Bool.rec (motive:=fun _=>AV->St->KS->OR) (fun _ _ _=>none) (Option.rec (motive:=fun _=>AV->St->KS->OR) (fun _ _ _=>none) (fun z=>aGT z.cells) (iK P e)) (dN P e)) y st k=some r:=h
  cases K:dN P e with
  |false=>rw[K]at h;cases h
  | true=>
   rw[K]at h
   have h:(Option.rec (motive:=fun _=>AV->St->KS->OR) (fun _ _ _=>none) (fun z=>aGT z.cells) (iK P e)) y st k=some r:=h
   cases hz:iK P e with
   |none=>rw[hz]at h;cases h
   | some z=>
    rw[hz]at h
    obtain⟨i,zv,hc⟩:=aBx K hz
    have h:aGT z.cells y st k=some r:=h
    have hu:=rU E
    rcases tO h with ⟨rfl,h'⟩|⟨rfl,h'⟩|⟨id,off,len,cap,sz,rfl,h'⟩
    ·obtain⟨rfl,_⟩:=V.inv_v
     exact⟨_,h',w,fun G ty h0=>by simp [bj,h0,fC hu],.refl hs⟩
    ·obtain⟨a,c,rfl⟩:=V.inv_se
     exact⟨_,h',w,fun G ty h0=>by simp [bj,h0,fC hu],.refl hs⟩
    ·obtain⟨p,s,c,L,rfl,l,_,hsz⟩:=V.inv_sl
     rcases vI h' with ⟨g,h'⟩|⟨g,h'⟩
     ·obtain rfl:=bJY g
      exact⟨_,h',w,fun G ty h0=>by simp [bj,h0,fC hu],.refl hs⟩
     ·have hn:0<len:=by have:=bL9 g;omega
      obtain⟨g2,h'⟩:=eE h'
      rw[bJI]at g2
      obtain⟨b,F,h'⟩:=rW h'
      obtain⟨g3,h'⟩:=aBA _ _ _ _ h'
      obtain⟨g4,h'⟩:=aDi h'
      have a':0<zv.cells.size:=by have:=hc.pos;have:=hc.size;omega
      have C:bW Γ (iP len z.cells) (bi zv.cells len).toList:=aDl (hc.rel Γ).cells a' len
      obtain⟨w',hr,_,hg⟩:=aDf (P:=P) hs F g4 L C g2.2 g3
      refine⟨_,h',w',fun G ty h0=> ?_,hg⟩
      obtain⟨m,rfl⟩:∃m,len=m+1:=⟨len-1,by omega⟩
      simp [bj,h0,fC hu,zeroValue,typeInfo,hc.info,hc.zero,hr]
theorem aO8{y:AV}{v:bR4}(V:CR Γ y v){k:Nat->OR}(h:aCB y k=some r):∃n b c,k n=some r/\v= .slice b n c/\(0<n->∃id off cap sz,y= .sl id off n cap sz):=by
 rcases tO h with ⟨rfl,h'⟩|⟨rfl,h'⟩|⟨id,off,len,cap,sz,rfl,h'⟩
 ·obtain⟨rfl,_⟩:=V.inv_v
  exact⟨0,_,_,h',rfl,fun h=>absurd h (bKl 0)⟩
 ·obtain⟨a,c,rfl⟩:=V.inv_se
  exact⟨0,_,_,h',rfl,fun h=>absurd h (bKl 0)⟩
 ·obtain⟨p,s,c,L,rfl,_⟩:=V.inv_sl
  exact⟨len,_,_,h',rfl,fun _=>⟨_,_,_,_,rfl⟩⟩
theorem aZm{st:St}{w:bR3}(hs:dQ st Γ w){t:bR5}{d s:AV}{vd vs:bR4}(hd:CR Γ d vd)(v':CR Γ s vs){k:KS}(h:pZ P t d s st k=some r):
  ∃n st',k (.i .i64 n) st'=some r/\∃w',(∀(G:Array bR5) (ty:bR5),G[0]? =some t->(bm G ty #[vd,vs]).run P w= .ok (.int .i64 ((n:Nat):Int)) w')/\dH st Γ w st' Γ w':=by
 unfold pZ at h
 cases E:cW P t with
 |none=>rw[E]at h;cases h
 | some e=>
  rw[E]at h
  have h:(Bool.rec (motive:=fun _=>AV->AV->St->KS->OR) (fun _ _ _ _=>none) (aEc (aY P e)) (dN P e)) d s st k=some r:=h
  cases K:dN P e with
  |false=>rw[K]at h;cases h
  | true=>
   rw[K]at h
   have hz:∃z,iK P e=some z:=by
    unfold dN at K
    split at K
    ·exact⟨_,by assumption⟩
    ·cases K
   obtain⟨z,hz⟩:=hz
   obtain⟨i,zv,hc⟩:=aBx K hz
   have h:aEc (aY P e) d s st k=some r:=h
   rw[hc.szOf]at h
   have hu:=rU E
   obtain⟨ld,bd,cd,h1,rfl,a7⟩:=aO8 hd h
   obtain⟨ls,bs,cs,h2,rfl,a8⟩:=aO8 v' h1
   clear h h1
   have i':(Bool.rec (motive:=fun _=>Nat) ld ls (Nat.ble ls ld))=Nat.min ls ld:=by
    cases X:Nat.ble ls ld with
    |true=>
     have:=bJP X
     exact(bK7 this).symm
    |false=>
     have:¬ls<=ld:=fun h=>by rw[bKX h]at X;cases X
     show ld=Nat.min ls ld
     exact(bMW (by omega)).symm
   rw[i']at h2
   have c7:Nat.min ls ld<=ls:=Nat.min_le_left _ _
   have c8:Nat.min ls ld<=ld:=Nat.min_le_right _ _
   have c':Nat.min ls ld=0->∀(G:Array bR5) (ty:bR5),G[0]? =some t->(bm G ty #[.slice bd ld cd,.slice bs ls cs]).run P w= .ok (.int .i64 ((0:Nat):Int)) w:=fun h0 G ty r'=>by
    have a9:min ls ld=0:=h0
    cases bd<;>cases bs<;>simp [bm,r',fC hu,bf,a9,sizeOf,typeInfo,hc.info,bg,loadCells,loadCellsFrom,storeCells,goInt]
   rcases vI h2 with ⟨g,N⟩|⟨g,N⟩
   ·exact⟨0,_,N,w,c' (bJY g),.refl hs⟩
   ·have hn:0<Nat.min ls ld:=by have:=bL9 g;omega
    generalize hN:Nat.min ls ld=n at*
    clear c' i'
    obtain⟨g2,N⟩:=eE N
    obtain⟨is,os,cap1,sz1,rfl⟩:=a8 (by omega)
    obtain⟨id,od,cap2,sz2,rfl⟩:=a7 (by omega)
    have N:eQ st is (fun b=>fT (Nat.mul n i.size) os b.cells fun new=>bQ (jG new) (eQ st id fun b2=>nM new od b2.cells fun cs=>nO st id ⟨cs,b2.exact⟩ fun st=>k (.i .i64 n) st) none)=some r:=N
    obtain⟨b,F,N⟩:=rW N
    obtain⟨l,N⟩:=aDd _ _ _ _ N
    obtain⟨g3,N⟩:=eE N
    obtain⟨b2,x',N⟩:=rW N
    obtain⟨g4,N⟩:=aBA _ _ _ _ N
    obtain⟨g5,N⟩:=aDi N
    obtain⟨p,q,c,L,O,c9,_⟩:=v'.inv_sl
    obtain⟨p2,q2,c2,b0,U,c3,_⟩:=hd.inv_sl
    injection O with b1 e3 b3
    injection U with b4 e4 b5
    subst b1 b3 b4 b5
    obtain⟨S,s',o,j',cells,el,W,hsz,A,Z,_⟩:=hs.blkc is b F
    obtain⟨rfl,rfl⟩:S=p/\s'=q:=by rw[L]at o;injection o with o;injection o with O U;exact⟨O.symm,U.symm⟩
    have l:os+n*i.size<=b.cells.length:=l
    have C:=(Z.drop os).take (n*i.size)
    have M:(((cells.toList.take b.cells.length).drop os).take (n*i.size)).length=n*i.size:=by simp;omega
    have I:∀j u,(((cells.toList.take b.cells.length).drop os).take (n*i.size))[j]? =some u->w.cell? ((⟨S,os,none⟩:bRb).add j)=some u:=fun j u D=>by
     rw[pL,yI W]
     rw[bKY]at D
     split at D
     ·rw[bLf,bKY]at D
      split at D
      ·simpa using D
      ·cases D
     ·cases D
    have b6:=run_firstCells_some (P:=P) w i.size n ⟨S,os,none⟩ ls cs _ M I
    obtain⟨w',hr,_,hg⟩:=aDf (P:=P) hs x' g5 b0 C g3 g4
    refine⟨n,_,N,w',fun G ty r'=> ?_,hg⟩
    have b7:min ls ld=n:=hN
    simp [bm,r',fC hu,bf,b7,sizeOf,typeInfo,hc.info,b6,goInt]
    rw[hr];rfl
end
section
abbrev FI:=List Nat×Nat
abbrev rR:=aT->St->(eD->aT->St->OR)->OR
abbrev IH:=FI->Code->rR
abbrev cN:=Nat->Option (List AV->St->KS->OR)
def bHM(o:bRa):List Nat:=o.op.operands.toList.filterMap fun | .tmp t=>some t|_=>none
def aL8:List bRa->List Nat->List Nat->List Nat
 | [],_,out=>out
 |o::l,wr,out=>aL8 l (match o.dst with |some d=>d::wr|none=>wr) ((bHM o).foldl (fun out t=>if wr.elem t||out.elem t then out else t::out) out)
def wL:Code->List Nat->List Nat
 | .region _ h _,out=>aL8 h.toList [] out
 | .seq a b,out=>wL b (wL a out)
 | .cond x a b,out=>wL b (wL a (match x with | .tmp t=>if out.elem t then out else t::out|_=>out))
 | .block _ c,out=>wL c out
 | .loop c,out=>wL c out
 | .scope c,out=>wL c out
 |_,out=>out
def nJ(fn:Func)(c:Code):List Nat:=fn.results.toList.foldl (fun out r=>match r with | .tmp t=>t::out| .cell t _=>t::out) (wL c (bKj 16))
def iN(U:List Nat):List bRa->List Nat
 | []=>[]
 |o::l=>match o.dst with |some d=>if U.elem d then d::iN U l else iN U l|none=>iN U l
def lN(N:Nat):List bRa->Bool
 | []=>true
 |o::l=>match o.dst with |some d=>Nat.ble (Nat.succ d) N&&lN N l|none=>lN N l
section
variable (P:bR8)(pr:cN)
def uI:List AV->Nat->aT:=List.rec (fun _=> .nil) (fun a _ ih n=> .cons n a (ih (Nat.succ n)))
def aHa(t:bR5)(st:St)(y:AV)(k:KA):OR:=lE y fun id off=>eQ st id fun b=>oQ P t off b.cells k
def aEm:ResultVar->aT->St->KA->OR:=ResultVar.rec (fun t V _ k=>V.vget t k) (fun a t=>Bool.rec (fun _ _ _=>none) (fun V st k=>V.vget a fun y=>aHa P t st y k) (dG P t))
def wS:List ResultVar->aT->St->(List AV->OR)->OR:=
 List.rec (fun _ _ k=>k []) (fun x _ ih V st k=>aEm P x V st fun a=>ih V st fun l=>k (a::l))
def nR(l:List AV):AV:=List.rec (.tup []) (fun a m _=>List.rec a (fun b n _=> .tup (a::b::n)) m) l
def aKY(rs:List ResultVar)(k:KS):eD->aT->St->OR:=eD.rec (fun V st=>wS P rs V st fun l=>k (nR l) st) (fun _ _ _=>none) (fun V st=>wS P rs V st fun l=>k (nR l) st)
def aH9(U:FI)(c:Code)(rs:List ResultVar):IH->List AV->St->KS->OR:=fun ih args st k=>bQ (Nat.ble (lV args) 16) (bQ (Nat.ble (lV args) U.2) (ih U c (uI args 0) st (aKY P rs k)) none) none
def wY:Option Func->IH->List AV->St->KS->OR:=
 Option.rec (fun _ _ _ _=>none) (fun fn=>Option.rec (fun _ _ _ _=>none) (fun c=>aH9 P (nJ fn c,fn.ntmps) c fn.results.toList) fn.body)
def eN(f:Nat):IH->List AV->St->KS->OR:=Option.rec (wY P (P.funcs[f]?)) (fun p _=>p) (pr f)
def bIh(args:Array bR7)(g:bR7):IH->dT:=fun ih L V st k=>cF g L V fun g=>jH args.toList L V fun aa=>asF g fun f first cap=>eN P pr f ih (lU (lU first aa) cap) st k
def aUX(b:Builtin)(args:Array bR7)(j:Array bR5):dT:=fun L V st k=>jH args.toList L V fun l=>rI P b j l st k
def clK(c:Call):IH->dT:=Callee.rec (fun g=>bIh P pr c.args g) (fun _ _ _ _ _ _ _=>none) (fun b _=>aUX P b c.args c.argTypes) c.callee
def kH:IH->dT:=fun _ _ _ _ _=>none
def pu(s:dT):IH->dT:=fun _=>s
def dD:Op->IH->dT:=
 Op.rec (fun x=>pu (aGP x)) (fun x=>pu (aGP x)) (fun c a b=>pu (aUg c a b)) (fun e=>pu (aGw P e)) (fun _ x=>pu (aUD x)) (fun t ps=>pu (aGd P t ps)) (fun t n ps=>pu (aGV P t n ps))
  (fun _ _ _ _=>kH) (fun t a=>pu (yW P t a)) (fun t a x=>pu (aCc P t a x)) (fun _=>kH) (fun _=>kH) (fun x=>pu (aUR x)) (fun op t x y _=>pu (aAL P op t x y)) (fun op _ x=>pu (aU0 op x)) (fun s d x=>pu (aGQ P s d x))
  (fun _ _=>kH) (fun _ _=>kH) (fun f a b=>pu (mfK f a b)) (fun _ _=>kH) (fun _ _=>kH) (fun t l c=>pu (aCR P t l c)) (fun t x lo q mx=>pu (uA P t x lo q mx)) (fun s x f=>pu (aEj P s x f)) (fun t x f=>pu (aH2 P t x f)) (fun t x ix=>pu (aEq P t x ix)) (fun t x ix=>pu (aHp P t x ix))
  (fun _ _ _ _=>kH) (fun _ _ _ _=>kH) (fun _ _ _=>kH) (fun _ _ _ _=>kH) (fun _ _=>kH) (fun _ _=>kH) (fun _=>kH) (fun _ _ _ _=>kH) (fun x i=>pu (aUr x i)) (fun c=>clK P pr c)
  (fun _=>kH) (fun _=>kH) (fun _=>kH) (fun _ _=>kH) (fun _ _ _=>kH) (fun _ _=>kH)
abbrev xH:=aT->aT->St->(aT->St->OR)->OR
def gA:Option Tmp->AV->aT->aT:=Option.rec (fun _ L=>L) (fun d a L=> .cons d a L)
def aBe(d:Option Tmp)(want:Bool):aT->aT->OR->OR->OR:=Option.rec (fun _ _ _ _=>none) (fun d L V y n=>L.lget V d fun a=>aL1 a n fun x=>Bool.rec n y (uQ x want)) d
def aGK(o:bRa)(s:IH->dT)(rest:IH->xH):IH->xH:=fun ih L V st k=>s ih L V st fun a st=>rest ih (gA o.dst a L) V st k
def aKL(o:bRa)(rest:IH->xH):IH->xH:=fun ih L V st k=>rest ih (gA o.dst .u L) V st k
def bGa(all:Array bRa)(o:bRa)(s rest:IH->xH):IH->xH:=Option.rec s (fun p ih L V st k=>aBe ((all[p.1]?).bind (·.dst)) p.2 L V (s ih L V st k) (aKL o rest ih L V st k)) o.guard
def lS(all:Array bRa):List bRa->IH->xH:=List.rec (fun _ L _ st k=>k L st) (fun o _ rest=>bGa all o (aGK o (dD P pr o.op) rest) rest)
def aE2:List Nat->aT->aT->(aT->OR)->OR:=List.rec (fun _ V k=>k V) (fun t _ ih L V k=>L.lget .nil t fun a=>ih L (aT.vset t a V) k)
def zO(keep:List Nat)(V:aT)(k:eD->aT->St->OR)(L:aT)(st:St):OR:=aE2 keep L V fun V=>k .normal V st
def aGp(U:FI)(h:Array bRa):IH->rR:=Bool.rec (fun _ _ _ _=>none) (fun ih V st k=>lS P pr h h.toList ih .nil V st (zO (iN U.1 h.toList) V k)) (lN U.2 h.toList)
end
end
section
variable {r:AV×St}{P:bR8}{Γ:aP}
theorem aIx{l:List AV}{k:KA}(h:rN l k=some r):∃a,l=[a]/\k a=some r:=by
 cases l with
 |nil=>cases h
 |cons a l=>cases l with
  |nil=>exact⟨a,rfl,h⟩
  |cons=>cases h
theorem aMV{l:List AV}{k:AV->AV->OR}(h:wN l k=some r):∃a b,l=[a,b]/\k a b=some r:=by
 cases l with
 |nil=>cases h
 | cons a l=>cases l with
  |nil=>cases h
  |cons b l=>cases l with
   |nil=>exact⟨a,b,rfl,h⟩
   |cons=>cases h
theorem bW.inv1{a:AV}{vs:List bR4}(h:bW Γ [a] vs):∃v,vs=[v]/\CR Γ a v:=by
 cases h with |cons h t=>cases t;exact⟨_,rfl,h⟩
theorem bW.inv2{a b:AV}{vs:List bR4}(h:bW Γ [a,b] vs):∃v u,vs=[v,u]/\CR Γ a v/\CR Γ b u:=by
 cases h with |cons h t=>cases t with |cons h2 t=>cases t;exact⟨_,_,rfl,h,h2⟩
theorem aOB{k:bR6}{x y:AV}{vx vy:bR4}(D:aB3 k x)(hx:CR Γ x vx)(F:CR Γ y vy){c:KA}{f g:Nat->Nat->Bool}{pm mp:Bool}{q:Int->Int->Bool}
  (h1:∀a b:Nat,q a b=f a b) (h2:∀a b:Nat,q a (Int.negSucc b)=pm) (H:∀a b:Nat,q (Int.negSucc a) b=mp) (h4:∀a b:Nat,q (Int.negSucc a) (Int.negSucc b)=g a b)
  (h:uV f g pm mp k x y c=some r):∃m n,vx= .int k m/\vy= .int k n/\c (.b (q m n))=some r:=by
 obtain⟨m,n,rfl,rfl,h⟩:=aDn D hx F h
 refine⟨m,n,rfl,rfl, ?_⟩
 rcases h with ⟨a,b,rfl,rfl,h⟩|⟨a,b,rfl,rfl,h⟩|⟨a,b,rfl,rfl,h⟩|⟨a,b,rfl,rfl,h⟩
 ·rw[h1];exact h
 ·rw[h2];exact h
 ·rw[H];exact h
 ·rw[h4];exact h
theorem aR9(a b:Nat):decide (Int.negSucc a<=Int.negSucc b)=Nat.ble b a:=by rw[bKh];simp;omega
theorem bD5{ki:bR6}{x y:AV}{vx vy:bR4}(D:aB3 ki x)(hx:CR Γ x vx)(F:CR Γ y vy){c:KA}(h:iOp .geq ki x y c=some r):∃m n,vx= .int ki m/\vy= .int ki n/\c (.b (decide (m≥n)))=some r:=
 aOB D hx F (q:=fun m n=>decide (m≥n)) (fun a b=>aBU b a) (fun a b=>by simp;omega) (fun a b=>by simp;omega) (fun a b=>aR9 b a) h
theorem bEm{ki:bR6}{x y:AV}{vx vy:bR4}(D:aB3 ki x)(hx:CR Γ x vx)(F:CR Γ y vy){c:KA}(h:iOp .leq ki x y c=some r):∃m n,vx= .int ki m/\vy= .int ki n/\c (.b (decide (m<=n)))=some r:=
 aOB D hx F (q:=fun m n=>decide (m<=n)) aBU (fun a b=>by simp;omega) (fun a b=>by simp;omega) aR9 h
theorem aPi{op:BinOp}{l:List AV}{k:KA}{vs:List bR4}(hc:bW Γ l vs)(h:mmK op l k=some r):
  ∃ki x y vx vy,l=[x,y]/\vs=[vx,vy]/\aB3 ki x/\CR Γ x vx/\CR Γ y vy/\iOp op ki x y (fun t=>oU t fun t=>k (Bool.rec y x t))=some r:=by
 unfold mmK at h
 split at h
 ·rename_i x y
  obtain⟨v,u,rfl,h1,h2⟩:=hc.inv2
  rcases aJk h with ⟨ki,n,rfl,h'⟩|⟨ki,n,rfl,h'⟩
  ·exact⟨ki,_,_,_,_,rfl,rfl,.inl ⟨n,rfl⟩,h1,h2,h'⟩
  ·exact⟨ki,_,_,_,_,rfl,rfl,.inr ⟨n,rfl⟩,h1,h2,h'⟩
 ·cases h
theorem bCW(b:Builtin)(args:Array bR7)(j:Array bR5)(_at:Array bR5):iL P (aUX P b args j) (.call ⟨.builtin b,args,j⟩):=fun {L V st k r Γ a w o} T h hs J=>by
 obtain⟨l,hc,h⟩:=aFb hs.glob J h
 have A:(args.map a.eval)=((args.toList.map a.eval)).toArray:=by apply bLB;simp
 have B:∀v w',(∀ty cs,(builtin b j ty cs (args.map a.eval)).run P w= .ok (.value v) w')->(execOp a.eval o).run P w= .ok (.value v) w':=fun v w' I=>by
  simp only[execOp,T,resolve,au,az,ba,invoke,I]
 cases b with
 | len=>
  cases C:j[0]? with
  |none=>unfold rI at h;rw[C]at h;cases h
  |some t=>
   unfold rI at h;rw[C]at h
   obtain⟨y,rfl,h2⟩:=aIx (h:rN l (fun y=>wM P t y fun v=>k v st)=some r)
   obtain⟨v,I,F⟩:=hc.inv1
   obtain⟨n,H,hr⟩:=aYM (P:=P) F h2
   refine⟨_,st,H,.pure hs (B (.int .i64 n) w fun ty cs=> ?_) (.i _ _)⟩
   rw[A,I]
   simp only[builtin,au,hr j ty w C,ba];rfl
 | cap=>
  cases C:j[0]? with
  |none=>unfold rI at h;rw[C]at h;cases h
  |some t=>
   unfold rI at h;rw[C]at h
   obtain⟨y,rfl,h2⟩:=aIx (h:rN l (fun y=>aH4 P t y fun v=>k v st)=some r)
   obtain⟨v,I,F⟩:=hc.inv1
   obtain⟨n,H,hr⟩:=aYt (P:=P) F h2
   refine⟨_,st,H,.pure hs (B (.int .i64 n) w fun ty cs=> ?_) (.i _ _)⟩
   rw[A,I]
   simp only[builtin,au,hr j ty w C,ba];rfl
 | clear=>
  cases C:j[0]? with
  |none=>unfold rI at h;rw[C]at h;cases h
  | some t=>
   unfold rI at h;rw[C]at h
   obtain⟨y,rfl,h2⟩:=aIx (h:rN l (fun y=>aHf P t y st k)=some r)
   obtain⟨v,I,F⟩:=hc.inv1
   obtain⟨st',H,w',hr,W⟩:=aYL (P:=P) hs F h2
   refine⟨_,st',H,fun Q K N=> ?_⟩
   have hx:=B (.tuple #[]) w' fun ty cs=>by
    rw[A,I]
    simp only[builtin,au,hr j ty C,ba];rfl
   unfold Oper.wp
   rw[hx]
   exact N _ w' Γ W (.tup .nil)
 | copy=>
  cases C:j[0]? with
  |none=>unfold rI at h;rw[C]at h;cases h
  | some t=>
   unfold rI at h;rw[C]at h
   obtain⟨d,s,rfl,h2⟩:=aMV (h:wN l (fun d s=>pZ P t d s st k)=some r)
   obtain⟨vd,vs,I,hd,q'⟩:=hc.inv2
   obtain⟨n,st',H,w',hr,W⟩:=aZm (P:=P) hs hd q' h2
   refine⟨_,st',H,fun Q K N=> ?_⟩
   have hx:=B (.int .i64 n) w' fun ty cs=>by
    rw[A,I]
    simp only[builtin,au,hr j ty C,ba];rfl
   unfold Oper.wp
   rw[hx]
   exact N _ w' Γ W (.i _ _)
 | append =>
  obtain⟨s,x,rfl,h0⟩:=aMV (h:wN l (fun s x=>aHh P j.toList s x st k)=some r)
  clear h
  have h:=h0
  clear h0
  obtain⟨vs,vx,I,h1,h2⟩:=hc.inv2
  cases M:j.toList with
  |nil=>rw[M]at h;cases h
  | cons t l1=>cases l1 with
   |nil=>rw[M]at h;cases h
   | cons u l2=>cases l2 with
    |cons=>rw[M]at h;cases h
    | nil =>
     rw[M]at h
     have h:(Option.rec (motive:=fun _=>AV->AV->St->KS->OR) (Bool.rec (motive:=fun _=>AV->AV->St->KS->OR) (fun _ _ _ _=>none) (aEr P t) (yT P u)) (fun _=>pU P t) (cW P u)) s x st k=some r:=h
     cases hu:cW P u with
     | none=>
      rw[hu]at h
      have h:(Bool.rec (motive:=fun _=>AV->AV->St->KS->OR) (fun _ _ _ _=>none) (aEr P t) (yT P u)) s x st k=some r:=h
      cases hi:yT P u with
      |false=>rw[hi]at h;cases h
      | true=>
       rw[hi]at h
       obtain⟨kn,r'⟩:=aWp hi
       have h:(Option.rec (motive:=fun _=>AV->AV->St->KS->OR) (fun _ _ _ _=>none) (fun e=>Bool.rec (motive:=fun _=>AV->AV->St->KS->OR) (fun _ _ _ _=>none) (Option.rec (motive:=fun _=>AV->AV->St->KS->OR) (fun _ _ _ _=>none) (fun z=>aCn (aY P e) z.cells) (iK P e)) (dN P e)) (cW P t)) s x st k=some r:=h
       cases C:cW P t with
       |none=>rw[C]at h;cases h
       | some e=>
        rw[C]at h
        have h:(Bool.rec (motive:=fun _=>AV->AV->St->KS->OR) (fun _ _ _ _=>none) (Option.rec (motive:=fun _=>AV->AV->St->KS->OR) (fun _ _ _ _=>none) (fun z=>aCn (aY P e) z.cells) (iK P e)) (dN P e)) s x st k=some r:=h
        cases G:dN P e with
        |false=>rw[G]at h;cases h
        | true=>
         rw[G]at h
         have h:(Option.rec (motive:=fun _=>AV->AV->St->KS->OR) (fun _ _ _ _=>none) (fun z=>aCn (aY P e) z.cells) (iK P e)) s x st k=some r:=h
         cases hz:iK P e with
         |none=>rw[hz]at h;cases h
         | some z=>
          rw[hz]at h
          obtain⟨i,zv,E⟩:=aBx G hz
          have h:aCn (aY P e) z.cells s x st k=some r:=h
          rw[E.szOf]at h
          obtain⟨av,st',h,X⟩:=aXk hs (rU C) E r' h1 h2 h
          refine⟨av,st',h,fun Q K N=> ?_⟩
          obtain⟨v,w',Γ',g1,g2,g3⟩:=X o.type
          have b':j= #[t,u]:=by apply bLB;simpa using M
          unfold Oper.wp
          have:(execOp a.eval o).run P w= .ok (.value v) w':=by
           simp only[execOp,T,resolve,au,az,ba,invoke,builtin]
           rw[A,I,b',g1];rfl
          rw[this]
          exact N v w' Γ' g2 g3
     | some e'=>
      rw[hu]at h
      have h:(Option.rec (motive:=fun _=>AV->AV->St->KS->OR) (fun _ _ _ _=>none) (fun e=>Bool.rec (motive:=fun _=>AV->AV->St->KS->OR) (fun _ _ _ _=>none) (wH (aY P e)) (dN P e)) (cW P t)) s x st k=some r:=h
      cases C:cW P t with
      |none=>rw[C]at h;cases h
      | some e=>
       rw[C]at h
       have h:(Bool.rec (motive:=fun _=>AV->AV->St->KS->OR) (fun _ _ _ _=>none) (wH (aY P e)) (dN P e)) s x st k=some r:=h
       cases G:dN P e with
       |false=>rw[G]at h;cases h
       | true=>
        rw[G]at h
        have hz:∃z,iK P e=some z:=by
         unfold dN at G
         split at G
         ·exact⟨_,by assumption⟩
         ·cases G
        obtain⟨z,hz⟩:=hz
        obtain⟨i,zv,E⟩:=aBx G hz
        have h:wH (aY P e) s x st k=some r:=h
        rw[E.szOf]at h
        obtain⟨av,st',h,X⟩:=aWZ hs (rU C) E (rU hu) h1 h2 h
        refine⟨av,st',h,fun Q K N=> ?_⟩
        obtain⟨v,w',Γ',g1,g2,g3⟩:=X o.type
        have b':j= #[t,u]:=by apply bLB;simpa using M
        unfold Oper.wp
        have:(execOp a.eval o).run P w= .ok (.value v) w':=by
         simp only[execOp,T,resolve,au,az,ba,invoke,builtin]
         rw[A,I,b',g1];rfl
        rw[this]
        exact N v w' Γ' g2 g3
 | max=>
  obtain⟨ki,x,y,vx,vy,rfl,I,D,hx,F,h0⟩:=aPi (op:= .geq) (k:=fun v=>k v st) (r:=r) hc h
  obtain⟨m,n,rfl,rfl,h1⟩:=bD5 D hx F h0
  clear h h0
  have h:k (Bool.rec (motive:=fun _=>AV) y x (decide (m≥n))) st=some r:=h1
  refine⟨_,st,h,.pure hs (B (.int ki (if n>m then n else m)) w fun ty cs=> ?_) ?_⟩
  ·rw[A,I]
   simp [builtin,Builtin.max_,Builtin.max2]
  ·by_cases O:m≥n
   ·rw[ak O,if_neg (by omega)];exact hx
   ·rw[ai O,if_pos (by omega)];exact F
 | min=>
  obtain⟨ki,x,y,vx,vy,rfl,I,D,hx,F,h0⟩:=aPi (op:= .leq) (k:=fun v=>k v st) (r:=r) hc h
  obtain⟨m,n,rfl,rfl,h1⟩:=bEm D hx F h0
  clear h h0
  have h:k (Bool.rec (motive:=fun _=>AV) y x (decide (m<=n))) st=some r:=h1
  refine⟨_,st,h,.pure hs (B (.int ki (if n<m then n else m)) w fun ty cs=> ?_) ?_⟩
  ·rw[A,I]
   simp [builtin,Builtin.min_,Builtin.min2]
  ·by_cases O:m<=n
   ·rw[ak O,if_neg (by omega)];exact hx
   ·rw[ai O,if_pos (by omega)];exact F
 |_=>cases h
def mF(P:bR8):Prop:=∀f fn,P.funcs[f]? =some fn->fn.body≠none->∀args w,(callFunc f args).run P w= .ok (.enter f args) w
def aJi(P:bR8)(f:FuncId)(vs:Array bR4)(st:St)(Γ:aP)(w:bR3)(k:KS)(r:AV×St):Prop:=
 ∀R:Ending->bR3->Prop,(∀av st' v w' Γ',k av st'=some r->dH st Γ w st' Γ' w'->CR Γ' av v->R (.returned v) w')->Calls P f vs w R
def aAR(P:bR8)(f:FuncId)(s:List AV->St->KS->OR):Prop:=
 ∀ {args:List AV} {st:St} {k:KS} {r:AV×St} {Γ:aP} {w:bR3} {vs:List bR4},s args st k=some r->dQ st Γ w->bW Γ args vs->aJi P f vs.toArray st Γ w k r
def lH(P:bR8)(pr:cN):Prop:=∀f p,pr f=some p->(∃fn,P.funcs[f]? =some fn/\fn.body≠none)/\aAR P f p
def aKS(P:bR8)(s:dT)(op:Op):Prop:=
 ∀ {L V:aT} {st:St} {k:KS} {r:AV×St} {Γ:aP} {a:Act} {w:bR3} {o:bRa},o.op=op->s L V st k=some r->dQ st Γ w->fJ Γ L V a.tmps->
  ∀(Q:Exit->Act->bR3->Prop) (K:Act->bR3->Prop),(∀av st' v w' Γ',k av st'=some r->dH st Γ w st' Γ' w'->CR Γ' av v->K (a.put o.dst v) w')->o.wp P a w K Q
theorem jX{s:dT}{op:Op}(h:iL P s op):aKS P s op:=fun T D hs J Q K N=>by
 obtain⟨av,st',h1,h2⟩:=h T D hs J
 exact h2 Q K fun v w' Γ' W hc=>N av st' v w' Γ' h1 W hc
def aUH:eD->Exit
 | .normal=> .normal
 | .exit id=> .exit id
 | .ret=> .ret
def aAM(V:aT)(U:List Nat):Prop:=∀t a,V.find t=some a->t∈U
def bAD(P:bR8)(c:Code)(U:FI)(a:Act)(st:St)(Γ:aP)(w:bR3)(k:eD->aT->St->OR)(r:AV×St):Prop:=
 ∀Q:Exit->Act->bR3->Prop,(∀o V' st' a' w' Γ',k o V' st'=some r->aAM V' U.1->dH st Γ w st' Γ' w'->fJ Γ' .nil V' a'.tmps->a'.tmps.size=a.tmps.size->a'.defers=a.defers->Q (aUH o) a' w')->c.wp P Q a w
def aGc(P:bR8)(U:FI)(c:Code)(s:rR):Prop:=
 ∀ {V:aT} {st:St} {k:eD->aT->St->OR} {r:AV×St} {Γ:aP} {a:Act} {w:bR3},s V st k=some r->dQ st Γ w->fJ Γ .nil V a.tmps->aAM V U.1->U.2<=a.tmps.size->bAD P c U a st Γ w k r
def pX(P:bR8)(ih:IH):Prop:=∀U c,aGc P U c (ih U c)
theorem aIQ{V:aT}{tmps:Array bR4}(h:fJ Γ .nil V tmps){t:Nat}{a:AV}(C:V.find t=some a):t<tmps.size/\CR Γ a (tmps.getD t undef):=h t a C
def aDt(tmps:Array bR4):ResultVar->Sem bR4
 | .tmp t=>pure (tmps.getD t undef)
 | .cell a t=>do loadVar t (←asAddr (tmps.getD a undef))
theorem aZb{st:St}{V:aT}(x:ResultVar){k:KA}(h:aEm P x V st k=some r):
  ∃av,k av=some r/\∀(Γ:aP) (w:bR3) (tmps:Array bR4),dQ st Γ w->fJ Γ .nil V tmps->∃u,CR Γ av u/\(aDt tmps x).run P w= .ok u w:=by
 cases x with
 |tmp t=>
  obtain⟨y,h1,h2⟩:=aT.vget_spec V t (h:V.vget t k=some r)
  exact⟨y,h2,fun Γ w tmps hs J=>⟨_,(aIQ J h1).2,rfl⟩⟩
 | cell a t=>
  have h:(Bool.rec (motive:=fun _=>aT->St->KA->OR) (fun _ _ _=>none) (fun V st k=>V.vget a fun y=>aHa P t st y k) (dG P t)) V st k=some r:=h
  cases D:dG P t with
  |false=>rw[D]at h;cases h
  |true=>
   rw[D]at h
   obtain⟨y,h1,h2⟩:=aT.vget_spec V a (h:V.vget a (fun y=>aHa P t st y k)=some r)
   obtain⟨id,off,rfl,H⟩:=xW h2
   obtain⟨b,t',H⟩:=rW H
   obtain⟨av,H,h4⟩:=aII H
   refine⟨av,H,fun Γ w tmps hs J=> ?_⟩
   obtain⟨p,s,X,e⟩:=((aIQ J h1).2).inv_ptr
   obtain⟨p',s',Y,c',cs,el,hw,hsz,k',hc,_⟩:=hs.blkc id b t'
   obtain⟨rfl,rfl⟩:p'=p/\s'=s:=by rw[X]at Y;injection Y with Y;injection Y with e1 e2;exact⟨e1.symm,e2.symm⟩
   obtain⟨u,g1,g3⟩:=aLH (P:=P) D hw (by omega) hc h4
   exact⟨u,g1,by simp only[aDt,e,asAddr,au,az,ba,g3]⟩
theorem aY5{st:St}{V:aT}:∀(l:List ResultVar) {k:List AV->OR},wS P l V st k=some r->
  ∃aS,k aS=some r/\∀(Γ:aP) (w:bR3) (tmps:Array bR4),dQ st Γ w->fJ Γ .nil V tmps->∃us,bW Γ aS us/\(l.mapM (aDt tmps)).run P w= .ok us w:=by
 intro l
 induction l with
 |nil=>intro k h;exact⟨[],h,fun Γ w tmps hs J=>⟨[],.nil,by simp⟩⟩
 |cons x l ih=>
  intro k h
  obtain⟨av,h1,h2⟩:=aZb x (h:aEm P x V st (fun a=>wS P l V st fun l=>k (a::l))=some r)
  obtain⟨aS,H,h4⟩:=ih h1
  refine⟨av::aS,H,fun Γ w tmps hs J=> ?_⟩
  obtain⟨u,g1,g2⟩:=h2 Γ w tmps hs J
  obtain⟨us,g3,g4⟩:=h4 Γ w tmps hs J
  exact⟨u::us,.cons g1 g3,by simp [bMY,g2,g4]⟩
theorem aWh{fn:Func}{tmps:Array bR4}{us:List bR4}{w:bR3}(h:(fn.results.toList.mapM (aDt tmps)).run P w= .ok us w):(results fn tmps).run P w= .ok (if h:us.toArray.size=1 then us.toArray[0]else .tuple us.toArray) w:=by
 have e:results fn tmps=(do let vs ←fn.results.mapM (aDt tmps);pure (if h:vs.size=1 then vs[0]else .tuple vs)):=by
  unfold results
  congr 1
 rw[e]
 simp [Array.mapM_eq_mapM_toList,h]
theorem aYl{aS:List AV}{us:List bR4}(h:bW Γ aS us):CR Γ (nR aS) (if h:us.toArray.size=1 then us.toArray[0]else .tuple us.toArray):=by
 cases h with
 |nil=>exact .tup .nil
 |cons h1 t=>cases t with
  |nil=>exact h1
  |cons h2 t=>exact .tup (.cons h1 (.cons h2 t))
theorem aMA:∀(l:List AV) (n t:Nat) (a:AV),(uI l n).find t=some a->n<=t/\l[t-n]? =some a:=by
 intro l
 induction l with
 |nil=>intro n t a h;cases h
 | cons b l ih=>
  intro n t a h
  have h0:(if n=t then some b else(uI l (n+1)).find t)=some a:=h
  clear h
  split at h0
  ·rename_i e;subst e;exact⟨bJE _,by simpa using h0⟩
  ·obtain⟨h1,h2⟩:=ih (n+1) t a h0
   refine⟨by omega, ?_⟩
   rw[show t-n=(t-(n+1))+1 by omega];simpa using h2
theorem bGO{ih:IH}(S:pX P ih){f:FuncId}{fn:Func}(hf:P.funcs[f]? =some fn):aAR P f (wY P (some fn) ih):=fun {args st k r Γ w vs} h hs hc=>by
 have h:(Option.rec (motive:=fun _=>IH->List AV->St->KS->OR) (fun _ _ _ _=>none) (fun c=>aH9 P (nJ fn c,fn.ntmps) c fn.results.toList) fn.body) ih args st k=some r:=h
 cases hb:fn.body with
 |none=>rw[hb]at h;cases h
 | some c=>
  rw[hb]at h
  obtain⟨g1,h⟩:=eE (h:bQ (Nat.ble (lV args) 16) (bQ (Nat.ble (lV args) fn.ntmps) (ih (nJ fn c,fn.ntmps) c (uI args 0) st (aKY P fn.results.toList k)) none) none=some r)
  obtain⟨g2,h⟩:=eE h
  have g1:=bJP g1
  have g2:=bJP g2
  rw[aBZ]at g1 g2
  have k':args.length=vs.length:=hc.length
  have u':fJ Γ .nil (uI args 0) (vs.toArray++bMz (fn.ntmps-vs.toArray.size) undef):=fun t y F=>by
   obtain⟨_,h2⟩:=aMA args 0 t y F
   obtain⟨v,I,v'⟩:=hc.get (by simpa using h2)
   have c':t<vs.length:=(bKv.1 I).1
   refine⟨by simp;omega, ?_⟩
   rw[bM4,Array.getElem?_append_left (by simpa using c')]
   simp only[bMd,I,bLt];exact v'
  have l':∀(l:List ResultVar) (out:List Nat) (t:Nat),t∈out->t∈l.foldl (fun out r=>match r with | .tmp t=>t::out| .cell t _=>t::out) out:=by
   intro l
   induction l with
   |nil=>intro out t h;exact h
   |cons x l ih=>intro out t h;exact ih _ t (by cases x<;>exact bKx _ h)
  have d':∀(l:List bRa) (wr out:List Nat) (t:Nat),t∈out->t∈aL8 l wr out:=by
   intro l
   induction l with
   |nil=>intro wr out t h;exact h
   | cons x l ih=>
    intro wr out t h
    refine ih _ _ t ?_
    have:∀(m:List Nat) (out:List Nat),t∈out->t∈m.foldl (fun out t=>if wr.elem t||out.elem t then out else t::out) out:=by
     intro m
     induction m with
     |nil=>intro out h;exact h
     |cons y m ih=>intro out h;exact ih _ (by dsimp only;split<;>first|exact h|exact bKx _ h)
    exact this _ _ h
  have f':∀(c:Code) (out:List Nat) (t:Nat),t∈out->t∈wL c out:=by
   intro c
   induction c with
   |region id a4 d=>intro out t h;exact d' _ _ _ _ h
   |seq a b g' i'=>intro out t h;exact i' _ _ (g' _ _ h)
   |cond x a b g' i'=>
    intro out t h
    refine i' _ _ (g' _ _ ?_)
    cases x<;>first|exact h|(dsimp only;split<;>first|exact h|exact bKx _ h)
   |block id c ih=>intro out t h;exact ih _ _ h
   |loop c ih=>intro out t h;exact ih _ _ h
   |scope c ih=>intro out t h;exact ih _ _ h
   |_=>intro out t h;exact h
  have hw:aAM (uI args 0) (nJ fn c):=fun t y F=>by
   obtain⟨_,h2⟩:=aMA args 0 t y F
   have c':t<args.length:=by simpa using(bKv.1 h2).1
   exact l' _ _ _ (f' _ _ _ (List.mem_range.2 (by omega)))
  intro R hR
  refine calls_of_wp hf hb (S (nJ fn c,fn.ntmps) c (a:={ tmps:=vs.toArray++bMz (fn.ntmps-vs.toArray.size) undef,defers:=[] }) h hs u' hw (by simp;omega) _ fun o V' st' a' w' Γ' D a5 W x' _ hd=> ?_)
  have m':(o= .normal\/o= .ret)/\wS P fn.results.toList V' st' (fun l=>k (nR l) st')=some r:=by
   cases o with
   |normal=>exact⟨.inl rfl,D⟩
   |exit id=>cases D
   |ret=>exact⟨.inr rfl,D⟩
  obtain⟨T,D⟩:=m'
  obtain⟨aS,q1,q2⟩:=aY5 _ D
  obtain⟨us,q3,q4⟩:=q2 Γ' w' a'.tmps W.sim x'
  have n':a'.defers=[]/\∃v,(results fn a'.tmps).run P w'= .ok v w'/\R (.returned v) w':=⟨hd,_,aWh q4,hR _ _ _ _ _ q1 W (aYl q3)⟩
  rcases T with rfl|rfl
  ·exact n'
  ·exact n'
theorem aPE{pr:cN}(j':lH P pr){ih:IH}(S:pX P ih)(Z:mF P){f:FuncId}{args:List AV}{st:St}{k:KS}(h:eN P pr f ih args st k=some r){w:bR3}(hs:dQ st Γ w){vs:List bR4}(hc:bW Γ args vs):
  aJi P f vs.toArray st Γ w k r/\∀xs w,(callFunc f xs).run P w= .ok (.enter f xs) w:=by
 have h:(Option.rec (motive:=fun _=>IH->List AV->St->KS->OR) (wY P (P.funcs[f]?)) (fun p _=>p) (pr f)) ih args st k=some r:=h
 cases X:pr f with
 |some p=>
  rw[X]at h
  obtain⟨⟨fn,hf,hb⟩,y'⟩:=j' f p X
  exact⟨y' h hs hc,Z f fn hf hb⟩
 | none=>
  rw[X]at h
  have h:wY P (P.funcs[f]?) ih args st k=some r:=h
  cases hf:P.funcs[f]? with
  |none=>rw[hf]at h;cases h
  | some fn=>
   rw[hf]at h
   have hb:fn.body≠none:=fun e=>by
    have h:(Option.rec (motive:=fun _=>IH->List AV->St->KS->OR) (fun _ _ _ _=>none) (fun c=>aH9 P (nJ fn c,fn.ntmps) c fn.results.toList) fn.body) ih args st k=some r:=h
    rw[e]at h;cases h
   exact⟨bGO S hf h hs hc,Z f fn hf hb⟩
theorem bGI{pr:cN}(j':lH P pr){ih:IH}(S:pX P ih)(Z:mF P)(c:Call):aKS P (clK P pr c ih) (.call c):=by
 obtain⟨callee,args,j⟩:=c
 cases callee with
 | value g=>
  intro L V st k r Γ a w o T h hs J Q K N
  obtain⟨vg,W,h⟩:=fR hs.glob J (h:cF g L V _=some r)
  obtain⟨l,hc,h⟩:=aFb hs.glob J h
  obtain⟨f,first,cap,rfl,h'⟩:=bBY h
  obtain⟨va,vb,e,z',a0⟩:=W.inv_fn
  rw[aBW,aBW]at h'
  obtain⟨h2,H⟩:=aPE j' S Z h' hs ((z'.app hc).app a0)
  have hx:(execOp a.eval o).run P w= .ok (.enter f (va.toArray++args.map a.eval++vb.toArray)) w:=by
   simp only[execOp,T,resolve,Deferred.ofValue,e,au,az,ba,invoke,H]
  have o':va.toArray++args.map a.eval++vb.toArray=(va++args.toList.map a.eval++vb).toArray:=by apply bLB;simp
  unfold Oper.wp
  rw[hx,o']
  exact h2 _ fun av st' v w' Γ' D a2 a3=>N av st' v w' Γ' D a2 a3
 |invoke=>intro L V st k r Γ a w o T h;cases h
 |builtin b=>exact jX (bCW b args j j)
theorem aGh{pr:cN}(z:lH P pr){ih:IH}(A:pX P ih)(B:mF P)(op:Op):aKS P (dD P pr op ih) op:=by
 cases op with
 |move x=>exact jX (bBr x)
 |assign x=>exact jX (aWE x)
 |pick c a b=>exact jX (bCK c a b)
 |alloc e=>exact jX (aYp e)
 |box t x=>exact jX (bEy t x)
 |build t ps=>exact jX (aYA t ps)
 |buildSlice t n ps=>exact jX (bDf t n ps)
 |load t a=>exact jX (bCq t a)
 |store t a x=>exact jX (aYn t a x)
 |nilCheck x=>exact jX (bEr x)
 |binOp op t x y u=>exact jX (aYS op t x y u)
 |unOp op t x=>exact jX (bCg op t x)
 |convert s d x=>exact jX (bCv s d x)
 |makeFunc f a b=>exact jX (bGi f a b)
 |makeSlice t l c=>exact jX (bDs t l c)
 |slice t x lo hi mx=>exact jX (aXE t x lo hi mx)
 |fieldAddr s x f=>exact jX (bDe s x f)
 |field t x f=>exact jX (bDU t x f)
 |indexAddr t x ix=>exact jX (bEI t x ix)
 |index t x ix=>exact jX (bDE t x ix)
 |extract x i=>exact jX (bCP x i)
 |call c=>exact bGI z A B c
 |_=>intro L V st k r Γ a w o Z h;cases h
theorem vE{tmps:Array bR4}{d:Nat}(v:bR4)(h:d<tmps.size):(tmps.setIfInBounds d v).getD d undef=v:=by
 rw[bM4,Array.getElem?_setIfInBounds_self_of_lt h];rfl
theorem aLx{tmps:Array bR4}{d t:Nat}(v:bR4)(h:d≠t):(tmps.setIfInBounds d v).getD t undef=tmps.getD t undef:=by
 rw[bM4,Array.getElem?_setIfInBounds_ne h,←bM4]
theorem fJ.put{L V:aT}{a:Act}(h:fJ Γ L V a.tmps){dst:Option Tmp}{av:AV}{v:bR4}(j:∀d,dst=some d->d<a.tmps.size)(hc:CR Γ av v):fJ Γ (gA dst av L) V (a.put dst v).tmps:=by
 cases dst with
 |none=>exact h
 | some d=>
  intro t b G
  have G:(if d=t then some av else L.look V t)=some b:=G
  have O:=j d rfl
  rename_i b'
  clear b'
  split at G
  ·rename_i e
   injection G with G;subst e G
   exact⟨by simpa [Act.put]using O,by simp only[Act.put];rw[vE v O];exact hc⟩
  ·rename_i e
   obtain⟨h1,h2⟩:=h t b G
   exact⟨by simpa [Act.put]using h1,by simp only[Act.put];rw[aLx v e];exact h2⟩
theorem aIJ(a:Act)(dst:Option Tmp)(v:bR4):(a.put dst v).tmps.size=a.tmps.size:=by cases dst<;>simp [Act.put]
theorem aMp(a:Act)(dst:Option Tmp)(v:bR4):(a.put dst v).defers=a.defers:=by cases dst<;>rfl
theorem aNF{L V:aT}{all:Array bRa}{o:bRa}{g:Nat}{want:Bool}(Z:o.guard=some (g,want)){y n:OR}(h:aBe ((all[g]?).bind (·.dst)) want L V y n=some r):
  ∃b:Bool,(if b then y else n)=some r/\∀(Γ:aP) (a:Act),fJ Γ L V a.tmps->Region.wanted o (yielded all a.tmps)=b:=by
 cases j:(all[g]?).bind (·.dst)with
 |none=>rw[j]at h;cases h
 | some d=>
  rw[j]at h
  obtain⟨x,h1,h2⟩:=aT.lget_spec L d (h:L.lget V d (fun a=>aL1 a n fun x=>Bool.rec n y (uQ x want))=some r)
  have hy:∀(Γ:aP) (a:Act),fJ Γ L V a.tmps->∃v,a.tmps[d]? =some v/\CR Γ x v:=fun Γ a q=>by
   obtain⟨D,H⟩:=q d x h1
   refine⟨a.tmps[d],by simp [D], ?_⟩
   have:a.tmps.getD d undef=a.tmps[d]:=by simp [Array.getD,D]
   rw[←this];exact H
  cases x with
  |b t=>
   have h2:Bool.rec (motive:=fun _=>OR) n y (uQ t want)=some r:=h2
   rw[aDQ]at h2
   refine⟨t==want,by cases hh:(t==want)<;>(rw[hh]at h2;simpa using h2),fun Γ a q=> ?_⟩
   obtain⟨v,R,hc⟩:=hy Γ a q
   rw[hc.inv_b]at R
   unfold Region.wanted
   rw[Z]
   show(yielded all a.tmps g==some want)=_
   unfold yielded
   rw[j]
   simp [R]
  |u=>
   refine⟨false,h2,fun Γ a q=> ?_⟩
   obtain⟨v,R,hc⟩:=hy Γ a q
   have:v=undef:=by cases hc;rfl
   rw[this]at R
   unfold Region.wanted
   rw[Z]
   show(yielded all a.tmps g==some want)=_
   unfold yielded
   rw[j]
   simp [R,undef]
  |_=>cases h2
theorem aM8{N:Nat}{o:bRa}{l:List bRa}(h:lN N (o::l)=true):(∀d,o.dst=some d->d<N)/\lN N l=true:=by
 unfold lN at h
 split at h
 ·rename_i d j
  rw[bJI]at h
  exact⟨fun d' e=>by rw[j]at e;injection e with e;subst e;exact bJP h.1,h.2⟩
 ·rename_i j
  exact⟨(fun d' e=>by rw[j]at e;cases e),h⟩
def dstsOf(l:List bRa):List Nat:=l.filterMap (·.dst)
theorem aNU{dst:Option Tmp}{av:AV}{L V:aT}{n:Nat}(h:∀d,dst=some d->d≠n):(gA dst av L).look V n=L.look V n:=by
 cases dst with
 |none=>rfl
 |some d=>
  show(if d=n then some av else L.look V n)=_
  rw[if_neg (h d rfl)]
theorem bCT{pr:cN}(z:lH P pr){ih:IH}(A:pX P ih)(B:mF P){V:aT}{N:Nat}(all:Array bRa):∀(l:List bRa) {L:aT} {st:St} {k:aT->St->OR} {Γ:aP} {a:Act} {w:bR3},lN N l=true->N<=a.tmps.size->lS P pr all l ih L V st k=some r->dQ st Γ w->fJ Γ L V a.tmps->
  ∀Q:Exit->Act->bR3->Prop,(∀L' st' a' w' Γ',k L' st'=some r->(∀n,n ∉ dstsOf l->∀V',L'.look V' n=L.look V' n)->dH st Γ w st' Γ' w'->fJ Γ' L' V a'.tmps->a'.tmps.size=a.tmps.size->a'.defers=a.defers->Q .normal a' w')->wpList P all Q l a w:=by
 intro l
 induction l with
 |nil=>intro L st k Γ a w _ _ h hs q Q S;exact S L st a w Γ h (fun _ _ _=>rfl) (.refl hs) q rfl rfl
 | cons o l c'=>
  intro L st k Γ a w j Y h hs q Q S
  obtain⟨e',f'⟩:=aM8 j
  have g':∀d,o.dst=some d->d<a.tmps.size:=fun d e=>bJK (e' d e) Y
  have T:∀n,n ∉ dstsOf (o::l)->(∀d,o.dst=some d->d≠n)/\n ∉ dstsOf l:=fun n hn=>by
   refine⟨fun d e e2=>hn ?_,fun e=>hn ?_⟩
   ·subst e2;exact bMf.2 ⟨o,by simp,e⟩
   ·obtain⟨x,hx,h'⟩:=bMf.1 e
    exact bMf.2 ⟨x,by simp [hx],h'⟩
  have C:∀av I v w' Γ',lS P pr all l ih (gA o.dst av L) V I k=some r->dH st Γ w I Γ' w'->CR Γ' av v->wpList P all Q l (a.put o.dst v) w':=fun av I v w' Γ' h1 E hc=>
   c' f' (by rw[aIJ];exact Y) h1 E.sim ((q.mono E.sub).put g' hc) Q fun L' st' a' i' Γ'' D H W q4 q5 q6=>S L' st' a' i' Γ'' D (fun n hn V'=>by
    obtain⟨n1,n2⟩:=T n hn
    rw[H n n2 V',aNU n1]) (E.trans W) q4 (by rw[q5,aIJ]) (by rw[q6,aMp])
  have X:aGK o (dD P pr o.op) (lS P pr all l) ih L V st k=some r->Region.wanted o (yielded all a.tmps)=true->wpList P all Q (o::l) a w:=fun h F=>by
   unfold wpList
   rw[if_pos F]
   exact .inl (aGh z A B o.op rfl (h:dD P pr o.op ih L V st (fun a st=>lS P pr all l ih (gA o.dst a L) V st k)=some r) hs q _ _ fun av st' v w' Γ' D H W=>C av st' v w' Γ' D H W)
  have J:aKL o (lS P pr all l) ih L V st k=some r->Region.wanted o (yielded all a.tmps)=false->wpList P all Q (o::l) a w:=fun h F=>by
   unfold wpList
   rw[if_neg (by rw[F];simp)]
   exact C .u st undef w Γ h (.refl hs) .u
  have h:(Option.rec (motive:=fun _=>IH->xH) (aGK o (dD P pr o.op) (lS P pr all l)) (fun p ih L V st k=>aBe ((all[p.1]?).bind (·.dst)) p.2 L V (aGK o (dD P pr o.op) (lS P pr all l) ih L V st k) (aKL o (lS P pr all l) ih L V st k)) o.guard) ih L V st k=some r:=h
  cases E:o.guard with
  |none=>rw[E]at h;exact X h (by unfold Region.wanted;rw[E])
  |some p=>
   rw[E]at h
   obtain⟨b,h1,h2⟩:=aNF E h
   have h2:=h2 Γ a q
   cases b with
   |true=>exact X h1 h2
   |false=>exact J h1 h2
theorem aNz{U:List Nat}:∀ {l:List bRa} {t:Nat},t∈iN U l↔t∈dstsOf l/\t∈U:=by
 intro l
 induction l with
 |nil=>intro t;simp [iN,dstsOf]
 | cons o l ih=>
  intro t
  unfold iN dstsOf
  cases j:o.dst with
  |none=>simp only[List.filterMap_cons,j];exact ih
  | some d=>
   simp only[List.filterMap_cons,j]
   split
   ·rename_i K
    have K:d∈U:=by simpa using K
    rw[bJZ,bJZ,ih]
    constructor
    ·rintro(rfl|⟨h1,h2⟩)
     ·exact⟨.inl rfl,K⟩
     ·exact⟨.inr h1,h2⟩
    ·rintro⟨rfl|h1,h2⟩
     ·exact .inl rfl
     ·exact .inr ⟨h1,h2⟩
   ·rename_i K
    have K:d ∉ U:=by simpa using K
    rw[bJZ,ih]
    constructor
    ·rintro⟨h1,h2⟩;exact⟨.inr h1,h2⟩
    ·rintro⟨rfl|h1,h2⟩
     ·exact absurd h2 K
     ·exact⟨h1,h2⟩
theorem bCj{n:Nat}{a:AV}:∀ {L:aT},L.look .nil n=some a->∀V,L.look V n=some a:=by
 intro L
 induction L with
 |nil=>intro h;cases h
 |cons t b e ih=>intro h V;simp only[aT.look]at h ⊢;split<;>rename_i hh<;>simp only[hh,if_true,if_false]at h<;>first|exact h|exact ih h V
 |del t e ih=>intro h V;simp only[aT.look]at h ⊢;split<;>rename_i hh<;>simp only[hh,if_true,if_false]at h<;>first|cases h|exact ih h V
theorem aWx{L:aT}:∀(ts:List Nat) (V:aT) (k:aT->OR),aE2 ts L V k=some r->
  ∃V',k V'=some r/\∀n b,V'.find n=some b->(n∈ts/\L.look .nil n=some b)\/(n ∉ ts/\V.find n=some b):=by
 intro ts
 induction ts with
 |nil=>intro V k h;exact⟨V,h,fun n b M=> .inr ⟨by simp,M⟩⟩
 | cons t ts ih=>
  intro V k h
  obtain⟨a,h1,h2⟩:=aT.lget_spec L t (h:L.lget .nil t (fun a=>aE2 ts L (aT.vset t a V) k)=some r)
  obtain⟨V',h3,h4⟩:=ih _ k h2
  refine⟨V',h3,fun n b M=> ?_⟩
  rcases h4 n b M with ⟨g1,g2⟩|⟨g1,g2⟩
  ·exact .inl ⟨by simp [g1],g2⟩
  ·rcases aT.find_vset t a V n b g2 with ⟨rfl,rfl⟩|⟨g3,g4⟩
   ·exact .inl ⟨by simp,h1⟩
   ·exact .inr ⟨by simp only[bJZ,not_or];exact⟨fun e=>g3 e.symm,g1⟩,g4⟩
theorem aMY{U:FI}{l:List bRa}{V L:aT}{st:St}{k:eD->aT->St->OR}(h:zO (iN U.1 l) V k L st=some r)(F:aAM V U.1)(hL:∀n,n ∉ dstsOf l->∀V',L.look V' n=aT.nil.look V' n):
  ∃V',k .normal V' st=some r/\aAM V' U.1/\∀Γ tmps,fJ Γ L V tmps->fJ Γ .nil V' tmps:=by
 obtain⟨V',h1,h2⟩:=aWx _ _ _ h
 refine⟨V',h1,fun t b M=> ?_,fun Γ tmps q t b M=> ?_⟩
 ·rcases h2 t b M with ⟨g1,_⟩|⟨_,g2⟩
  ·exact(aNz.1 g1).2
  ·exact F t b g2
 ·rcases h2 t b M with ⟨g1,g2⟩|⟨g1,g2⟩
  ·exact q t b (bCj g2 V)
  ·have:t ∉ dstsOf l:=fun j=>g1 (aNz.2 ⟨j,F t b g2⟩)
   exact q t b (by rw[hL t this V];exact g2)
theorem aYu{pr:cN}(z:lH P pr){ih:IH}(A:pX P ih)(B:mF P)(U:FI)(id:Nat)(m:Array bRa):aGc P U (.region id m false) (aGp P pr U m ih):=fun {V st k r Γ a w} h hs q F Y Q S=>by
 have h:(Bool.rec (motive:=fun _=>IH->rR) (fun _ _ _ _=>none) (fun ih V st k=>lS P pr m m.toList ih .nil V st (zO (iN U.1 m.toList) V k)) (lN U.2 m.toList)) ih V st k=some r:=h
 cases j:lN U.2 m.toList with
 |false=>rw[j]at h;cases h
 |true=>
  rw[j]at h
  refine wp_region_list (bCT z A B m m.toList j Y h hs q Q fun L' st' a' w' Γ' D H W q4 q5 q6=> ?_)
  obtain⟨V',g1,g2,g3⟩:=aMY D F H
  exact S .normal V' st' a' w' Γ' g1 g2 W (g3 Γ' _ q4) q5 q6
end
section
def aH8:List UInt8->List UInt8->Bool
 | [],[]=>true
 |a::l,b::m=>Nat.beq a.toNat b.toNat&&aH8 l m
 |_,_=>false
theorem aNj:∀ {l m:List UInt8},aH8 l m=true->l=m
 | [],[],_=>rfl
 |a::l,b::m,h=>by
  have h:(Nat.beq a.toNat b.toNat&&aH8 l m)=true:=h
  rw[bJI]at h
  rw[UInt8.toNat_inj.1 (bJY h.1),aNj h.2]
 | [],_::_,h=>by cases h
 |_::_,[],h=>by cases h
def eqV:bR4->bR4->Bool
 | .string s,.string t=>aH8 s.data.toList t.data.toList
 | .pointer none,.pointer none=>true
 | .slice none a b,.slice none c d=>Nat.beq a c&&Nat.beq b d
 | .map none,.map none=>true
 | .nilFunc,.nilFunc=>true
 | .nilIface,.nilIface=>true
 |_,_=>false
theorem bBT{x y:bR4}(h:eqV x y=true):x=y:=by
 unfold eqV at h
 split at h
 ·rename_i s t
  have:=aNj h
  obtain⟨s⟩:=s
  obtain⟨t⟩:=t
  rw[show s=t from bLB this]
 ·rfl
 ·simp at h;simp [h]
 ·rfl
 ·rfl
 ·rfl
 ·cases h
def aHl:AV->AV->Bool
 | .b x,.b y=>x==y
 | .i k n,.i l m=>decide (k=l)&&Nat.beq n m
 | .m k n,.m l m=>decide (k=l)&&Nat.beq n m
 | .v x,.v y=>eqV x y
 | .u,.u=>true
 | .se,.se=>true
 | .ptr a n,.ptr b m=>decide (a=b)&&Nat.beq n m
 | .fn (.func f) [] [],.fn (.func g) [] []=>Nat.beq f g
 | .sl a o l none s,.sl b p m none t=>decide (a=b)&&Nat.beq o p&&Nat.beq l m&&Nat.beq s t
 | .sl a o l (some c) s,.sl b p m (some d) t=>decide (a=b)&&Nat.beq o p&&Nat.beq l m&&Nat.beq c d&&Nat.beq s t
 |_,_=>false
def eqL:List AV->List AV->Bool
 | [],[]=>true
 |a::l,b::m=>aHl a b&&eqL l m
 |_,_=>false
def sW:Option cK->Option cK->Bool
 |none,none=>true
 |some a,some b=>eqL a.cells b.cells&&a.exact==b.exact
 |_,_=>false
theorem aYx{a b:AV}(h:aHl a b=true):a=b:=by
 unfold aHl at h
 split at h<;>first|rfl|(cases h;done)|(rw[bBT h];done)|(simp at h;simp [h])
theorem aP0:∀ {l m:List AV},eqL l m=true->l=m
 | [],[],_=>rfl
 |a::l,b::m,h=>by
  have h:(aHl a b&&eqL l m)=true:=h
  rw[bJI]at h
  rw[aYx h.1,aP0 h.2]
 | [],_::_,h=>by cases h
 |_::_,[],h=>by cases h
theorem aOj{a b:Option cK}(h:sW a b=true):a=b:=by
 unfold sW at h
 split at h
 ·rfl
 ·rename_i x y
  rw[bJI]at h
  obtain⟨c,e⟩:=x
  obtain⟨d,f⟩:=y
  have h1:=aP0 h.1
  have h2:e=f:=by simpa using h.2
  subst h1 h2;rfl
 ·cases h
structure dM where
 n0:Nat
 n1:Nat
 hid:List (Nat×Nat)
 wr:List (Nat×Nat)
 rd:Option Id
 h0:Tr
 h1:Tr
 wild:Bool
def kD(o:bRa):List Nat:=(o.after.toList.filter (Region.binds .any)).map (·.on)
def pN(acc:List Nat)(l:List Nat):Nat:=l.foldl (fun s e=>Nat.lor s (Nat.lor (Nat.pow 2 e) (acc.getD e 0))) 0
def dL:List bRa->List Nat->List Nat
 | [],acc=>acc
 |o::l,acc=>dL l (acc++[pN acc (kD o)])
def gC(ms:List Nat)(i j:Nat):Bool:=if i<j then(ms.getD j 0).testBit i else(ms.getD i 0).testBit j
structure gQ where
 un:List Bool
 del:List Nat
 adr:List Nat
 tot:Bool
def tE:Op->Option (bR5×bR7×bR7)
 | .store t a x=>some (t,a,x)
 |_=>none
def bHe(w:List bRa)(ms:List Nat)(i:Nat):List Nat:=
 (bKj w.length).filterMap fun m=>if i<m&& !gC ms i m then(match (w[m]?).bind (fun o=>tE o.op)with |some (_,.tmp t,_)=>if (w.filterMap (·.dst)).elem t then none else some t|_=>none)else none
def eT:Op->Option (Option bR7)
 | .move _=>some none
 | .assign _=>some none
 | .pick _ _ _=>some none
 | .alloc _=>some none
 | .box _ _=>some none
 | .build _ _=>some none
 | .buildSlice _ _ _=>some none
 | .load _ a=>some (some a)
 | .nilCheck _=>some none
 | .binOp _ _ _ _ _=>some none
 | .unOp _ _ _=>some none
 | .makeFunc _ _ _=>some none
 | .slice _ _ _ _ _=>some none
 | .fieldAddr _ _ _=>some none
 | .field _ _ _=>some none
 | .indexAddr _ _ _=>some none
 | .index _ _ _=>some none
 | .extract _ _=>some none
 | .call ⟨.builtin .len,_,_⟩=>some none
 | .convert _ _ _=>some none
 |_=>none
def wT(w:List bRa)(i:Nat):Bool:=match w[i]? with |some o=>(eT o.op).isSome|none=>false
def bIm(w:List bRa)(i:Nat):Bool:=match w[i]? with |some o=>(match o.op with | .call ⟨.value _,_,_⟩=>true|_=>false)|none=>false
def bJd(w:List bRa)(i:Nat):Bool:=match w[i]? with |some o=>(tE o.op).isSome|none=>false
def ldB(w:List bRa)(i:Nat):Bool:=match w[i]? with |some o=>(match o.op with | .load _ _=>true|_=>false)|none=>false
def iD(ext:Bool)(w:List bRa)(ms:List Nat)(i:Nat):gQ:=
 { un:=(bKj i).reverse.map fun j=> !gC ms j i
   del:=(bKj w.length).filterMap fun m=>if m != i&& !gC ms m i then(w[m]?).bind (·.dst)else none
   adr:=bHe w ms i
   tot:= !(ext&&bIm w i)&& !(bJd w i&&(bKj w.length).any fun m=>ldB w m&& !gC ms m i&& !gC ms i m)&&(!wT w i&&(bKj w.length).all fun m=>m==i||gC ms m i||wT w m) }
def gP(ext:Bool)(w:List bRa):List (bRa×gQ):=w.zip ((bKj w.length).map (iD ext w (dL w [])))
def eS(w:List bRa):Bool:=
 let ms:=dL w []
 (bKj w.length).all fun i=>match w[i]? with
  |some o=>(kD o).all (fun m=>m<i)&&(match o.guard with |some (g,_)=>(kD o).elem g|none=>true)&&
   (bKj i).all fun j=>gC ms j i||o.dst.isNone||o.dst != (w[j]?).bind (·.dst)
  |none=>false
def rE(l m:List (Nat×Nat)):List (Nat×Nat):=List.rec m (fun a _ ih=>a::ih) l
def wW(r:dM)(l:List (Nat×Nat)):List (Nat×Nat):=rE r.wr (Bool.rec ((r.n0,r.n1)::l) l (Nat.ble r.n1 r.n0))
def cH:List Bool->List dM->List (Nat×Nat)->List (Nat×Nat):=List.rec (fun _ b=>b) (fun u _ ih rs b=>List.rec b (fun r rs _=>Bool.rec (ih rs b) (wW r (ih rs b)) u) rs)
def rM:List Nat->aT->(List (Nat×Nat)->OR)->OR:=List.rec (fun _ k=>k []) (fun t _ ih V k=>V.vget t fun y=>lE y fun id _=>ih V fun l=>k ((id.nat,Nat.succ id.nat)::l))
def dS:List Nat->aT->aT:=List.rec (fun L=>L) (fun t _ ih L=> .del t (ih L))
def fW:KS:=fun a st=>some (a,st)
def lY(x:OR)(k:KS):OR:=Option.rec none (fun p=>k p.1 p.2) x
def mP(n:Nat)(l:List (Nat×Nat)):Bool:=List.rec false (fun p _ ih=>Bool.rec ih (Bool.rec true ih (Nat.ble p.2 n)) (Nat.ble p.1 n)) l
def rK(n:Nat):List Bool->List dM->Bool:=List.rec (fun _=>true) (fun u _ ih rs=>List.rec true (fun r rs _=>Bool.rec (ih rs) (Bool.rec (Bool.rec false (ih rs) (mP n r.hid)) (ih rs) (Nat.ble r.n0 n)) u) rs)
def aAP(x:Id)(r:dM):Bool:=Bool.rec (Nat.ble r.n1 x.nat) (Bool.rec true (sW (Tr.find x r.h0) (Tr.find x r.h1)) r.wild) (Nat.ble (Nat.succ x.nat) r.n0)
def oW(x:Id):List Bool->List dM->Bool:=List.rec (fun _=>true) (fun u _ ih rs=>List.rec true (fun r rs _=>Bool.rec (ih rs) (Bool.rec false (ih rs) (aAP x r)) u) rs)
def lD(h0 h1:Tr):List Bool->List dM->Bool:=List.rec (fun _=>true) (fun u _ ih rs=>List.rec true (fun r rs _=>Bool.rec (ih rs) (Option.rec (ih rs) (fun x=>Bool.rec false (ih rs) (sW (Tr.find x h0) (Tr.find x h1))) r.rd) u) rs)
def eM(n:Nat)(x:Option Id):List (Nat×Nat):=Option.rec [(0,n)] (fun x=>[(0,x.nat),(Nat.succ x.nat,n)]) x
section
variable (P:bR8)(pr:cN)
abbrev gG:=List dM->aT->aT->St->(aT->St->OR)->OR
def dR(h:List (Nat×Nat))(st:St):St:=St.rec (fun heap nxt _ hid=>⟨heap,nxt,nxt.nat,rE h hid⟩) st
def eB(h:List (Nat×Nat))(st:St):St:=St.rec (fun heap nxt ro hid=>⟨heap,nxt,ro,rE h hid⟩) st
def dU(st st':St):St:=St.rec (fun heap nxt _ _=>St.rec (fun _ _ ro hid=>⟨heap,nxt,ro,hid⟩) st) st'
def goT(o:bRa)(p:gQ)(s:dT)(rest:gG):gG:=fun recs L V st k=>
 lY (s (dS p.del L) V (eB (cH p.un recs []) st) fW) fun a st'=>bQ (lD st.heap st'.heap p.un recs) (rest (⟨st.nxt.nat,st'.nxt.nat,cH p.un recs [],[],none,st.heap,st'.heap,true⟩::recs) (gA o.dst a L) V (dU st st') k) none
def goE(o:bRa)(p:gQ)(s:dT)(rest:gG):gG:=fun recs L V st k=>rM p.adr V fun ah=>
 lY (s (dS p.del L) V (dR (cH p.un recs ah) st) fW) fun a st'=>rest (⟨st.nxt.nat,st'.nxt.nat,cH p.un recs ah,[],none,st.heap,st'.heap,false⟩::recs) (gA o.dst a L) V (dU st st') k
def aH5(st:St)(t:bR5)(h:List (Nat×Nat))(us:List Bool)(recs:List dM)(id:Id)(off:Nat)(v:AV)(k:St->OR):OR:=
 bQ (rK id.nat us recs) (eQ (eB h st) id fun b=>bQ (Nat.beq (lV v.cells) (aY P t)) (bQ (jG v.cells) (nM v.cells off b.cells fun cs=>nO (eB h st) id ⟨cs,b.exact⟩ k) none) none) none
def goS(o:bRa)(p:gQ)(q:bR5×bR7×bR7)(rest:gG):gG:=fun recs L V st k=>rM p.adr V fun ah=>
 cF q.2.1 (dS p.del L) V fun y=>cF q.2.2 (dS p.del L) V fun v=>lE y fun id off=>bQ (dG P q.1) (aH5 P st q.1 (cH p.un recs ah) p.un recs id off v fun st'=>rest (⟨st.nxt.nat,st.nxt.nat,cH p.un recs ah,[(id.nat,Nat.succ id.nat)],none,st.heap,st'.heap,true⟩::recs) (gA o.dst .u L) V (dU st st') k) none
def vA(o:bRa)(p:gQ)(s:dT)(rest:gG)(x:Option Id):gG:=fun recs L V st k=>
 lY (s (dS p.del L) V (dR (eM st.nxt.nat x) st) fW) fun a st'=>rest (⟨st.nxt.nat,st'.nxt.nat,eM st.nxt.nat x,[],x,st.heap,st'.heap,false⟩::recs) (gA o.dst a L) V (dU st st') k
def goX(o:bRa)(p:gQ)(s:dT)(rest:gG)(x:Option bR7):gG:=Option.rec (vA o p s rest none) (fun x recs L V st k=>cF x (dS p.del L) V fun y=>lE y fun id _=>bQ (Nat.ble id.nat st.nxt.nat) (bQ (oW id p.un recs) (vA o p s rest (some id) recs L V st k) none) none) x
def nU(o:bRa)(p:gQ)(s:dT)(rest:gG):gG:=Option.rec (Bool.rec (Option.rec (goE o p s rest) (fun q=>goS P o p q rest) (tE o.op)) (goT o p s rest) p.tot) (fun x=>goX o p s rest x) (eT o.op)
def aKP(o:bRa)(rest:gG):gG:=fun recs L V st k=>rest (⟨st.nxt.nat,st.nxt.nat,[(0,st.nxt.nat)],[],none,st.heap,st.heap,false⟩::recs) (gA o.dst .u L) V st k
def aCt(all:Array bRa)(o:bRa)(p:gQ)(s:dT)(rest:gG):gG:=Option.rec (nU P o p s rest) (fun g recs L V st k=>aBe ((all[g.1]?).bind (·.dst)) g.2 (dS p.del L) V (nU P o p s rest recs L V st k) (aKP o rest recs L V st k)) o.guard
def rB(all:Array bRa)(ih:IH):List (bRa×gQ)->gG:=List.rec (fun _ L _ st k=>k L st) (fun q _ rest=>aCt P all q.1 q.2 (dD P pr q.1.op ih) rest)
def aGN(ext:Bool)(U:FI)(w:Array bRa):IH->rR:=Bool.rec (fun _ _ _ _=>none) (fun ih V st k=>bQ (Nat.ble st.ro st.nxt.nat) (rB P pr w ih (gP ext w.toList) [] .nil V st (zO (iN U.1 w.toList) V k)) none) (lN U.2 w.toList&&eS w.toList)
end
end
section
variable {r:AV×St}{P:bR8}{ext:Bool}
theorem vP(l m:List (Nat×Nat)):rE l m=l++m:=by
 induction l with
 |nil=>rfl
 |cons a l ih=>show a::rE l m=_;rw[ih];rfl
theorem aIi{x:OR}{k:KS}(h:lY x k=some r):∃av st,x=some (av,st)/\k av st=some r:=by
 cases x with
 |none=>cases h
 |some p=>exact⟨p.1,p.2,rfl,h⟩
theorem aJO{L V:aT}{x:bR7}{k:KA}(h:cF x L V k=some r):∃y,k y=some r/\∀(Γ:aP) (a:Act),pT Γ->fJ Γ L V a.tmps->CR Γ y (a.eval x):=by
 cases x with
 |tmp t=>
  obtain⟨y,h1,h2⟩:=aT.lget_spec L t (h:L.lget V t k=some r)
  exact⟨y,h2,fun Γ a _ M=>(M t y h1).2⟩
 |const v=>
  have h':zN (aC v) L V k=some r:=h
  cases C:aC v with
  |none=>rw[C]at h';cases h'
  |some y=>rw[C]at h';exact⟨y,h',fun Γ _ _ _=>aHO Γ C⟩
 | global g=>
  have h':zN (Bool.rec none (some (.ptr (iH g) 0)) (Nat.ble (Nat.succ g) G0)) L V k=some r:=h
  cases H:Nat.ble (Nat.succ g) G0 with
  |false=>rw[H]at h';cases h'
  |true=>
   rw[H]at h'
   exact⟨.ptr (iH g) 0,h',fun Γ _ A _=>let ⟨s,e⟩:=A g (bJP H); .ptr e⟩
 |func f=>exact⟨_,h,fun _ _ _ _=> .fn .nil .nil⟩
theorem aOd{V:aT}:∀(ts:List Nat) (k:List (Nat×Nat)->OR),rM ts V k=some r->∃ah,k ah=some r/\∀p∈ah,∃(id:Id) (t off:Nat),V.find t=some (.ptr id off)/\p=(id.nat,id.nat+1):=by
 intro ts
 induction ts with
 |nil=>intro k h;exact⟨[],h,fun p hp=>by cases hp⟩
 | cons t ts ih=>
  intro k h
  obtain⟨a,h1,h2⟩:=aT.vget_spec V t (h:V.vget t _=some r)
  obtain⟨id,off,rfl,B⟩:=xW h2
  obtain⟨ah,D,Q⟩:=ih _ B
  exact⟨_,D,fun p hp=>by
   rcases bJZ.1 hp with rfl|hp
   ·exact⟨id,t,off,h1,rfl⟩
   ·exact Q p hp⟩
structure gU where
 recs:List dM
 L:aT
 st:St
def gU.n(s:gU):Nat:=s.st.nxt.nat
inductive Way(P:bR8)(pr:cN)(ih:IH)(V:aT)(o:bRa)(p:gQ)(s:gU)(av:AV)(s':gU):Bool->Prop
 |pass (R:av= .u) (hs:s'.st=s.st) (F:s'.recs=⟨s.n,s.n,[(0,s.n)],[],none,s.st.heap,s.st.heap,false⟩::s.recs):Way P pr ih V o p s av s' false
 |tot (c:St) (u:p.tot=true) (N:dD P pr o.op ih (dS p.del s.L) V (eB (cH p.un s.recs []) s.st) fW=some (av,c)) (hc:lD s.st.heap c.heap p.un s.recs=true) (hs:s'.st=dU s.st c) (F:s'.recs=⟨s.n,c.nxt.nat,cH p.un s.recs [],[],none,s.st.heap,c.heap,true⟩::s.recs):Way P pr ih V o p s av s' true
 |ext (ah:List (Nat×Nat)) (j:∀p∈ah,∃(id:Id) (t off:Nat),V.find t=some (.ptr id off)/\p=(id.nat,id.nat+1)) (c:St) (u:p.tot=false/\eT o.op=none) (N:dD P pr o.op ih (dS p.del s.L) V (dR (cH p.un s.recs ah) s.st) fW=some (av,c)) (hs:s'.st=dU s.st c) (F:s'.recs=⟨s.n,c.nxt.nat,cH p.un s.recs ah,[],none,s.st.heap,c.heap,false⟩::s.recs):Way P pr ih V o p s av s' true
 |shy (x:Option Id) (hx:∀id,x=some id->oW id p.un s.recs=true/\id.nat<=s.n) (d:(eT o.op).isSome=true) (c:St) (N:dD P pr o.op ih (dS p.del s.L) V (dR (eM s.n x) s.st) fW=some (av,c)) (hs:s'.st=dU s.st c) (F:s'.recs=⟨s.n,c.nxt.nat,eM s.n x,[],x,s.st.heap,c.heap,false⟩::s.recs):Way P pr ih V o p s av s' true
 | sto (ah:List (Nat×Nat)) (j:∀p∈ah,∃(id:Id) (t off:Nat),V.find t=some (.ptr id off)/\p=(id.nat,id.nat+1)) (T:p.tot=false) (t:bR5) (x y:bR7) (O:o.op= .store t x y) (G:dG P t=true) (R:av= .u) (id:Id) (off:Nat) (v:AV) (b:cK)
   (hx:∀(Γ:aP) (a:Act),pT Γ->fJ Γ (dS p.del s.L) V a.tmps->CR Γ (.ptr id off) (a.eval x)) (hy:∀(Γ:aP) (a:Act),pT Γ->fJ Γ (dS p.del s.L) V a.tmps->CR Γ v (a.eval y))
   (hc:rK id.nat p.un s.recs=true) (M:(eB (cH p.un s.recs ah) s.st).lookc id b) (h1:Nat.beq (lV v.cells) (aY P t)=true) (h2:jG v.cells=true) (B:off+v.cells.length<=b.cells.length) (U:s.st.ro<=id.nat)
   (hs:s'.st=⟨Tr.put (some ⟨b.cells.take off++v.cells++b.cells.drop (off+v.cells.length),b.exact⟩) id s.st.heap,s.st.nxt,s.st.ro,s.st.hid⟩) (F:s'.recs=⟨s.n,s.n,cH p.un s.recs ah,[(id.nat,id.nat+1)],none,s.st.heap,s'.st.heap,true⟩::s.recs):Way P pr ih V o p s av s' true
structure Trans(P:bR8)(pr:cN)(all:Array bRa)(ih:IH)(V:aT)(o:bRa)(p:gQ)(s:gU)(av:AV)(s':gU):Prop where
 slot:s'.L=gA o.dst av s.L
 way:∃want:Bool,(∀(Γ:aP) (a:Act),fJ Γ (dS p.del s.L) V a.tmps->Region.wanted o (yielded all a.tmps)=want)/\Way P pr ih V o p s av s' want
theorem aOC{pr:cN}{ih:IH}{all:Array bRa}{V:aT}{o:bRa}{p:gQ}{s:gU}{rest:gG}{k:aT->St->OR}{x:Option Id}(z:∀(Γ:aP) (a:Act),fJ Γ (dS p.del s.L) V a.tmps->Region.wanted o (yielded all a.tmps)=true)
  (hx:∀id,x=some id->oW id p.un s.recs=true/\id.nat<=s.n) (d:(eT o.op).isSome=true) (h:vA o p (dD P pr o.op ih) rest x s.recs s.L V s.st k=some r):∃av s',Trans P pr all ih V o p s av s'/\rest s'.recs s'.L V s'.st k=some r:=by
 obtain⟨av,c,h1,h2⟩:=aIi (h:lY (dD P pr o.op ih (dS p.del s.L) V (dR (eM s.st.nxt.nat x) s.st) fW) _=some r)
 exact⟨av,⟨_,_,_⟩,⟨rfl,true,z,.shy x hx d c h1 rfl rfl⟩,h2⟩
theorem aPC{pr:cN}{ih:IH}{all:Array bRa}{V:aT}{o:bRa}{p:gQ}{s:gU}{rest:gG}{k:aT->St->OR}(z:∀(Γ:aP) (a:Act),fJ Γ (dS p.del s.L) V a.tmps->Region.wanted o (yielded all a.tmps)=true)
  (h:nU P o p (dD P pr o.op ih) rest s.recs s.L V s.st k=some r):∃av s',Trans P pr all ih V o p s av s'/\rest s'.recs s'.L V s'.st k=some r:=by
 have h:(Option.rec (motive:=fun _=>gG) (Bool.rec (motive:=fun _=>gG) (Option.rec (motive:=fun _=>gG) (goE o p (dD P pr o.op ih) rest) (fun q=>goS P o p q rest) (tE o.op)) (goT o p (dD P pr o.op ih) rest) p.tot) (fun x=>goX o p (dD P pr o.op ih) rest x) (eT o.op)) s.recs s.L V s.st k=some r:=h
 cases d:eT o.op with
 | some x=>
  rw[d]at h
  have w:(eT o.op).isSome=true:=by rw[d];rfl
  cases x with
  |none=>exact aOC z (fun id e=>by cases e) w (h:vA o p (dD P pr o.op ih) rest none s.recs s.L V s.st k=some r)
  |some x=>
   obtain⟨y,h1,_⟩:=aJO (h:cF x (dS p.del s.L) V _=some r)
   obtain⟨id,off,rfl,h2⟩:=xW h1
   obtain⟨h0,h2⟩:=eE h2
   obtain⟨B,D⟩:=eE h2
   exact aOC z (fun W e=>by(injection e with e;rw[←e];exact⟨B,bJP h0⟩)) w D
 |none=>
 rw[d]at h
 have h:(Bool.rec (motive:=fun _=>gG) (Option.rec (motive:=fun _=>gG) (goE o p (dD P pr o.op ih) rest) (fun q=>goS P o p q rest) (tE o.op)) (goT o p (dD P pr o.op ih) rest) p.tot) s.recs s.L V s.st k=some r:=h
 cases u:p.tot with
 |true=>
  rw[u]at h
  obtain⟨av,c,h1,h2⟩:=aIi (h:lY (dD P pr o.op ih (dS p.del s.L) V (eB (cH p.un s.recs []) s.st) fW) _=some r)
  obtain⟨B,D⟩:=eE h2
  exact⟨av,⟨_,_,_⟩,⟨rfl,true,z,.tot c u h1 B rfl rfl⟩,D⟩
 | false=>
  rw[u]at h
  cases hq:tE o.op with
  |none=>
   rw[hq]at h
   obtain⟨ah,h,j⟩:=aOd _ _ (h:rM p.adr V _=some r)
   obtain⟨av,c,h1,h2⟩:=aIi h
   exact⟨av,⟨_,_,_⟩,⟨rfl,true,z,.ext ah j c ⟨u,d⟩ h1 rfl rfl⟩,h2⟩
  | some q=>
   rw[hq]at h
   obtain⟨t,x,y⟩:=q
   have O:o.op= .store t x y:=by
    unfold tE at hq
    split at hq
    ·rename_i e;injection hq with hq;injection hq with X I;injection I with I Y;subst X I Y;exact e
    ·cases hq
   obtain⟨ah,h,j⟩:=aOd _ _ (h:rM p.adr V _=some r)
   obtain⟨ya,h,J⟩:=aJO h
   obtain⟨v,h,C⟩:=aJO h
   obtain⟨id,off,rfl,h⟩:=xW h
   obtain⟨G,h⟩:=eE h
   obtain⟨g1,h⟩:=eE h
   obtain⟨b,g2,h⟩:=rW h
   obtain⟨g3,h⟩:=eE h
   obtain⟨g4,h⟩:=eE h
   obtain⟨Z,h⟩:=aBA _ _ _ _ h
   obtain⟨g6,h⟩:=aDi h
   exact⟨.u,⟨_,_,_⟩,⟨rfl,true,z,.sto ah j u t x y O G rfl id off v b J C g1 g2 g3 g4 Z g6 rfl rfl⟩,h⟩
theorem aXa{pr:cN}{ih:IH}{all:Array bRa}{V:aT}{o:bRa}{p:gQ}{s:gU}{rest:gG}{k:aT->St->OR}
  (h:aCt P all o p (dD P pr o.op ih) rest s.recs s.L V s.st k=some r):∃av s',Trans P pr all ih V o p s av s'/\rest s'.recs s'.L V s'.st k=some r:=by
 have h:(Option.rec (motive:=fun _=>gG) (nU P o p (dD P pr o.op ih) rest) (fun g recs L V st k=>aBe ((all[g.1]?).bind (·.dst)) g.2 (dS p.del L) V (nU P o p (dD P pr o.op ih) rest recs L V st k) (aKP o rest recs L V st k)) o.guard) s.recs s.L V s.st k=some r:=h
 cases A:o.guard with
 |none=>rw[A]at h;exact aPC (fun Γ a _=>by unfold Region.wanted;rw[A]) h
 |some g=>
  rw[A]at h
  obtain⟨b,h1,h2⟩:=aNF A h
  cases b with
  |true=>exact aPC h2 h1
  |false=>exact⟨.u,⟨_,_,_⟩,⟨rfl,false,h2,.pass rfl rfl rfl⟩,h1⟩
theorem aXC{pr:cN}{ih:IH}{all:Array bRa}{V:aT}:∀(l:List (bRa×gQ)) (s:gU) (k:aT->St->OR),rB P pr all ih l s.recs s.L V s.st k=some r->
  ∃(S:Nat->gU) (av:Nat->AV),S 0=s/\k (S l.length).L (S l.length).st=some r/\∀i o p,l[i]? =some (o,p)->Trans P pr all ih V o p (S i) (av i) (S (i+1)):=by
 intro l
 induction l with
 |nil=>intro s k h;exact⟨fun _=>s,fun _=> .u,rfl,h,fun i o p E=>by simp at E⟩
 | cons q l K=>
  intro s k h
  obtain⟨av,s',u,h'⟩:=aXa (h:aCt P all q.1 q.2 (dD P pr q.1.op ih) (rB P pr all ih l) s.recs s.L V s.st k=some r)
  obtain⟨S,avs,e0,G,hS⟩:=K s' k h'
  refine⟨fun n=>match n with |0=>s|n+1=>S n,fun n=>match n with |0=>av|n+1=>avs n,rfl,G,fun i o p E=> ?_⟩
  cases i with
  |zero=>
   simp at E
   subst E
   show Trans P pr all ih V o p s av (S 0)
   rw[e0];exact u
  |succ i=>exact hS i o p (by simpa using E)
end
section
theorem aWt(acc:List Nat)(l:List Nat)(j:Nat):(pN acc l).testBit j=true↔∃e∈l,j=e\/(acc.getD e 0).testBit j=true:=by
 have:∀(l:List Nat) (s:Nat),(l.foldl (fun s e=>Nat.lor s (Nat.lor (Nat.pow 2 e) (acc.getD e 0))) s).testBit j=true↔s.testBit j=true\/∃e∈l,j=e\/(acc.getD e 0).testBit j=true:=by
  intro l
  induction l with
  |nil=>intro s;simp
  | cons e l ih=>
   intro s
   rw[bLN,ih]
   have O:(Nat.lor s (Nat.lor (Nat.pow 2 e) (acc.getD e 0))).testBit j=(s.testBit j||(Nat.testBit (2^e) j||(acc.getD e 0).testBit j)):=by
    show(s|||(2^e|||acc.getD e 0)).testBit j=_
    rw[bMv,bMv]
   rw[O,Nat.testBit_two_pow]
   simp only[bLg,ap,bJZ]
   constructor
   ·rintro((h|h|h)|⟨x,hx,h⟩)
    ·exact .inl h
    ·exact .inr ⟨e,.inl rfl,.inl h.symm⟩
    ·exact .inr ⟨e,.inl rfl,.inr h⟩
    ·exact .inr ⟨x,.inr hx,h⟩
   ·rintro(h|⟨x,rfl|hx,h⟩)
    ·exact .inl (.inl h)
    ·rcases h with h|h
     ·exact .inl (.inr (.inl h.symm))
     ·exact .inl (.inr (.inr h))
    ·exact .inr ⟨x,hx,h⟩
 simpa [pN]using this l 0
theorem aX0:∀(l:List bRa) (acc:List Nat) (i:Nat),i<acc.length->(dL l acc).getD i 0=acc.getD i 0:=by
 intro l
 induction l with
 |nil=>intro acc i _;rfl
 |cons o l ih=>intro acc i h;unfold dL;rw[ih _ _ (by simp;omega)];simp [bK0,List.getElem?_append_left h]
theorem aXo:∀(l:List bRa) (acc:List Nat) (i:Nat) (o:bRa),l[i]? =some o->(dL l acc).getD (acc.length+i) 0=pN ((dL l acc).take (acc.length+i)) (kD o):=by
 intro l
 induction l with
 |nil=>intro acc i o h;simp at h
 | cons x l ih=>
  intro acc i o h
  cases i with
  | zero=>
   simp at h;subst h
   unfold dL
   rw[aX0 _ _ _ (by simp)]
   have:(dL l (acc++[pN acc (kD x)])).take (acc.length+0)=acc:=by
    have key:∀(l:List bRa) (acc:List Nat) (n:Nat),n<=acc.length->(dL l acc).take n=acc.take n:=by
     intro l
     induction l with
     |nil=>intro acc n _;rfl
     |cons y l ih=>intro acc n hn;unfold dL;rw[ih _ _ (by simp;omega),List.take_append_of_le_length hn]
    rw[key _ _ _ (by simp)];simp
   rw[this];simp
  |succ i=>
   unfold dL
   have:=ih (acc++[pN acc (kD x)]) i o (by simpa using h)
   simp only[bJW,List.length_cons,bKf]at this
   rw[show acc.length+(i+1)=acc.length+(0+1)+i by omega];exact this
def aS9(d:List bRa)(D:Nat->Prop):Prop:=∀i o,d[i]? =some o->D i->∀m∈kD o,D m
theorem aQP{d:List bRa}(G:∀i o,d[i]? =some o->∀m∈kD o,m<i){D:Nat->Prop}(g:aS9 d D):∀(i:Nat) (o:bRa),d[i]? =some o->(∀m∈kD o,D m)->∀j,((dL d []).getD i 0).testBit j=true->D j:=by
 intro i
 induction i using Nat.strongRecOn with
 | _ i ih=>
  intro o K hn j hj
  have e:=aXo d [] i o K
  simp only[bKf,bKi]at e
  rw[e,aWt]at hj
  obtain⟨m,H,rfl|hj⟩:=hj
  ·exact hn _ H
  ·have C:=G i o K m H
   have I:m<d.length:=by
    have:=(bKv.1 K).1;omega
   have J:((dL d []).take i).getD m 0=(dL d []).getD m 0:=by
    simp [bK0,C]
   rw[J]at hj
   exact ih m C d[m] (by simp [I]) (fun q hq=>g m _ (by simp [I]) (hn m H) q hq) j hj
theorem aXm{n:Nat}:∀ {l:List (Nat×Nat)},mP n l=true->∃p∈l,p.1<=n/\n<p.2:=by
 intro l
 induction l with
 |nil=>intro h;cases h
 | cons p l ih=>
  intro h
  have h:Bool.rec (motive:=fun _=>Bool) (mP n l) (Bool.rec (motive:=fun _=>Bool) true (mP n l) (Nat.ble p.2 n)) (Nat.ble p.1 n)=true:=h
  cases h1:Nat.ble p.1 n with
  |false=>rw[h1]at h;obtain⟨q,hq,h2⟩:=ih h;exact⟨q,by simp [hq],h2⟩
  | true=>
   rw[h1]at h
   cases h2:Nat.ble p.2 n with
   |true=>rw[h2]at h;obtain⟨q,hq,h3⟩:=ih h;exact⟨q,by simp [hq],h3⟩
   |false=>
    refine⟨p,by simp,bJP h1, ?_⟩
    rcases bJS n p.2 with h3|h3
    ·exact h3
    ·rw[bKX h3]at h2;cases h2
def jN(l:List (Nat×Nat))(n:Nat):Prop:=∃p∈l,p.1<=n/\n<p.2
theorem aPo{r:dM}{l:List (Nat×Nat)}{n:Nat}(h:jN l n\/jN r.wr n\/(r.n0<=n/\n<r.n1)):jN (wW r l) n:=by
 unfold wW
 rw[vP]
 rcases h with ⟨p,hp,h⟩|⟨p,hp,h⟩|⟨h1,h2⟩
 ·refine⟨p, ?_,h⟩
  cases Nat.ble r.n1 r.n0
  ·exact bKE _ (bKx _ hp)
  ·exact bKE _ hp
 ·exact⟨p,List.mem_append_left _ hp,h⟩
 ·have:Nat.ble r.n1 r.n0=false:=by
   cases v:Nat.ble r.n1 r.n0 with
   |false=>rfl
   |true=>have:=bJP v;omega
  rw[this]
  exact⟨(r.n0,r.n1),bKE _ (by simp),h1,h2⟩
theorem aO2{n:Nat}:∀(us:List Bool) (rs:List dM) (b:List (Nat×Nat)) (k:Nat) (r:dM),us[k]? =some true->rs[k]? =some r->(jN r.wr n\/(r.n0<=n/\n<r.n1))->jN (cH us rs b) n:=by
 intro us
 induction us with
 |nil=>intro rs b k r h;simp at h
 | cons u us ih=>
  intro rs b k r w f h
  cases rs with
  |nil=>simp at f
  | cons c rs=>
   have e:cH (u::us) (c::rs) b=Bool.rec (motive:=fun _=>List (Nat×Nat)) (cH us rs b) (wW c (cH us rs b)) u:=rfl
   rw[e]
   cases k with
   |zero=>
    simp at w f;subst w f
    exact aPo (.inr h)
   |succ k=>
    have:=ih rs b k r (by simpa using w) (by simpa using f) h
    cases u with
    |false=>exact this
    |true=>exact aPo (.inl this)
theorem aXe{r:dM}{l:List (Nat×Nat)}{B:Nat}(h1:r.n1<=B)(h2:∀p∈r.wr,p.2<=B)(h3:∀p∈l,p.2<=B):∀p∈wW r l,p.2<=B:=by
 intro p hp
 unfold wW at hp
 rw[vP]at hp
 rcases List.mem_append.1 hp with hp|hp
 ·exact h2 p hp
 ·cases v:Nat.ble r.n1 r.n0 with
  |true=>rw[v]at hp;exact h3 p hp
  |false=>
   rw[v]at hp
   rcases bJZ.1 hp with rfl|hp
   ·exact h1
   ·exact h3 p hp
theorem aLY{B:Nat}:∀(us:List Bool) (rs:List dM) (b:List (Nat×Nat)),(∀r∈rs,r.n1<=B/\∀p∈r.wr,p.2<=B)->(∀p∈b,p.2<=B)->∀p∈cH us rs b,p.2<=B:=by
 intro us
 induction us with
 |nil=>intro rs b _ v;exact v
 | cons u us ih=>
  intro rs b f v
  cases rs with
  |nil=>exact v
  |cons c rs=>
   have e:cH (u::us) (c::rs) b=Bool.rec (motive:=fun _=>List (Nat×Nat)) (cH us rs b) (wW c (cH us rs b)) u:=rfl
   rw[e]
   have h1:=ih rs b (fun r h=>f r (by simp [h])) v
   cases u with
   |false=>exact h1
   |true=>exact aXe (f c (by simp)).1 (f c (by simp)).2 h1
theorem aZK{n:Nat}:∀(us:List Bool) (rs:List dM) (k:Nat) (r:dM),rK n us rs=true->us[k]? =some true->rs[k]? =some r->r.n0<=n\/jN r.hid n:=by
 intro us
 induction us with
 |nil=>intro rs k r _ h;simp at h
 | cons u us ih=>
  intro rs k r h w f
  cases rs with
  |nil=>simp at f
  | cons c rs=>
   have h:Bool.rec (motive:=fun _=>Bool) (rK n us rs) (Bool.rec (motive:=fun _=>Bool) (Bool.rec (motive:=fun _=>Bool) false (rK n us rs) (mP n c.hid)) (rK n us rs) (Nat.ble c.n0 n)) u=true:=h
   have E:rK n us rs=true:=by
    cases u with
    |false=>exact h
    | true=>
     cases h1:Nat.ble c.n0 n with
     |true=>rw[h1]at h;exact h
     |false=>
      rw[h1]at h
      cases h2:mP n c.hid with
      |true=>rw[h2]at h;exact h
      |false=>rw[h2]at h;cases h
   cases k with
   | zero=>
    simp at w f;subst w f
    cases h1:Nat.ble c.n0 n with
    |true=>exact .inl (bJP h1)
    |false=>
     rw[h1]at h
     cases h2:mP n c.hid with
     |true=>exact .inr (aXm h2)
     |false=>rw[h2]at h;cases h
   |succ k=>exact ih rs k r E (by simpa using w) (by simpa using f)
theorem bCr{x:Id}:∀(us:List Bool) (rs:List dM) (k:Nat) (r:dM),oW x us rs=true->us[k]? =some true->rs[k]? =some r->(x.nat<r.n0/\(r.wild=true->Tr.find x r.h0=Tr.find x r.h1))\/r.n1<=x.nat:=by
 intro us
 induction us with
 |nil=>intro rs k r _ h;simp at h
 | cons u us ih=>
  intro rs k r h w f
  cases rs with
  |nil=>simp at f
  | cons c rs=>
   have h:Bool.rec (motive:=fun _=>Bool) (oW x us rs) (Bool.rec (motive:=fun _=>Bool) false (oW x us rs) (aAP x c)) u=true:=h
   cases k with
   | zero=>
    simp at w f;subst w f
    cases z:aAP x c with
    |false=>rw[z]at h;cases h
    | true=>
     have z:Bool.rec (motive:=fun _=>Bool) (Nat.ble c.n1 x.nat) (Bool.rec (motive:=fun _=>Bool) true (sW (Tr.find x c.h0) (Tr.find x c.h1)) c.wild) (Nat.ble (Nat.succ x.nat) c.n0)=true:=z
     cases v:Nat.ble (Nat.succ x.nat) c.n0 with
     |false=>rw[v]at z;exact .inr (bJP z)
     |true=>
      rw[v]at z
      refine .inl ⟨bJP v,fun P=> ?_⟩
      rw[P]at z
      exact aOj z
   | succ k=>
    refine ih rs k r ?_ (by simpa using w) (by simpa using f)
    cases u with
    |false=>exact h
    |true=>
     cases z:aAP x c with
     |false=>rw[z]at h;cases h
     |true=>rw[z]at h;exact h
theorem aZ3{h0 h1:Tr}:∀(us:List Bool) (rs:List dM) (k:Nat) (r:dM) (x:Id),lD h0 h1 us rs=true->us[k]? =some true->rs[k]? =some r->r.rd=some x->Tr.find x h0=Tr.find x h1:=by
 intro us
 induction us with
 |nil=>intro rs k r x _ h;simp at h
 | cons u us ih=>
  intro rs k r x h w f hx
  cases rs with
  |nil=>simp at f
  | cons c rs=>
   have h:Bool.rec (motive:=fun _=>Bool) (lD h0 h1 us rs) (Option.rec (motive:=fun _=>Bool) (lD h0 h1 us rs) (fun x=>Bool.rec (motive:=fun _=>Bool) false (lD h0 h1 us rs) (sW (Tr.find x h0) (Tr.find x h1))) c.rd) u=true:=h
   cases k with
   |zero=>
    simp at w f;subst w f
    rw[hx]at h
    have h:Bool.rec (motive:=fun _=>Bool) false (lD h0 h1 us rs) (sW (Tr.find x h0) (Tr.find x h1))=true:=h
    cases v:sW (Tr.find x h0) (Tr.find x h1)with
    |false=>rw[v]at h;cases h
    |true=>exact aOj v
   | succ k=>
    refine ih rs k r x ?_ (by simpa using w) (by simpa using f) hx
    cases u with
    |false=>exact h
    | true=>
     cases L:c.rd with
     |none=>rw[L]at h;exact h
     |some y=>
      rw[L]at h
      have h:Bool.rec (motive:=fun _=>Bool) false (lD h0 h1 us rs) (sW (Tr.find y h0) (Tr.find y h1))=true:=h
      cases v:sW (Tr.find y h0) (Tr.find y h1)with
      |false=>rw[v]at h;cases h
      |true=>rw[v]at h;exact h
theorem aVY{n:Nat}{x:Option Id}(h:∀id,x=some id->id.nat<=n):∀p∈eM n x,p.2<=n:=by
 cases x with
 |none=>intro p hp;have hp:p∈ [(0,n)]:=hp;rw[bKF.1 hp];exact bJE _
 |some x=>
  intro p hp
  have hp:p∈ [(0,x.nat),(x.nat+1,n)]:=hp
  rcases bJZ.1 hp with rfl|hp
  ·exact h x rfl
  ·rw[bKF.1 hp];exact bJE _
theorem aXf{n:Nat}{x:Option Id}{k:Nat}(z:k<n)(h:∀id,x=some id->k≠id.nat):jN (eM n x) k:=by
 cases x with
 |none=>exact⟨(0,n),by simp [eM],bJJ _,z⟩
 |some x=>
  have:=h x rfl
  rcases bJS k x.nat with h1|h1
  ·exact⟨(0,x.nat),by simp [eM],bJJ _,h1⟩
  ·exact⟨(x.nat+1,n),by simp [eM],by show x.nat+1<=k;omega,z⟩
open Classical in
def dE(T:Nat->Tr)(D:Nat->Prop)(id:Id):Nat->Option cK
 |0=>Tr.find id (T 0)
 |m+1=>if D m/\Tr.find id (T (m+1))≠Tr.find id (T m)then Tr.find id (T (m+1))else dE T D id m
open Classical in
def kU(T:Nat->Tr)(N:Nat->Nat)(D:Nat->Prop)(id:Id):Nat->Nat
 |0=>N 0
 |m+1=>if D m/\Tr.find id (T (m+1))≠Tr.find id (T m)then N (m+1)else kU T N D id m
open Classical in
def rQ(v0:bR4)(dst:Nat->Option Tmp)(a:Nat->bR4)(D:Nat->Prop)(t:Nat):Nat->bR4
 |0=>v0
 |m+1=>if D m/\dst m=some t then a m else rQ v0 dst a D t m
def aP.below(Γ:aP)(n:Nat):aP:=⟨fun id=>if id.nat<n then Γ id else none,Γ.flo⟩
theorem aP.below_at(Γ:aP)(n:Nat)(id:Id):Γ.below n id=if id.nat<n then Γ id else none:=rfl
theorem aP.below_le(Γ:aP){m n:Nat}(h:m<=n):aP.le (Γ.below m) (Γ.below n):=fun id p e=>by
 rw[aP.below_at]at e ⊢
 split at e
 ·rw[if_pos (by omega)];exact e
 ·cases e
theorem aP.below_mono{Γ Γ':aP}(h:aP.le Γ Γ')(n:Nat):aP.le (Γ.below n) (Γ'.below n):=fun id p e=>by
 rw[aP.below_at]at e ⊢
 split at e
 ·rename_i C;rw[if_pos C];exact h id p e
 ·cases e
theorem aP.below_in{Γ:aP}{n:Nat}{id:Id}{p:Nat×Nat}(h:Γ id=some p)(hn:id.nat<n):Γ.below n id=some p:=by
 rw[aP.below_at,if_pos hn];exact h
theorem aP.below_of{Γ:aP}{n:Nat}{id:Id}{p:Nat×Nat}(h:Γ.below n id=some p):id.nat<n/\Γ id=some p:=by
 rw[aP.below_at]at h
 split at h
 ·exact⟨by assumption,h⟩
 ·cases h
section
variable {T:Nat->Tr}{N:Nat->Nat}{D:Nat->Prop}{id:Id}
def eG(T:Nat->Tr)(id:Id)(m:Nat):Prop:=Tr.find id (T (m+1))≠Tr.find id (T m)
theorem aFN{m:Nat}(h:¬(D m/\eG T id m)):dE T D id (m+1)=dE T D id m:=if_neg h
theorem aG6{m:Nat}(h:D m/\eG T id m):dE T D id (m+1)=Tr.find id (T (m+1)):=if_pos h
theorem aFT{m:Nat}(h:¬(D m/\eG T id m)):kU T N D id (m+1)=kU T N D id m:=if_neg h
theorem aFP{m:Nat}(h:D m/\eG T id m):kU T N D id (m+1)=N (m+1):=if_pos h
theorem aPN{i:Nat}(h:∀m,m<i->eG T id m->D m):dE T D id i=Tr.find id (T i):=by
 induction i with
 |zero=>rfl
 | succ i ih=>
  by_cases hc:D i/\eG T id i
  ·exact aG6 hc
  ·rw[aFN hc,ih fun m H=>h m (by omega)]
   by_cases e:Tr.find id (T (i+1))=Tr.find id (T i)
   ·exact e.symm
   ·exact absurd ⟨h i (by omega) e,e⟩ hc
theorem aIN{i n:Nat}(A:i<=n)(h:∀m,i<=m->m<n->¬(D m/\eG T id m)):dE T D id n=dE T D id i:=by
 induction n with
 |zero=>
  have:i=0:=by omega
  rw[this]
 | succ n ih=>
  rcases bJS n i with h'|h'
  ·have:i=n+1:=by omega
   rw[this]
  ·rw[←ih h' (fun m h1 h2=>h m h1 (by omega))]
   exact aFN (h n h' (by omega))
theorem aIL{i n:Nat}(A:i<=n)(h:∀m,i<=m->m<n->¬(D m/\eG T id m)):kU T N D id n=kU T N D id i:=by
 induction n with
 |zero=>
  have:i=0:=by omega
  rw[this]
 | succ n ih=>
  rcases bJS n i with h'|h'
  ·have:i=n+1:=by omega
   rw[this]
  ·rw[←ih h' (fun m h1 h2=>h m h1 (by omega))]
   exact aFT (h n h' (by omega))
theorem bGN{i:Nat}(M:∀m,m<i->N m<=N (m+1)):kU T N D id i<=N i:=by
 induction i with
 |zero=>exact bJE _
 |succ i ih=>
  by_cases hc:D i/\eG T id i
  ·rw[aFP hc];exact bJE _
  ·rw[aFT hc];exact bJH (ih fun m H=>M m (by omega)) (M i (by omega))
theorem aDo{D':Nat->Prop}{i:Nat}(g:∀m,D' m↔(D m\/m=i))(hc:¬eG T id i)(n:Nat):dE T D' id n=dE T D id n:=by
 induction n with
 |zero=>rfl
 | succ n ih=>
  by_cases hn:D n/\eG T id n
  ·rw[aG6 hn,aG6 (D:=D') ⟨(g n).2 (.inl hn.1),hn.2⟩]
  ·have F:¬(D' n/\eG T id n):=fun h=>by
    rcases(g n).1 h.1 with h1|h1
    ·exact hn ⟨h1,h.2⟩
    ·subst h1;exact hc h.2
   rw[aFN hn,aFN F];exact ih
theorem bBh{D':Nat->Prop}{i:Nat}(g:∀m,D' m↔(D m\/m=i))(hc:¬eG T id i)(n:Nat):kU T N D' id n=kU T N D id n:=by
 induction n with
 |zero=>rfl
 | succ n ih=>
  by_cases hn:D n/\eG T id n
  ·rw[aFP hn,aFP (D:=D') ⟨(g n).2 (.inl hn.1),hn.2⟩]
  ·have F:¬(D' n/\eG T id n):=fun h=>by
    rcases(g n).1 h.1 with h1|h1
    ·exact hn ⟨h1,h.2⟩
    ·subst h1;exact hc h.2
   rw[aFT hn,aFT F];exact ih
theorem aQl{D':Nat->Prop}{i n:Nat}(g:∀m,D' m↔(D m\/m=i))(hc:eG T id i)(A:i<n)(h:∀m,i<m->m<n->¬(D m/\eG T id m)):dE T D' id n=Tr.find id (T (i+1)):=by
 have h':∀m,i+1<=m->m<n->¬(D' m/\eG T id m):=fun m h1 h2 h3=>by
  rcases(g m).1 h3.1 with h4|h4
  ·exact h m (by omega) h2 ⟨h4,h3.2⟩
  ·omega
 rw[aIN (by omega:i+1<=n) h',aG6 ⟨(g i).2 (.inr rfl),hc⟩]
theorem aQp{D':Nat->Prop}{i n:Nat}(g:∀m,D' m↔(D m\/m=i))(hc:eG T id i)(A:i<n)(h:∀m,i<m->m<n->¬(D m/\eG T id m)):kU T N D' id n=N (i+1):=by
 have h':∀m,i+1<=m->m<n->¬(D' m/\eG T id m):=fun m h1 h2 h3=>by
  rcases(g m).1 h3.1 with h4|h4
  ·exact h m (by omega) h2 ⟨h4,h3.2⟩
  ·omega
 rw[aIL (by omega:i+1<=n) h',aFP ⟨(g i).2 (.inr rfl),hc⟩]
theorem aAA{v0:bR4}{dst:Nat->Option Tmp}{a:Nat->bR4}{t m:Nat}(h:¬(D m/\dst m=some t)):rQ v0 dst a D t (m+1)=rQ v0 dst a D t m:=if_neg h
theorem aDz{v0:bR4}{dst:Nat->Option Tmp}{a:Nat->bR4}{t m:Nat}(h:D m/\dst m=some t):rQ v0 dst a D t (m+1)=a m:=if_pos h
theorem aIO{v0:bR4}{dst:Nat->Option Tmp}{a:Nat->bR4}{t i n:Nat}(A:i<=n)(h:∀m,i<=m->m<n->¬(D m/\dst m=some t)):rQ v0 dst a D t n=rQ v0 dst a D t i:=by
 induction n with
 |zero=>
  have:i=0:=by omega
  rw[this]
 | succ n ih=>
  rcases bJS n i with h'|h'
  ·have:i=n+1:=by omega
   rw[this]
  ·rw[←ih h' (fun m h1 h2=>h m h1 (by omega))]
   exact aAA (h n h' (by omega))
theorem bA1{D':Nat->Prop}{v0:bR4}{dst:Nat->Option Tmp}{a vals':Nat->bR4}{t i n:Nat}(g:∀m,D' m↔(D m\/m=i))(Q:∀m,m≠i->vals' m=a m)(R:¬D i)(hc:dst i≠some t):rQ v0 dst vals' D' t n=rQ v0 dst a D t n:=by
 induction n with
 |zero=>rfl
 | succ n ih=>
  by_cases hn:D n/\dst n=some t
  ·rw[aDz hn,aDz (D:=D') ⟨(g n).2 (.inl hn.1),hn.2⟩]
   exact Q n fun e=>R (e ▸ hn.1)
  ·rw[aAA hn,aAA (D:=D') ?_,ih]
   rintro⟨h1,h2⟩
   rcases(g n).1 h1 with h3|h3
   ·exact hn ⟨h3,h2⟩
   ·subst h3;exact hc h2
theorem bF0{D':Nat->Prop}{v0:bR4}{dst:Nat->Option Tmp}{a:Nat->bR4}{t i n:Nat}(g:∀m,D' m↔(D m\/m=i))(hc:dst i=some t)(A:i<n)(h:∀m,i<m->m<n->¬(D m/\dst m=some t)):rQ v0 dst a D' t n=a i:=by
 have h':∀m,i+1<=m->m<n->¬(D' m/\dst m=some t):=fun m h1 h2 h3=>by
  rcases(g m).1 h3.1 with h4|h4
  ·exact h m (by omega) h2 ⟨h4,h3.2⟩
  ·omega
 rw[aIO (by omega:i+1<=n) h',aDz ⟨(g i).2 (.inr rfl),hc⟩]
end
end
end Ev
end Go.Proofs.YtmjoaipkaddkbaaGreatDoor
