/- TopShell, part 0 of 36. -/
import Derived.Test.YtoeiaflkdcbkdaaGreatDoorQ0
import Derived.Calls
import Derived.Tactics
import Derived.Orders
import Derived.Below
import Derived.Laws.AppendOwn
import Derived.Laws.Rows
import Derived.Laws.Cells
import Derived.Deep.Draws
import Derived.Laws.CopyRow
import Derived.Laws.Tables
import Derived.ChangeKeysEq
import Derived.Great.BuildSlice
import Derived.Laws.Append
import Derived.Laws.BytesString
import Derived.Lib.Builder
import Derived.Lib.UnsafeStr
import Derived.Room.MakeNoZero
set_option linter.unusedVariables false
set_option linter.unusedSimpArgs false
section
namespace Go.Sym
open Go
inductive Tr (α:Type) where
 |nil
 |node (l:Tr α) (v:Option α) (r:Tr α)
namespace Tr
def get {α:Type}:Tr α->Nat->Option α
 |.nil,_=>none
 |.node l v r,n=>if n=0 then v else if n%2=1 then l.get (n/2)else r.get (n/2-1)
def set {α:Type}(x:Option α):Nat->Nat->Tr α->Tr α
 |0,_,t=>t
 |f+1,n,.nil=>if n=0 then .node .nil x .nil else if n%2=1 then .node (set x f (n/2) .nil) none .nil else .node .nil none (set x f (n/2-1) .nil)
 |f+1,n,.node l v r=>if n=0 then .node l x r else if n%2=1 then .node (set x f (n/2) l) v r else .node l v (set x f (n/2-1) r)
theorem get_node {α:Type}(l r:Tr α)(v:Option α)(n:Nat):(Tr.node l v r).get n=if n=0 then v else if n%2=1 then l.get (n/2)else r.get (n/2-1):=rfl
theorem get_set_ne {α:Type}(x:Option α):∀(f n m:Nat) (t:Tr α),m≠n->(set x f n t).get m=t.get m
 |0,_,_,_,_=>rfl
 |f+1,n,m,.nil,h=>by
  unfold set;by_cases h0:n=0
  ·rw[aD6 h0,get_node,aD4 (by omega)];split<;>rfl
  ·rw[aD4 h0];by_cases h1:n%2=1
   ·rw[aD6 h1,get_node];split
    ·rfl
    ·split
     ·rw[get_set_ne x f _ _ _ (by omega)];rfl
     ·rfl
   ·rw[aD4 h1,get_node];split
    ·rfl
    ·split
     ·rfl
     ·rw[get_set_ne x f _ _ _ (by omega)];rfl
 |f+1,n,m,.node l v r,h=>by
  unfold set;by_cases h0:n=0
  ·have hm:m≠0:=by omega
   rw[aD6 h0,get_node,get_node,aD4 hm,aD4 hm]
  ·rw[aD4 h0];by_cases h1:n%2=1
   ·rw[aD6 h1,get_node,get_node];split
    ·rfl
    ·split
     ·rw[get_set_ne x f _ _ _ (by omega)]
     ·rfl
   ·rw[aD4 h1,get_node,get_node];split
    ·rfl
    ·split
     ·rfl
     ·rw[get_set_ne x f _ _ _ (by omega)]
theorem get_set {α:Type}(x:Option α):∀(f n:Nat) (t:Tr α),n+1<2^f->(set x f n t).get n=x
 |0,n,_,h=>by simp at h
 |f+1,n,.nil,h=>by
  rw[aGC]at h;unfold set;by_cases h0:n=0
  ·rw[aD6 h0,get_node,aD6 h0]
  ·rw[aD4 h0];by_cases h1:n%2=1
   ·rw[aD6 h1,get_node,aD4 h0,aD6 h1];exact get_set x f _ _ (by omega)
   ·rw[aD4 h1,get_node,aD4 h0,aD4 h1];exact get_set x f _ _ (by omega)
 |f+1,n,.node l v r,h=>by
  rw[aGC]at h;unfold set;by_cases h0:n=0
  ·rw[aD6 h0,get_node,aD6 h0]
  ·rw[aD4 h0];by_cases h1:n%2=1
   ·rw[aD6 h1,get_node,aD4 h0,aD6 h1];exact get_set x f _ _ (by omega)
   ·rw[aD4 h1,get_node,aD4 h0,aD4 h1];exact get_set x f _ _ (by omega)
end Tr
inductive Cap where
 |ex (c:Nat)
 |lo (i k:Nat)
inductive AV where
 |lit (v:Value)
 |atom (n:Nat)
 |ptr (b o:Nat)
 |slc (b o n sz:Nat) (c:Cap)
 |mp (b:Nat)
 |fn (f:Fn) (first captured:List AV)
 |ifc (t:TypeId) (v:AV)
 |agg (l:List AV)
 |tup (l:List AV)
 |cut (b o n sz:Nat) (c:Cap)
 |elp (n j:Nat)
inductive jR where
 |cells (e:TypeId) (cs:List AV) (tg:Bool)
 |map (es:List (ByteArray×AV))
 |iter (s:ByteArray) (pos:Nat)
structure M where
 H:Tr jR:= .nil
 nb:Nat:=0
 nc:Nat:=0
structure Env where
 blk:Nat->Option (Nat×Nat×Nat×Nat)
 cap:Nat->Option Nat
 atom:Nat->Option Value
structure Env.le (ρ σ:Env):Prop where
 b:∀{i x},ρ.blk i=some x->σ.blk i=some x
 c:∀{i x},ρ.cap i=some x->σ.cap i=some x
 a:∀{i x},ρ.atom i=some x->σ.atom i=some x
theorem Env.le.refl (a:Env):a.le a:=⟨id,id,id⟩
theorem Env.le.trans {a b c:Env}(h:a.le b)(k:b.le c):a.le c:=⟨fun x=>k.b (h.b x),fun x=>k.c (h.c x),fun x=>k.a (h.a x)⟩
def fT (ρ:Env)(b o n sz:Nat):Cap->Option Value
 |.ex c=>match ρ.blk b with
  |some (g,o0,_,m)=>if n<=c/\o+c*sz<=m then some (.slice (some ⟨g,o0+o,none⟩) n c)else none
  |none=>none
 |.lo i k=>match ρ.blk b,ρ.cap i with
  |some (g,o0,z,m),some κ=>if n+k<=κ/\m<=o+(κ-k)*sz/\o0+o+(κ-k)*sz<=z/\κ<=9223372036854775807 then some (.slice (some ⟨g,o0+o,none⟩) n (κ-k))else none
  |_,_=>none
mutual
def aO (ρ:Env):AV->Option Value
 |.lit v=>some v
 |.atom n=>match ρ.atom n with
  |some v=>if v.oneCell'=true then some v else none
  |none=>none
 |.ptr b o=>match ρ.blk b with
  |some (g,o0,_,_)=>some (.pointer (some ⟨g,o0+o,none⟩))
  |none=>none
 |.slc b o n sz c=>fT ρ b o n sz c
 |.mp b=>match ρ.blk b with
  |some (g,_,_,_)=>some (.map (some g))
  |none=>none
 |.fn f a b=>match aT ρ a,aT ρ b with
  |some x,some y=>some (.func f x.toArray y.toArray)
  |_,_=>none
 |.ifc t v=>match aO ρ v with
  |some x=>some (.iface t x)
  |none=>none
 |.agg l=>match aT ρ l with
  |some x=>some (.agg x.toArray)
  |none=>none
 |.tup l=>match aT ρ l with
  |some x=>some (.tuple x.toArray)
  |none=>none
 |.cut b o n sz c=>match fT ρ b o n sz c with
  |some (.slice (some a) k l)=>some (.slice (some (if l=k then a else a.add (k*sz))) 0 (l-k))
  |_=>none
 |.elp n j=>match ρ.atom n with
  |some (.slice (some a) l _)=>if j<l then some (.pointer (some (a.add j)))else none
  |_=>none
def aT (ρ:Env):List AV->Option (List Value)
 |[]=>some []
 |v::l=>match aO ρ v,aT ρ l with
  |some x,some y=>some (x::y)
  |_,_=>none
end
theorem IU {ρ ρ':Env}(h:ρ.le ρ'){b o n sz:Nat}{c:Cap}{x:Value}(hx:fT ρ b o n sz c=some x):fT ρ' b o n sz c=some x:=by
 cases c with
 |ex c=>
  cases hb:ρ.blk b with
  |none=>simp[fT,hb]at hx
  |some q=>simp only[fT,hb]at hx;simp only[fT,h.b hb];exact hx
 |lo i k=>
  cases hb:ρ.blk b with
  |none=>simp[fT,hb]at hx
  |some q=>
   cases hc:ρ.cap i with
   |none=>simp[fT,hb,hc]at hx
   |some κ=>simp only[fT,hb,hc]at hx;simp only[fT,h.b hb,h.c hc];exact hx
mutual
theorem jS {ρ ρ':Env}(h:ρ.le ρ'):∀(v:AV) {x:Value},aO ρ v=some x->aO ρ' v=some x
 |.lit v,x,hx=>by simpa [aO]using hx
 |.atom n,x,hx=>by
  unfold aO at hx⊢
  cases ha:ρ.atom n with
  |none=>simp[ha]at hx
  |some v=>rw[h.a ha];rw[ha]at hx;exact hx
 |.ptr b o,x,hx=>by
  unfold aO at hx⊢
  cases hb:ρ.blk b with
  |none=>simp[hb]at hx
  |some q=>rw[h.b hb];rw[hb]at hx;exact hx
 |.slc b o n sz c,x,hx=>by unfold aO at hx⊢;exact IU h hx
 |.mp b,x,hx=>by
  unfold aO at hx⊢
  cases hb:ρ.blk b with
  |none=>simp[hb]at hx
  |some q=>rw[h.b hb];rw[hb]at hx;exact hx
 |.fn f a b,x,hx=>by
  unfold aO at hx⊢
  cases ha:aT ρ a with
  |none=>simp[ha]at hx
  |some p=>
   cases hb:aT ρ b with
   |none=>simp[ha,hb]at hx
   |some q=>rw[dN h a ha,dN h b hb];rw[ha,hb]at hx;exact hx
 |.ifc t v,x,hx=>by
  unfold aO at hx⊢
  cases ha:aO ρ v with
  |none=>simp[ha]at hx
  |some p=>rw[jS h v ha];rw[ha]at hx;exact hx
 |.agg l,x,hx=>by
  unfold aO at hx⊢
  cases ha:aT ρ l with
  |none=>simp[ha]at hx
  |some p=>rw[dN h l ha];rw[ha]at hx;exact hx
 |.tup l,x,hx=>by
  unfold aO at hx⊢
  cases ha:aT ρ l with
  |none=>simp[ha]at hx
  |some p=>rw[dN h l ha];rw[ha]at hx;exact hx
 |.cut b o n sz c,x,hx=>by
  unfold aO at hx⊢
  cases hs:fT ρ b o n sz c with
  |none=>simp[hs]at hx
  |some q=>rw[IU h hs];rw[hs]at hx;exact hx
 |.elp n j,x,hx=>by
  unfold aO at hx⊢
  cases ha:ρ.atom n with
  |none=>simp[ha]at hx
  |some v=>rw[h.a ha];rw[ha]at hx;exact hx
theorem dN {ρ ρ':Env}(h:ρ.le ρ'):∀(l:List AV) {x:List Value},aT ρ l=some x->aT ρ' l=some x
 |[],x,hx=>by simpa [aT]using hx
 |v::l,x,hx=>by
  unfold aT at hx⊢
  cases ha:aO ρ v with
  |none=>simp[ha]at hx
  |some p=>
   cases hb:aT ρ l with
   |none=>simp[ha,hb]at hx
   |some q=>rw[jS h v ha,dN h l hb];rw[ha,hb]at hx;exact hx
end
theorem aG {ρ:Env}{v:AV}{l:List AV}{x:List Value}:aT ρ (v::l)=some x↔∃p q,aO ρ v=some p/\aT ρ l=some q/\x=p::q:=by
 rw[aT];constructor
 ·intro h
  cases ha:aO ρ v with
  |none=>simp[ha]at h
  |some p=>
   cases hb:aT ρ l with
   |none=>simp[ha,hb]at h
   |some q=>rw[ha,hb]at h;injection h with h;exact⟨p,q,rfl,rfl,h.symm⟩
 ·rintro⟨p,q,ha,hb,rfl⟩;rw[ha,hb]
theorem bN {ρ:Env}:∀{l:List AV} {x:List Value},aT ρ l=some x->x.length=l.length
 |[],x,h=>by rw[aT]at h;injection h with h;subst h;rfl
 |v::l,x,h=>by
  obtain⟨p,q,_,hb,rfl⟩:=aG.1 h;simp[bN hb]
theorem oE {ρ:Env}:∀{l:List AV} {x:List Value},aT ρ l=some x->∀{i:Nat} {v:AV},l[i]?=some v->∃y,x[i]?=some y/\aO ρ v=some y
 |[],_,_,_,_,hi=>by simp at hi
 |v::l,x,h,i,u,hi=>by
  obtain⟨p,q,ha,hb,rfl⟩:=aG.1 h
  cases i with
  |zero=>simp at hi;subst hi;exact⟨p,rfl,ha⟩
  |succ i=>simpa using oE hb (by simpa using hi)
theorem eC {ρ:Env}:∀{a b:List AV} {x y:List Value},aT ρ a=some x->aT ρ b=some y->aT ρ (a++b)=some (x++y)
 |[],_,_,_,ha,hb=>by rw[aT]at ha;injection ha with ha;subst ha;exact hb
 |v::a,b,x,y,ha,hb=>by
  obtain⟨p,q,h1,h2,rfl⟩:=aG.1 ha;exact aG.2 ⟨p,q++y,h1,eC h2 hb,rfl⟩
theorem qP {ρ:Env}:∀(n:Nat) {a:List AV} {x:List Value},aT ρ a=some x->aT ρ (a.take n)=some (x.take n)
 |0,_,_,_=>by simp[aT]
 |n+1,[],x,h=>by rw[aT]at h;injection h with h;subst h;simp[aT]
 |n+1,v::a,x,h=>by
  obtain⟨p,q,h1,h2,rfl⟩:=aG.1 h;exact aG.2 ⟨p,q.take n,h1,qP n h2,rfl⟩
theorem gams_drop {ρ:Env}:∀(n:Nat) {a:List AV} {x:List Value},aT ρ a=some x->aT ρ (a.drop n)=some (x.drop n)
 |0,_,_,h=>by simpa using h
 |n+1,[],x,h=>by rw[aT]at h;injection h with h;subst h;simp[aT]
 |n+1,v::a,x,h=>by
  obtain⟨p,q,h1,h2,rfl⟩:=aG.1 h;simpa using gams_drop n h2
theorem dA {ρ:Env}:∀(l:List Value),aT ρ (l.map .lit)=some l
 |[]=>rfl
 |v::l=>aG.2 ⟨v,l,rfl,dA l,rfl⟩
end Go.Sym
end
namespace Go.Sym
open Go
section
variable {ρ ρ' ρ1:Env}{w w' w1 w2:World}{b j:Nat}{k:jR}{G G':Nat->Prop}{v gh:Value}{xs:List Value}{q:Nat×Nat×Nat×Nat}{m m' m1:M}
theorem big (n:Nat)(h:n<=1000000):n+1<2^64:=Nat.lt_of_le_of_lt (Nat.succ_le_succ h) (by decide)
def gE (ρ:Env)(w:World)(b:Nat):jR->Prop
 |.cells e cs tg=>∃g o z arr xs,ρ.blk b=some (g,o,z,cs.length)/\w.heap[g]?=some (.cells arr e (0,0))/\arr.size=z/\o+cs.length<=z/\aT ρ cs=some xs/\(∀x∈xs,x.oneCell'=true)/\(∀j,j<cs.length->arr[o+j]?=xs[j]?)/\(tg=true->o=0/\z=cs.length)
 |.map es=>∃g entries clock vs,ρ.blk b=some (g,0,0,0)/\w.heap[g]?=some (.map entries clock)/\aT ρ (es.map (·.2))=some vs/\(entries.toList.map (fun e=>(e.key,e.val))).Perm ((es.map fun e=>Value.string e.1).zip vs)/\(es.map fun e=>Value.string e.1).Pairwise (·≠·)
 |.iter s pos=>∃g,ρ.blk b=some (g,0,0,0)/\w.heap[g]?=some (.stringIter s pos)
theorem gE.at_ (h:gE ρ w b k):∃q,ρ.blk b=some q/\q.1<w.heap.size:=by
 cases k with
 |cells e cs tg=>
  obtain⟨g,o,z,arr,xs,h1,h2,_⟩:=h
  exact⟨_,h1,(aD5.1 h2).1⟩
 |map es=>
  obtain⟨g,en,cl,vs,h1,h2,_⟩:=h
  exact⟨_,h1,(aD5.1 h2).1⟩
 |iter s pos=>
  obtain⟨g,h1,h2⟩:=h
  exact⟨_,h1,(aD5.1 h2).1⟩
theorem gE.mono (h:gE ρ w b k)(hl:ρ.le ρ')(hw:∀q,ρ.blk b=some q->w'.heap[q.1]?=w.heap[q.1]?):gE ρ' w' b k:=by
 cases k with
 |cells e cs tg=>
  obtain⟨g,o,z,arr,xs,h1,h2,h3,h4,h5,h6⟩:=h
  exact⟨g,o,z,arr,xs,hl.b h1,(hw _ h1).trans h2,h3,h4,dN hl _ h5,h6⟩
 |map es=>
  obtain⟨g,en,cl,vs,h1,h2,h3,h4⟩:=h
  exact⟨g,en,cl,vs,hl.b h1,(hw _ h1).trans h2,dN hl _ h3,h4⟩
 |iter s pos=>
  obtain⟨g,h1,h2⟩:=h
  exact⟨g,hl.b h1,(hw _ h1).trans h2⟩
structure bK (ρ:Env) (m:M) (w:World):Prop where
 nb:∀i,m.nb<=i->ρ.blk i=none
 nc:∀i,m.nc<=i->ρ.cap i=none
 live:∀b k,m.H.get b=some k->gE ρ w b k
 inj:∀b b' k k' q q',m.H.get b=some k->m.H.get b'=some k'->ρ.blk b=some q->ρ.blk b'=some q'->b≠b'->q.1≠q'.1
 small:m.nb<=1000000
def dD (ρ:Env)(m:M)(g:Nat):Prop:=∃b k q,m.H.get b=some k/\ρ.blk b=some q/\q.1=g
def Rd (G:Nat->Prop)(w:World)(v:Value)(xs:List Value):Prop:=
 ∃A c,v=.slice A xs.length c/\xs.length<=c/\c<=9223372036854775807/\(0<xs.length->∃b off,A=some ⟨b,off,none⟩/\G b/\∀j,j<xs.length->w.cell? ⟨b,off+j,none⟩=xs[j]?)
def NU (f:Nat->Option (Nat×Nat×Nat×Nat))(u:Value):Value->Prop
 |.tuple a=>match a.toList with
  |[.int _ b]=>∃q,f b.toNat=some q/\u=.pointer (some ⟨q.1,q.2.1,none⟩)
  |[.int _ b,.int _ n,.int _ sz]=>∃q c,f b.toNat=some q/\u=.slice (some ⟨q.1,q.2.1,none⟩) n.toNat c/\(n.toNat<=c/\c<=9223372036854775807)/\q.2.2.2<=c*sz.toNat/\q.2.1+c*sz.toNat<=q.2.2.1
  |_=>False
 |y=>u=y
def R7 (f:Nat->Option (Nat×Nat×Nat×Nat))(w:World)(j:Nat):Value->Prop
 |.agg a=>match a.toList with
  |.int _ t::ys=>∃g o z arr,f j=some (g,o,z,ys.length)/\w.heap[g]?=some (.cells arr t.toNat (0,0))/\arr.size=z/\o+ys.length<=z/\∀i y,ys[i]?=some y->∃u,arr[o+i]?=some u/\u.oneCell'=true/\NU f u y
  |_=>False
 |_=>False
def DW (G:Nat->Prop)(w:World)(v:Value)(bs:List Value):Prop:=
 ∃f:Nat->Option (Nat×Nat×Nat×Nat),(∀b b' q q',f b=some q->f b'=some q'->b≠b'->q.1≠q'.1)/\(∀b q,f b=some q->G q.1/\q.1<w.heap.size)/\(∀b,bs.length<=b->f b=none)/\(∀j y,bs[j]?=some y->R7 f w j y)/\∃q,f 0=some q/\v=.pointer (some ⟨q.1,q.2.1,none⟩)
def nS (G:Nat->Prop)(w:World)(t sz:Nat)(v:Value)(ys:List Value):Prop:=
 ∃A n c,v=.slice A n c/\n<=c/\c<=9223372036854775807/\ys.length=n*sz/\((A=none/\c=0)∨∃b off arr,A=some ⟨b,off,none⟩/\G b/\w.heap[b]?=some (.cells arr t (0,0))/\off+c*sz<=arr.size/\∀j,j<ys.length->arr[off+j]?=ys[j]?)
def RSp (G:Nat->Prop)(w:World)(t:Nat)(v:Value):Value->Prop
 |.iface sz (.agg ys)=>nS G w t sz v ys.toList
 |_=>True
def Sp (G:Nat->Prop)(w:World)(v:Value):Value->Prop
 |.agg xs=>Rd G w v xs.toList
 |.tuple xs=>DW G w v xs.toList
 |.iface t gh=>RSp G w t v gh
 |_=>True
theorem Rd.mono (h:Rd G w v xs)(hG:∀b,G b->b<w.heap.size->w'.heap[b]?=w.heap[b]?/\G' b):Rd G' w' v xs:=by
 obtain⟨A,c,h1,h2,h3,h4⟩:=h;refine⟨A,c,h1,h2,h3,fun hp=>?_⟩;obtain⟨b,off,e,g,hc⟩:=h4 hp;have h0:=hc 0 hp;have ha:b<w.heap.size:=World.block_lt_of_cell? w _ (h0.trans (aEB hp));obtain⟨k1,k2⟩:=hG b g ha;exact⟨b,off,e,k2,fun j hj=>(World.cell?_of_block (a:=⟨b,off+j,none⟩) k1).trans (hc j hj)⟩
theorem R7.mono {f:Nat->Option (Nat×Nat×Nat×Nat)}{y:Value}(h:R7 f w j y)(hw:∀q,f j=some q->w'.heap[q.1]?=w.heap[q.1]?):R7 f w' j y:=by
 unfold R7 at h⊢;split at h
 ·split at h
  ·obtain⟨g,o,z,arr,h1,h2,h3⟩:=h;exact⟨g,o,z,arr,h1,(hw _ h1).trans h2,h3⟩
  ·exact h
 ·exact h
theorem DW.mono (h:DW G w v xs)(hG:∀b,G b->b<w.heap.size->w'.heap[b]?=w.heap[b]?/\G' b):DW G' w' v xs:=by
 obtain⟨f,h1,h2,h3,h4,h5⟩:=h;refine⟨f,h1,fun b q hq=>?_,h3,fun j y hy=>(h4 j y hy).mono fun q hq=>(hG _ (h2 j q hq).1 (h2 j q hq).2).1,h5⟩;obtain⟨k1,k2⟩:=h2 b q hq;obtain⟨k3,k4⟩:=hG _ k1 k2;refine⟨k4,?_⟩;rw[aFA k2]at k3;exact(aD5.1 k3).1
theorem nS.mono {t sz:Nat}{ys:List Value}(h:nS G w t sz v ys)(hG:∀b,G b->b<w.heap.size->w'.heap[b]?=w.heap[b]?/\G' b):nS G' w' t sz v ys:=by
 obtain⟨A,n,c,h1,h2,h3,h4,h5⟩:=h;refine⟨A,n,c,h1,h2,h3,h4,h5.imp id ?_⟩;rintro⟨b,off,arr,e,g,hb,hs,hc⟩;obtain⟨k1,k2⟩:=hG b g (aD5.1 hb).1;exact⟨b,off,arr,e,k2,k1.trans hb,hs,hc⟩
theorem RSp.mono {t:Nat}(h:RSp G w t v gh)(hG:∀b,G b->b<w.heap.size->w'.heap[b]?=w.heap[b]?/\G' b):RSp G' w' t v gh:=by
 unfold RSp at h⊢;split at h
 ·exact nS.mono h hG
 ·trivial
theorem Sp.mono (h:Sp G w v gh)(hG:∀b,G b->b<w.heap.size->w'.heap[b]?=w.heap[b]?/\G' b):Sp G' w' v gh:=by
 cases gh<;>first|trivial|exact Rd.mono h hG|exact DW.mono h hG|exact RSp.mono h hG
def gid (k:Nat):Nat:=4*k+2
def keyOf (n:Nat):Nat:=n/2%1024
def auD (w:World)(m:M)(ρ':Env)(m':M)(w':World)(n:Nat)(v:Value):Prop:=
 n%2=1/\m.nc<=n/2048/\n/2048<m'.nc/\∃gh,ρ'.atom (gid (keyOf n))=some gh/\Sp (fun g=>w.heap.size<=g/\¬dD ρ' m' g) w' v gh
def K7 (w w':World)(q:Nat×Nat×Nat×Nat):Prop:=∀arr t,w.heap[q.1]?=some (.cells arr t (0,0))->∃aa,w'.heap[q.1]?=some (.cells aa t (0,0))/\aa.size=arr.size/\∀i,(i<q.2.1∨q.2.1+q.2.2.2<=i)->aa[i]?=arr[i]?
theorem K7.same (h:w'.heap[q.1]?=w.heap[q.1]?):K7 w w' q:=fun arr _ ha=>⟨arr,h.trans ha,rfl,fun _ _=>rfl⟩
theorem K7.trans (h:K7 w w1 q)(k:K7 w1 w2 q):K7 w w2 q:=fun arr t ha=>by
 obtain⟨a1,h1,h2,h3⟩:=h arr t ha;obtain⟨a2,k1,k2,k3⟩:=k a1 t h1;exact⟨a2,k1,k2.trans h2,fun i hi=>(k3 i hi).trans (h3 i hi)⟩
structure aX (ρ:Env) (m:M) (w:World) (ρ':Env) (m':M) (w':World):Prop where
 le:ρ.le ρ'
 rel:bK ρ' m' w'
 keep:∀g,g<w.heap.size->¬dD ρ m g->w'.heap[g]?=w.heap[g]?
 fresh:∀g,dD ρ' m' g->w.heap.size<=g∨dD ρ m g
 size:w.heap.size<=w'.heap.size
 os:w'.os=w.os
 tape:w'.tape=w.tape
 output:w'.output=w.output
 nbm:m.nb<=m'.nb
 fix:∀i,i<m.nb->ρ'.blk i=ρ.blk i
 ids:∀b k,m'.H.get b=some k->(∃k0,m.H.get b=some k0)∨m.nb<=b
 ncm:m.nc<=m'.nc
 ats:∀n v,ρ'.atom n=some v->ρ.atom n=some v∨auD w m ρ' m' w' n v
 out:∀b k k' q,m.H.get b=some k->m'.H.get b=some k'->ρ.blk b=some q->K7 w w' q
structure aE where
 K:Nat->Prop
 W:World
 A:Nat->Option Value
structure eM (B:aE) (ρ:Env) (m:M) (w:World):Prop where
 size:∀g,B.K g->g<w.heap.size
 old:∀g,B.K g->w.heap[g]?=B.W.heap[g]?
 hi:∀g,dD ρ m g->¬B.K g
 at_:∀i x,B.A i=some x->ρ.atom i=some x
 rd:∀n v,ρ.atom n=some v->n%2=1->n/2048<m.nc/\∃gh,ρ.atom (gid (keyOf n))=some gh/\Sp (fun g=>¬dD ρ m g) w v gh
 ev:∀i x,B.A i=some x->i%2≠1
theorem aX.ctx {B:aE}(S:aX ρ m w ρ' m' w')(h:eM B ρ m w):eM B ρ' m' w':=
 ⟨fun g hg=>aEL (h.size g hg) S.size,fun g hg=>(S.keep g (h.size g hg) (fun hl=>h.hi g hl hg)).trans (h.old g hg),fun g hl hk=>by
   rcases S.fresh g hl with hx|hx
   ·have:=h.size g hk;omega
   ·exact h.hi g hx hk,fun i x hi=>S.le.a (h.at_ i x hi),fun n v hn ho=>by
   rcases S.ats n v hn with hx|⟨_,_,h3,gh,h4,h5⟩
   ·obtain⟨k1,gh,k2,k3⟩:=h.rd n v hx ho;refine⟨aEL k1 S.ncm,gh,S.le.a k2,k3.mono fun b hb ha=>⟨S.keep b ha hb,fun hl=>?_⟩⟩;rcases S.fresh b hl with hy|hy
    ·omega
    ·exact hb hy
   ·exact⟨h3,gh,h4,h5.mono fun b hb _=>⟨rfl,hb.2⟩⟩,h.ev⟩
theorem eM.sub {B:aE}(h:eM B ρ m w)(hs:∀b k,m'.H.get b=some k->∃k',m.H.get b=some k')(hc:m.nc<=m'.nc):eM B ρ m' w:=
 have ha:∀g,dD ρ m' g->dD ρ m g:=fun g hl=>by
  obtain⟨b,k,q,h1,h2,h3⟩:=hl;obtain⟨k',h4⟩:=hs b k h1;exact⟨b,k',q,h4,h2,h3⟩
 ⟨h.size,h.old,fun g hl=>h.hi g (ha g hl),h.at_,fun n v hn ho=>by
   obtain⟨k1,gh,k2,k3⟩:=h.rd n v hn ho;exact⟨aEL k1 hc,gh,k2,k3.mono fun b hb _=>⟨rfl,fun hl=>hb (ha b hl)⟩⟩,h.ev⟩
theorem bK.lt (h:bK ρ m w)(hb:m.H.get b=some k):b<m.nb:=by
 obtain⟨q,hq,_⟩:=(h.live b k hb).at_;rcases aEU b m.nb with hx|hx
 ·exact hx
 ·rw[h.nb b hx]at hq;cases hq
theorem bK.drewN (h:bK ρ m w)(n:Nat):bK ρ m (w.drewN n):=
 ⟨h.nb,h.nc,fun b k hb=>(h.live b k hb).mono (.refl _) (fun _ _=>rfl),h.inj,h.small⟩
theorem aX.refl (h:bK ρ m w):aX ρ m w ρ m w:=
 ⟨.refl _,h,fun _ _ _=>rfl,fun _ hg=> .inr hg,aD1 _,rfl,rfl,rfl,aD1 _,fun _ _=>rfl,fun _ k hb=> .inl ⟨k,hb⟩,aD1 _,fun _ _ h=> .inl h,fun _ _ _ _ _ _ _=> .same rfl⟩
theorem aX.trans {ρ2:Env}{m2:M}(h:aX ρ m w ρ1 m1 w1)(k:aX ρ1 m1 w1 ρ2 m2 w2):aX ρ m w ρ2 m2 w2:=
 ⟨h.le.trans k.le,k.rel,fun g hg hn=>(k.keep g (aEL hg h.size) (fun hl=>by
    rcases h.fresh g hl with hx|hx
    ·omega
    ·exact hn hx)).trans (h.keep g hg hn),
   fun g hg=>by
    rcases k.fresh g hg with hx|hx
    ·exact .inl (aEI h.size hx)
    ·exact h.fresh g hx,
   aEI h.size k.size,k.os.trans h.os,k.tape.trans h.tape,k.output.trans h.output,aEI h.nbm k.nbm,fun i hi=>(k.fix i (aEL hi h.nbm)).trans (h.fix i hi),fun b kk hb=>by
    rcases k.ids b kk hb with⟨k0,h0⟩|h0
    ·exact h.ids b k0 h0
    ·exact .inr (aEI h.nbm h0),aEI h.ncm k.ncm,fun n v hn=>by
    rcases k.ats n v hn with hx|⟨h1,h2,h3,gh,h4,h5⟩
    ·rcases h.ats n v hx with hy|⟨h1,h2,h3,gh,h4,h5⟩
     ·exact .inl hy
     ·refine .inr ⟨h1,h2,aEL h3 k.ncm,gh,k.le.a h4,h5.mono fun b hb ha=>⟨k.keep b ha hb.2,hb.1,fun hl=>?_⟩⟩;rcases k.fresh b hl with hz|hz
      ·omega
      ·exact hb.2 hz
    ·exact .inr ⟨h1,aEI h.ncm h2,h3,gh,h4,h5.mono fun b hb _=>⟨rfl,aEI h.size hb.1,hb.2⟩⟩,fun b k0 k2 q h0 h2 hq=>by
    rcases k.ids b k2 h2 with⟨k1,h1⟩|h1
    ·exact(h.out b k0 k1 q h0 h1 hq).trans (k.out b k1 k2 q h1 h2 (h.le.b hq))
    ·have:=h.rel.nb b h1;rw[h.le.b hq]at this
     cases this⟩
theorem aX.drewN (h:aX ρ m w ρ1 m1 w1)(n:Nat):aX ρ m w ρ1 m1 (w1.drewN n):=
 ⟨h.le,h.rel.drewN n,h.keep,h.fresh,h.size,h.os,h.tape,h.output,h.nbm,h.fix,h.ids,h.ncm,h.ats,h.out⟩
def qQ (m:M)(k:jR):Option M:=if m.nb<1000000 then some {m with H:=m.H.set (some k) 64 m.nb,nb:=m.nb+1}else none
def iJ (m:M)(i:Nat)(k:Option jR):M:={m with H:=m.H.set k 64 i}
theorem eD {i:Nat}{k:Option jR}(h:j≠i):(iJ m i k).H.get j=m.H.get j:=Tr.get_set_ne _ _ _ _ _ h
theorem jU {i:Nat}{k:Option jR}(h:i<=1000000):(iJ m i k).H.get i=k:=Tr.get_set _ _ _ _ (big _ (by omega))
theorem qR (h:qQ m k=some m'):m.nb<1000000/\m'={m with H:=m.H.set (some k) 64 m.nb,nb:=m.nb+1}:=by
 unfold qQ at h;split at h
 ·injection h with h;exact⟨‹_›,h.symm⟩
 ·cases h
theorem aX.put (h:bK ρ m w){k':jR}(hb:m.H.get b=some k)(hq:ρ.blk b=some q)(hj:K7 w w' q)(hk:gE ρ w' b k')(ho:∀g,g≠q.1->w'.heap[g]?=w.heap[g]?)(hs:w'.heap.size=w.heap.size)(os:w'.os=w.os)(tape:w'.tape=w.tape)(output:w'.output=w.output):
  aX ρ m w ρ (iJ m b (some k')) w':=by
 have hD:=h.lt hb
 have hp:=h.small
 have hr:(iJ m b (some k')).H.get b=some k':=jU (by omega)
 have hd:∀c kk,(iJ m b (some k')).H.get c=some kk->∃k0,m.H.get c=some k0:=by
  intro c kk hc;by_cases hf:c=b
  ·subst hf;exact⟨k,hb⟩
  ·rw[eD hf]at hc;exact⟨kk,hc⟩
 have hh:∀g,dD ρ (iJ m b (some k')) g->dD ρ m g:=by
  rintro g ⟨c,kk,qq,hc,ht,rfl⟩;obtain⟨k0,hv⟩:=hd c kk hc;exact⟨c,k0,qq,hv,ht,rfl⟩
 refine⟨.refl _,⟨h.nb,h.nc,fun c kk hc=>?_,fun c c' kk ka qq qa hc hx hz hl hA=>?_,hp⟩,fun g hg hn=>?_,fun g hg=> .inr (hh g hg),by omega,os,tape,output,aD1 _,fun _ _=>rfl,fun c kk hc=> .inl (hd c kk hc),aD1 _,fun _ _ h=> .inl h,fun c k1 k2 q1 h1 _ hi=>?_⟩
 rotate_right
 ·by_cases hf:c=b
  ·subst hf;rw[hq]at hi;injection hi with hi;subst hi;exact hj
  ·exact .same (ho _ (h.inj c b _ _ _ _ h1 hb hi hq hf))
 ·by_cases hf:c=b
  ·subst hf;rw[hr]at hc;injection hc with hc;subst hc;exact hk
  ·rw[eD hf]at hc;refine(h.live c kk hc).mono (.refl _) (fun qq hB=>ho _ (h.inj c b _ _ _ _ hc hb hB hq hf))
 ·obtain⟨a,ha⟩:=hd c kk hc;obtain⟨a',hC⟩:=hd c' ka hx;exact h.inj c c' a a' qq qa ha hC hz hl hA
 ·exact ho g (fun e=>hn ⟨b,k,q,hb,hq,e.symm⟩)
theorem aX.kill (h:bK ρ m w)(hb:m.H.get b=some k)(hq:ρ.blk b=some q)(ho:∀g,g≠q.1->w'.heap[g]?=w.heap[g]?)(hs:w'.heap.size=w.heap.size)(os:w'.os=w.os)(tape:w'.tape=w.tape)(output:w'.output=w.output):
  aX ρ m w ρ (iJ m b none) w':=by
 have ht:=h.lt hb
 have hh:=h.small
 have ha:∀c kk,(iJ m b none).H.get c=some kk->c≠b/\m.H.get c=some kk:=by
  intro c kk hc;by_cases hd:c=b
  ·subst hd;rw[jU (by omega)]at hc;cases hc
  ·rw[eD hd]at hc;exact⟨hd,hc⟩
 refine⟨.refl _,⟨h.nb,h.nc,fun c kk hc=>?_,fun c c' kk ka qq qa hc hi hj hf hk=>?_,hh⟩,fun g hg hn=>?_,?_,by omega,os,tape,output,aD1 _,fun _ _=>rfl,fun c kk hc=> .inl ⟨kk,(ha c kk hc).2⟩,aD1 _,fun _ _ h=> .inl h,fun c k1 k2 q1 h1 h2 hl=> .same (ho _ (h.inj c b _ _ _ _ h1 hb hl hq (ha c k2 h2).1))⟩
 ·obtain⟨hd,hc⟩:=ha c kk hc;exact(h.live c kk hc).mono (.refl _) (fun qq hp=>ho _ (h.inj c b _ _ _ _ hc hb hp hq hd))
 ·exact h.inj c c' kk ka qq qa (ha c kk hc).2 (ha c' ka hi).2 hj hf hk
 ·exact ho g (fun e=>hn ⟨b,k,q,hb,hq,e.symm⟩)
 ·rintro g ⟨c,kk,qq,hc,hr,rfl⟩;exact .inr ⟨c,kk,qq,(ha c kk hc).2,hr,rfl⟩
def Env.addB (ρ:Env)(i:Nat)(q:Nat×Nat×Nat×Nat):Env:={ρ with blk:=fun k=>if k=i then some q else ρ.blk k}
def Env.addC (ρ:Env)(j:Nat):Option Nat->Env
 |none=>ρ
 |some c=>{ρ with cap:=fun k=>if k=j then some c else ρ.cap k}
def cN:Option Nat->Nat
 |none=>0
 |some _=>1
theorem Env.le_addB {i:Nat}(q:Nat×Nat×Nat×Nat)(h:ρ.blk i=none):ρ.le (ρ.addB i q):=
 ⟨fun {k x} hx=>by
   show(if k=i then some q else ρ.blk k)=some x;rw[aD4 (fun e=>by rw[e,h]at hx;cases hx)];exact hx,id,id⟩
theorem Env.le_addC (c:Option Nat)(h:ρ.cap j=none):ρ.le (ρ.addC j c):=by
 cases c with
 |none=>exact .refl _
 |some c=>
  exact⟨id,fun {k x} hx=>by
   show(if k=j then some c else ρ.cap k)=some x;rw[aD4 (fun e=>by rw[e,h]at hx;cases hx)];exact hx,id⟩
theorem Env.addB_new (ρ:Env)(i:Nat)(q:Nat×Nat×Nat×Nat):(ρ.addB i q).blk i=some q:=aD6 rfl
theorem Env.addB_old {i k:Nat}(q:Nat×Nat×Nat×Nat)(h:k≠i):(ρ.addB i q).blk k=ρ.blk k:=aD4 h
theorem Env.addC_new (ρ:Env)(j c:Nat):(ρ.addC j (some c)).cap j=some c:=aD6 rfl
theorem Env.addC_old {k:Nat}(c:Option Nat)(h:k≠j):(ρ.addC j c).cap k=ρ.cap k:=by
 cases c with
 |none=>rfl
 |some c=>exact aD4 h
theorem Env.addC_blk (ρ:Env)(j:Nat)(c:Option Nat):(ρ.addC j c).blk=ρ.blk:=by cases c<;>rfl
def Env.add (ρ:Env)(m:M)(q:Nat×Nat×Nat×Nat)(c:Option Nat):Env:=(ρ.addC m.nc c).addB m.nb q
theorem Env.add_atom (ρ:Env)(m:M)(q:Nat×Nat×Nat×Nat)(c:Option Nat)(n:Nat):(ρ.add m q c).atom n=ρ.atom n:=by cases c<;>rfl
theorem Env.add_new (ρ:Env)(m:M)(q:Nat×Nat×Nat×Nat)(c:Option Nat):(ρ.add m q c).blk m.nb=some q:=Env.addB_new _ _ _
theorem Env.add_cap (ρ:Env)(m:M)(q:Nat×Nat×Nat×Nat)(c:Nat):(ρ.add m q (some c)).cap m.nc=some c:=Env.addC_new ρ m.nc c
theorem bK.le_add (h:bK ρ m w)(q:Nat×Nat×Nat×Nat)(c:Option Nat):ρ.le (ρ.add m q c):=
 (Env.le_addC c (h.nc _ (aD1 _))).trans (Env.le_addB q (by rw[Env.addC_blk];exact h.nb _ (aD1 _)))
theorem NV (h:bK ρ m w)(q:Nat×Nat×Nat×Nat)(cs:Option Nat)(hm:qQ m k=some m')(hq:¬dD ρ m q.1)(hk:gE (ρ.add m q cs) w' m.nb k)(ho:∀g,g<w.heap.size->g≠q.1->w'.heap[g]?=w.heap[g]?):
  bK (ρ.add m q cs) {m' with nc:=m.nc+cN cs} w'/\∀g,dD (ρ.add m q cs) {m' with nc:=m.nc+cN cs} g->g=q.1∨dD ρ m g:=by
 obtain⟨hx,rfl⟩:=qR hm
 have hnew:(m.H.set (some k) 64 m.nb).get m.nb=some k:=Tr.get_set _ _ _ _ (big _ (by omega))
 have hold:∀c,c≠m.nb->(m.H.set (some k) 64 m.nb).get c=m.H.get c:=fun c hc=>Tr.get_set_ne _ _ _ _ _ hc
 have hf:(ρ.add m q cs).blk m.nb=some q:=Env.add_new _ _ _ _
 have ha:∀c,c≠m.nb->(ρ.add m q cs).blk c=ρ.blk c:=by
  intro c hc;unfold Env.add;rw[Env.addB_old q hc,Env.addC_blk]
 refine⟨⟨fun i hi=>?_,fun i hi=>?_,fun c kk hc=>?_,fun c c' kk ka qq qa hc hp hg hb hr=>?_,by show m.nb+1<=_;omega⟩,?_⟩
 ·have hl:m.nb+1<=i:=hi;rw[ha i (by omega)];exact h.nb i (by omega)
 ·have hl:m.nc+cN cs<=i:=hi;show(ρ.addC m.nc cs).cap i=none
  cases cs with
  |none=>exact h.nc i (by simpa [cN]using hl)
  |some c=>rw[Env.addC_old _ (by simp[cN]at hl;omega)];exact h.nc i (by omega)
 ·by_cases hs:c=m.nb
  ·subst hs;have:some k=some kk:=hnew.symm.trans hc;injection this with this;subst this;exact hk
  ·have hd:m.H.get c=some kk:=(hold c hs).symm.trans hc;refine(h.live c kk hd).mono (h.le_add q cs) (fun qq hj=>?_);obtain⟨q0,ht,hv⟩:=(h.live c kk hd).at_;rw[ht]at hj;injection hj with hj;subst hj
   exact ho _ hv (fun e=>hq ⟨c,kk,q0,hd,ht,e⟩)
 ·by_cases h1:c=m.nb
  ·subst h1;have h2:c'≠m.nb:=fun e=>hr e.symm
   have hd:m.H.get c'=some ka:=(hold c' h2).symm.trans hp;rw[hf]at hg;injection hg with hg;subst hg
   rw[ha c' h2]at hb;intro e;exact hq ⟨c',ka,qa,hd,hb,e.symm⟩
  ·have hd:m.H.get c=some kk:=(hold c h1).symm.trans hc;rw[ha c h1]at hg;by_cases h2:c'=m.nb
   ·subst h2;rw[hf]at hb;injection hb with hb;subst hb
    intro e;exact hq ⟨c,kk,qq,hd,hg,e⟩
   ·have hn:m.H.get c'=some ka:=(hold c' h2).symm.trans hp;rw[ha c' h2]at hb;exact h.inj c c' kk ka qq qa hd hn hg hb hr
 ·rintro g ⟨c,kk,qq,hc,hh,rfl⟩;by_cases h1:c=m.nb
  ·subst h1;rw[hf]at hh;injection hh with hh;subst hh
   exact .inl rfl
  ·have hd:m.H.get c=some kk:=(hold c h1).symm.trans hc;rw[ha c h1]at hh;exact .inr ⟨c,kk,qq,hd,hh,rfl⟩
theorem abX (hm:qQ m k=some m'){c:Nat}:m.nb<=({m' with nc:=c}:M).nb:=by
 obtain⟨_,rfl⟩:=qR hm;exact aHH _
theorem UY (_:bK ρ m w)(q:Nat×Nat×Nat×Nat)(c:Option Nat)(i:Nat)(hi:i<m.nb):(ρ.add m q c).blk i=ρ.blk i:=by
 unfold Env.add;rw[Env.addB_old q (by omega),Env.addC_blk]
theorem K8 (hm:qQ m k=some m'){n:Nat}(c:Nat)(kk:jR)(hc:({m' with nc:=n}:M).H.get c=some kk):(∃k0,m.H.get c=some k0)∨m.nb<=c:=by
 obtain⟨_,rfl⟩:=qR hm;by_cases ha:c=m.nb
 ·exact .inr (by omega)
 ·exact .inl ⟨kk,(Tr.get_set_ne _ _ _ _ _ ha).symm.trans hc⟩
theorem aX.new (h:bK ρ m w)(q:Nat×Nat×Nat×Nat)(cs:Option Nat)(hm:qQ m k=some m')(hf:w.heap.size<=q.1)(hk:gE (ρ.add m q cs) w' m.nb k)(ho:∀g,g<w.heap.size->w'.heap[g]?=w.heap[g]?)(hs:w.heap.size<=w'.heap.size)(os:w'.os=w.os)(tape:w'.tape=w.tape)(output:w'.output=w.output):
  aX ρ m w (ρ.add m q cs) {m' with nc:=m.nc+cN cs} w':=by
 have hq:¬dD ρ m q.1:=by
  rintro⟨c,kk,qq,hc,hh,e⟩;obtain⟨q0,ha,hd⟩:=(h.live c kk hc).at_;rw[hh]at ha;injection ha with ha;subst ha
  omega
 obtain⟨h1,h2⟩:=NV h q cs hm hq hk (fun g hg _=>ho g hg)
 exact⟨h.le_add _ _,h1,fun g hg _=>ho g hg,fun g hg=>by
  rcases h2 g hg with rfl|hx
  ·exact .inl hf
  ·exact .inr hx,hs,os,tape,output,abX hm,fun i hi=>UY h q cs i hi,fun c kk hc=>K8 hm c kk hc,Nat.le_add_right _ _,fun n v hn=> .inl (by rw[Env.add_atom]at hn;exact hn),fun c k1 _ q1 h1 _ hj=>by
  obtain⟨q2,hb,hd⟩:=(h.live c k1 h1).at_;rw[hj]at hb;injection hb with hb;subst hb
  exact .same (ho _ hd)⟩
theorem aX.renew (h:bK ρ m w){k0:jR}{q0:Nat×Nat×Nat×Nat}(hb:m.H.get b=some k0)(hf:ρ.blk b=some q0)(q:Nat×Nat×Nat×Nat)(cs:Option Nat)(hm:qQ (iJ m b none) k=some m')(hj:q.1=q0.1)(hk:gE (ρ.add m q cs) w' m.nb k)(ho:∀g,g≠q.1->w'.heap[g]?=w.heap[g]?)(hs:w'.heap.size=w.heap.size)(os:w'.os=w.os)(tape:w'.tape=w.tape)(output:w'.output=w.output):
  aX ρ m w (ρ.add m q cs) {m' with nc:=m.nc+cN cs} w':=by
 have hh:=aX.kill (w':=w) h hb hf (fun _ _=>rfl) rfl rfl rfl rfl
 have ht:=h.small
 have hv:=h.lt hb
 have ha:∀c kk,(iJ m b none).H.get c=some kk->c≠b/\m.H.get c=some kk:=by
  intro c kk hc;by_cases hd:c=b
  ·subst hd;rw[jU (by omega)]at hc;cases hc
  ·rw[eD hd]at hc;exact⟨hd,hc⟩
 have hq:¬dD ρ (iJ m b none) q.1:=by
  rintro⟨c,kk,qq,hc,hl,e⟩;obtain⟨hd,hp⟩:=ha c kk hc;exact h.inj c b kk k0 qq q0 hp hb hl hf hd (by rw[e,hj])
 obtain⟨h1,h2⟩:=NV hh.rel q cs hm hq hk (fun g _ hg=>ho g hg)
 refine⟨h.le_add _ _,h1,fun g hg hn=>ho g (fun e=>hn ⟨b,k0,q0,hb,hf,by rw[e,hj]⟩),fun g hg=>?_,by omega,os,tape,output,(abX hm:(iJ m b none).nb<=_),fun i hi=>UY h q cs i hi,fun c kk hc=>by
  rcases K8 hm c kk hc with⟨k1,h3⟩|h3
  ·exact .inl ⟨k1,(ha c k1 h3).2⟩
  ·exact .inr h3,Nat.le_add_right _ _,fun n v hn=> .inl (by rw[Env.add_atom]at hn;exact hn),fun c k1 k2 q1 h3 h4 hr=>by
  have hd:c≠b:=by
   rcases K8 hm c k2 h4 with⟨k5,h5⟩|h5
   ·exact(ha c k5 h5).1
   ·have:=h.lt h3;have h6:m.nb<=c:=h5;omega
  exact .same (ho _ (by rw[hj];exact h.inj c b _ _ _ _ h3 hb hr hf hd))⟩
 rcases h2 g hg with rfl|hx
 ·exact .inr ⟨b,k0,q0,hb,hf,hj.symm⟩
 ·obtain⟨c,kk,qq,hc,hl,e⟩:=hx;exact .inr ⟨c,kk,qq,(ha c kk hc).2,hl,e⟩
end
section
variable {α:Type}{P:Program}{ρ:Env}{v:AV}{x:Value}{m m':M}{w:World}{b g o0 z l:Nat}{e:TypeId}{cs:List AV}{tg:Bool}{ys:List Value}
def cC (P:Program):Sem α->Option α
 |.pure a=>some a
 |.program k=>cC P (k P)
 |.mark _ k=>cC P k
 |_=>none
theorem gJ:∀{s:Sem α} {a:α},cC P s=some a->∀w,s.run P w=.ok a w
 |.pure a,b,h,w=>by simp[cC]at h;subst h;rfl
 |.program k,b,h,w=>by simp only[cC]at h;simp only[Sem.run];exact gJ h w
 |.mark _ k,b,h,w=>by simp only[cC]at h;simp only[Sem.run];exact gJ h w
 |.load ..,b,h,w=>by simp[cC]at h
 |.store ..,b,h,w=>by simp[cC]at h
 |.new ..,b,h,w=>by simp[cC]at h
 |.shape ..,b,h,w=>by simp[cC]at h
 |.freeze ..,b,h,w=>by simp[cC]at h
 |.frozen ..,b,h,w=>by simp[cC]at h
 |.getObj ..,b,h,w=>by simp[cC]at h
 |.setObj ..,b,h,w=>by simp[cC]at h
 |.choose ..,b,h,w=>by simp[cC]at h
 |.sys ..,b,h,w=>by simp[cC]at h
 |.halt ..,b,h,w=>by simp[cC]at h
mutual
def fX:AV->Option Value
 |.lit v=>some v
 |.agg l=>match kF l with
  |some x=>some (.agg x.toArray)
  |none=>none
 |.tup l=>match kF l with
  |some x=>some (.tuple x.toArray)
  |none=>none
 |.ifc t v=>match fX v with
  |some x=>some (.iface t x)
  |none=>none
 |.fn f a b=>match kF a,kF b with
  |some x,some y=>some (.func f x.toArray y.toArray)
  |_,_=>none
 |_=>none
def kF:List AV->Option (List Value)
 |[]=>some []
 |v::l=>match fX v,kF l with
  |some x,some y=>some (x::y)
  |_,_=>none
end
mutual
theorem iZ (ρ:Env):∀(v:AV) {x:Value},fX v=some x->aO ρ v=some x
 |.lit v,x,h=>by simpa [fX,aO]using h
 |.atom n,x,h=>by simp[fX]at h
 |.ptr b o,x,h=>by simp[fX]at h
 |.slc b o n sz c,x,h=>by simp[fX]at h
 |.mp b,x,h=>by simp[fX]at h
 |.cut b o n sz c,x,h=>by simp[fX]at h
 |.elp n j,x,h=>by simp[fX]at h
 |.fn f a b,x,h=>by
  unfold fX at h;unfold aO
  cases ha:kF a with
  |none=>simp[ha]at h
  |some p=>
   cases hb:kF b with
   |none=>simp[ha,hb]at h
   |some q=>rw[kG ρ a ha,kG ρ b hb];rw[ha,hb]at h;exact h
 |.ifc t v,x,h=>by
  unfold fX at h;unfold aO
  cases ha:fX v with
  |none=>simp[ha]at h
  |some p=>rw[iZ ρ v ha];rw[ha]at h;exact h
 |.agg l,x,h=>by
  unfold fX at h;unfold aO
  cases ha:kF l with
  |none=>simp[ha]at h
  |some p=>rw[kG ρ l ha];rw[ha]at h;exact h
 |.tup l,x,h=>by
  unfold fX at h;unfold aO
  cases ha:kF l with
  |none=>simp[ha]at h
  |some p=>rw[kG ρ l ha];rw[ha]at h;exact h
theorem kG (ρ:Env):∀(l:List AV) {x:List Value},kF l=some x->aT ρ l=some x
 |[],x,h=>by simpa [kF,aT]using h
 |v::l,x,h=>by
  unfold kF at h
  cases ha:fX v with
  |none=>simp[ha]at h
  |some p=>
   cases hb:kF l with
   |none=>simp[ha,hb]at h
   |some q=>
    rw[ha,hb]at h;injection h with h
    exact aG.2 ⟨p,q,iZ ρ v ha,kG ρ l hb,h.symm⟩
end
def one:AV->Bool
 |.lit v=>v.oneCell'
 |.agg _|.tup _=>false
 |_=>true
theorem UZ (h:one v=true)(hx:aO ρ v=some x):x.oneCell'=true:=by
 cases v with
 |lit v=>simp only[aO]at hx;injection hx with hx;subst hx;exact h
 |atom n=>
  unfold aO at hx
  cases ha:ρ.atom n with
  |none=>simp[ha]at hx
  |some v=>
   simp only[ha]at hx
   split at hx
   ·injection hx with hx;subst hx;assumption
   ·cases hx
 |ptr b o=>
  unfold aO at hx
  cases hb:ρ.blk b with
  |none=>simp[hb]at hx
  |some q=>simp only[hb]at hx;injection hx with hx;subst hx;rfl
 |slc b o n sz c=>
  unfold aO at hx
  cases c with
  |ex c=>
   cases hb:ρ.blk b with
   |none=>simp[fT,hb]at hx
   |some q=>simp only[fT,hb]at hx;split at hx;· injection hx with hx;subst hx;rfl
            ·cases hx
  |lo i k=>
   cases hb:ρ.blk b with
   |none=>simp[fT,hb]at hx
   |some q=>
    cases hc:ρ.cap i with
    |none=>simp[fT,hb,hc]at hx
    |some κ=>simp only[fT,hb,hc]at hx;split at hx;· injection hx with hx;subst hx;rfl
             ·cases hx
 |mp b=>
  unfold aO at hx
  cases hb:ρ.blk b with
  |none=>simp[hb]at hx
  |some q=>simp only[hb]at hx;injection hx with hx;subst hx;rfl
 |fn f a b=>
  unfold aO at hx
  split at hx
  ·injection hx with hx;subst hx;rfl
  ·cases hx
 |ifc t v=>
  unfold aO at hx
  split at hx
  ·injection hx with hx;subst hx;rfl
  ·cases hx
 |agg l=>cases h
 |tup l=>cases h
 |cut b o n sz c=>
  unfold aO at hx
  split at hx
  ·injection hx with hx;subst hx;rfl
  ·cases hx
 |elp n j=>
  unfold aO at hx
  split at hx
  ·split at hx
   ·injection hx with hx;subst hx;rfl
   ·cases hx
  ·cases hx
theorem xW:∀{l:List AV} {x:List Value},l.all one=true->aT ρ l=some x->∀y∈x,y.oneCell'=true
 |[],x,_,hx=>by rw[aT]at hx;injection hx with hx;subst hx;intro y hy;cases hy
 |v::l,x,h,hx=>by
  obtain⟨p,q,h1,h2,rfl⟩:=aG.1 hx;rw[List.all_cons,aD3]at h;intro y hy;rcases aER.1 hy with rfl|hy
  ·exact UZ h.1 h1
  ·exact xW h.2 h2 y hy
def DX:AV->Option (List AV)
 |.lit (.agg cs)=>some (cs.toList.map .lit)
 |.agg l=>some l
 |v=>if one v then some [v]else none
theorem wA {l:List AV}(h:DX v=some l)(hx:aO ρ v=some x):aT ρ l=some x.cells.toList:=by
 have hone:∀u:AV,one u=true->aO ρ u=some x->aT ρ [u]=some x.cells.toList:=by
  intro u hu hg;have h1:=UZ hu hg;have:x.cells=#[x]:=by cases x<;>first|rfl|(simp[Value.oneCell']at h1)
  rw[this];exact aG.2 ⟨x,[],hg,rfl,rfl⟩
 unfold DX at h;split at h
 ·injection h with h;subst h
  simp only[aO]at hx;injection hx with hx;subst hx
  exact dA _
 ·injection h with h;subst h
  unfold aO at hx;split at hx
  ·rename_i p hp;injection hx with hx;subst hx;simpa [Value.cells]using hp
  ·cases hx
 ·split at h
  ·injection h with h;subst h
   exact hone _ ‹_› hx
  ·cases h
theorem wB (h:bK ρ m w)(hb:m.H.get b=some (.cells e cs tg)):
 ∃g o0 z arr xs,ρ.blk b=some (g,o0,z,cs.length)/\w.heap[g]?=some (.cells arr e (0,0))/\arr.size=z/\o0+cs.length<=z/\aT ρ cs=some xs/\(∀x∈xs,x.oneCell'=true)/\(∀j,j<cs.length->arr[o0+j]?=xs[j]?)/\(tg=true->o0=0/\z=cs.length):=h.live b _ hb
theorem gF (g o i:Nat):(⟨g,o,none⟩:Addr).add i=⟨g,o+i,none⟩:=by unfold Addr.add;split<;>simp_all
theorem kH (h:bK ρ m w)(hb:m.H.get b=some (.cells e cs tg))(hq:ρ.blk b=some (g,o0,z,l))(o n:Nat)(hn:o+n<=cs.length):
  ∃ys,aT ρ ((cs.drop o).take n)=some ys/\ys.length=n/\(∀y∈ys,y.oneCell'=true)/\(∀j v,ys[j]?=some v->w.cell? ((⟨g,o0+o,none⟩:Addr).add j)=some v)/\(loadCells ⟨g,o0+o,none⟩ n).run P w=.ok ys.toArray w:=by
 obtain⟨g',o',z',arr,xs,h1,h2,h3,h4,h5,h6,h7,h8⟩:=wB h hb
 rw[hq]at h1;injection h1 with h1;injection h1 with e1 h1;injection h1 with e2 h1
 subst e1;subst e2
 have hl:=bN h5
 have hy:=qP n (gams_drop o h5)
 have ha:((xs.drop o).take n).length=n:=by rw[aF6,aF7];omega
 have hc:∀j v,((xs.drop o).take n)[j]?=some v->w.cell? ((⟨g,o0+o,none⟩:Addr).add j)=some v:=by
  intro j v hv;have hj:j<n:=by have:=(aED.1 hv).1;omega
  rw[gF,cell_of_row w g _ _ _ _ h2,aF9,h7 (o+j) (by omega)];rw[aE5,aD6 hj,aFX]at hv;exact hv
 refine⟨_,hy,ha,fun y hy=>h6 y (aGI (aGJ hy)),hc,?_⟩
 have:=run_loadCells_list (P:=P) w ⟨g,o0+o,none⟩ _ hc
 rw[ha]at this
 exact this
def wr (cs:List AV)(o:Nat)(xs:List AV):List AV:=cs.take o++xs++cs.drop (o+xs.length)
theorem uJ (cs:List AV)(o:Nat)(xs:List AV)(h:o+xs.length<=cs.length):(wr cs o xs).length=cs.length:=by
 unfold wr;simp;omega
theorem abY {o n p:Nat}{arr:Array Value}(hh:w.heap[g]?=some (.cells arr e (0,0)))(hl:o+n<=arr.size)(h1:o<=p)(h2:p+ys.length<=o+n):
  K7 w (w.setRow g (arr.toList.take p++ys++arr.toList.drop (p+ys.length)).toArray) (g,o,z,n):=by
 intro aa t ha
 have hb:w.heap[g]?=some (.cells aa t (0,0)):=ha
 rw[hh]at hb
 injection hb with hb
 injection hb with e1 e2
 subst e1 e2
 refine⟨_,setRow_heap w g arr _ e (0,0) hh,by simp;omega,fun i hi=>?_⟩
 have hc:i<o∨o+n<=i:=hi
 have T1:(arr.toList.take p).length=p:=by rw[aF6,aFE];omega
 simp only[aFO]
 rw[aEF]
 rcases hc with hc|hc
 ·rw[aEG (by omega),aE5,aD6 (by omega)];simp
 ·rw[aEO (by omega),T1,aEO (by omega),aFX,show p+ys.length+(i-p-ys.length)=i by omega];simp
theorem pL (h:bK ρ m w)(hb:m.H.get b=some (.cells e cs tg))(hq:ρ.blk b=some (g,o0,z,l))(o:Nat){ls:List AV}(hg:aT ρ ls=some ys)(h1:∀y∈ys,y.oneCell'=true)(hn:o+ls.length<=cs.length):
  ∃w',(storeCells ⟨g,o0+o,none⟩ ys).run P w=.ok () w'/\aX ρ m w ρ (iJ m b (some (.cells e (wr cs o ls) tg))) w':=by
 obtain⟨g',o',z',arr,xs,k1,k2,k3,k4,k5,k6,k7,k8⟩:=wB h hb
 have hd:=hq
 rw[hq]at k1;injection k1 with k1;injection k1 with e1 k1;injection k1 with e2 k1;injection k1 with e3 e4
 subst e1;subst e2;subst e3;subst e4
 have hf:=bN hg
 have hh:=bN k5
 have hc:=run_storeCells_at P g (o0+o) e ys 0 arr w k2 (by omega) h1
 refine⟨_,hc,aX.put h hb hd (abY k2 (by omega) (by omega) (by omega)) ?_ (fun k hk=>setRow_other w g k _ hk) (by simp) rfl rfl rfl⟩
 refine⟨g,o0,z,_,xs.take o++ys++xs.drop (o+ys.length),by rw[uJ cs o ls hn];exact hd,setRow_heap w g arr _ e (0,0) k2,?_,by rw[uJ cs o ls hn];exact k4,?_,?_,?_,by rw[uJ cs o ls hn];exact k8⟩
 ·simp;omega
 ·unfold wr;rw[<-hf];exact eC (eC (qP o k5) hg) (gams_drop _ k5)
 ·intro x hx;rcases aEQ.1 hx with hx|hx
  ·rcases aEQ.1 hx with hx|hx
   ·exact k6 x (aGJ hx)
   ·exact h1 x hx
  ·exact k6 x (aGI hx)
 ·intro j hj;rw[uJ cs o ls hn]at hj;have ha:∀i,i<cs.length->arr.toList[o0+i]?=xs[i]?:=fun i hi=>by rw[<-k7 i hi];simp
  simp only[aFO,aE2];have T1:(arr.toList.take (o0+o)).length=o0+o:=by rw[aF6,aFE];omega
  have T2:(xs.take o).length=o:=by rw[aF6];omega
  rw[aEF,aEF];by_cases c1:j<o
  ·rw[aEG (by omega),aEG (by omega),aE5,aE5,aD6 (by omega),aD6 c1];exact ha j hj
  ·have L:∀D:List Value,(arr.toList.take (o0+o)++(ys++D))[o0+j]?=(ys++D)[j-o]?:=fun D=>by
    rw[aEO (by omega),T1,show o0+j-(o0+o)=j-o by omega]
   have R:∀D:List Value,(xs.take o++(ys++D))[j]?=(ys++D)[j-o]?:=fun D=>by
    rw[aEO (by omega),T2]
   rw[L,R];by_cases c2:j<o+ys.length
   ·rw[aEG (by omega),aEG (by omega)]
   ·have L2:∀D:List Value,(ys++D)[j-o]?=D[j-o-ys.length]?:=fun D=>aEO (by omega)
    rw[L2,L2,aFX,aFX];have:=ha j hj;rw[show o0+o+ys.length+(j-o-ys.length)=o0+j by omega,show o+ys.length+(j-o-ys.length)=j by omega];exact this
theorem new_row (h:bK ρ m w)(e:TypeId){xs:List Value}(hg:aT ρ cs=some xs)(h1:∀x∈xs,x.oneCell'=true)(hm:qQ m (.cells e cs tg)=some m')(rest:List Value)(κ:Option Nat)(ha:tg=true->rest=[]):
  aX ρ m w (ρ.add m (w.heap.size,0,xs.length+rest.length,cs.length) κ) {m' with nc:=m.nc+cN κ} (w.alloc (.cells (xs++rest).toArray e)):=by
 have hl:=bN hg
 exact aX.new h (w':=w.alloc (.cells (xs++rest).toArray e)) (w.heap.size,0,xs.length+rest.length,cs.length) κ hm (aD1 _)
  ⟨w.heap.size,0,_,(xs++rest).toArray,xs,Env.add_new _ _ _ _,heap_alloc_new w _,by simp,by omega,dN (h.le_add _ _) _ hg,h1,fun j hj=>by
    rw[aFO,aEV,aEG (by omega)],fun ht=>⟨rfl,by rw[ha ht];simpa using hl⟩⟩
  (fun g hg=>heap_alloc_old _ _ _ hg) (by simp) rfl rfl rfl
theorem DY {k:jR}(hm:qQ m k=some m'):{m' with nc:=m.nc+cN none}=m':=by
 obtain⟨_,rfl⟩:=qR hm;rfl
theorem U0 (ρ:Env)(m:M)(q:Nat×Nat×Nat×Nat)(c:Option Nat)(o:Nat):aO (ρ.add m q c) (.ptr m.nb o)=some (.pointer (some ⟨q.1,q.2.1+o,none⟩)):=by
 unfold aO;rw[Env.add_new]
end
section
variable {P:Program}{ρ:Env}{m m':M}{w:World}{r v:AV}{x p:Value}{b o:Nat}{cs:List AV}{xs:List Value}
structure cZ where
 desc:TypeDesc
 agg:Bool
 size:Nat
 bytes:Nat
 zero:List Value
 zv:Value
 flds:List (Nat×Nat×TypeId)
def auE:TypeDesc->Bool
 |.struct _|.array _ _=>true
 |_=>false
structure aAQ (P:Program) (t:TypeId) (i:cZ):Prop where
 und:P.underlying t=some i.desc
 agg:i.agg=auE i.desc
 info:∃inf z,P.info? t=some inf/\inf.size=i.size/\inf.bytes=i.bytes/\inf.zero=some z/\z.cells.toList=i.zero/\i.zero.length=i.size/\∀x∈i.zero,x.oneCell'=true
 zv:(P.info? t).bind (·.zero)=some i.zv
 flds:∀fs,i.desc=.struct fs->fs.toList.mapM (fun f=>(P.info? f.type).map fun i=>(f.offset,i.size))=some (i.flds.map fun q=>(q.1,q.2.1))/\fs.toList.map (·.type)=i.flds.map (·.2.2)
def tA (P:Program)(T:TypeId->Option cZ):Prop:=∀t i,T t=some i->aAQ P t i
section
variable {P:Program}{T:TypeId->Option cZ}(hT:tA P T)
include hT
theorem auF {t:TypeId}{i:cZ}(h:T t=some i)(w:World):(underlying t).run P w=.ok i.desc w:=run_underlying (hT t i h).und w
theorem NW {t:TypeId}{i:cZ}(h:T t=some i)(w:World):(isAgg t).run P w=.ok i.agg w:=by
 unfold isAgg;simp only[Sem.run_bind,auF hT h,Result.andThen_ok];rw[(hT t i h).agg]
 cases i.desc<;>rfl
theorem an0 {t:TypeId}{i:cZ}(h:T t=some i)(w:World):∃inf,P.info? t=some inf/\inf.size=i.size/\inf.bytes=i.bytes/\(typeInfo t).run P w=.ok inf w:=by
 obtain⟨inf,z,h1,h2,h3,_⟩:=(hT t i h).info;exact⟨inf,h1,h2,h3,by simp[typeInfo,h1]⟩
theorem iK {t:TypeId}{i:cZ}(h:T t=some i)(w:World):(sizeOf t).run P w=.ok i.size w:=by
 obtain⟨inf,_,h2,_,h4⟩:=an0 hT h w;simp[sizeOf,h4,h2]
theorem abZ {t:TypeId}{i:cZ}(h:T t=some i)(w:World):∃z,(zeroValue t).run P w=.ok z w/\z.cells.toList=i.zero:=by
 obtain⟨inf,z,h1,h2,h3,h4,h5,_⟩:=(hT t i h).info;exact⟨z,by simp[zeroValue,typeInfo,h1,h4],h5⟩
end
def bS (P:Program)(s:Sem Value)(ρ:Env)(m:M)(w:World)(r:AV)(m':M):Prop:=
 ∃ρ' w' x,s.run P w=.ok x w'/\aO ρ' r=some x/\aX ρ m w ρ' m' w'
def ab0 (P:Program)(s:Sem Unit)(ρ:Env)(m:M)(w:World)(m':M):Prop:=
 ∃ρ' w',s.run P w=.ok () w'/\aX ρ m w ρ' m' w'
theorem bS.here {s:Sem Value}(h:bK ρ m w)(hr:s.run P w=.ok x w)(hx:aO ρ r=some x):bS P s ρ m w r m:=
 ⟨ρ,w,x,hr,hx,.refl h⟩
def IV (T:TypeId->Option cZ)(m:M)(t:TypeId)(b o:Nat):Option AV:=
 match T t,m.H.get b with
 |some i,some (.cells _ cs _)=>
  if i.agg then(if o+i.size<=cs.length then some (.agg ((cs.drop o).take i.size))else none)else cs[o]?
 |_,_=>none
theorem iF (h:aO ρ (.ptr b o)=some p):∃g o0 z l,ρ.blk b=some (g,o0,z,l)/\p=.pointer (some ⟨g,o0+o,none⟩):=by
 unfold aO at h
 cases hb:ρ.blk b with
 |none=>simp[hb]at h
 |some q=>obtain⟨g,o0,z,l⟩:=q;simp only[hb]at h;injection h with h;exact⟨g,o0,z,l,rfl,h.symm⟩
theorem IW {T:TypeId->Option cZ}(hT:tA P T)(h:bK ρ m w){t:TypeId}(hl:IV T m t b o=some v)(hp:aO ρ (.ptr b o)=some p):
  ∃y,(Instr.loadAt t p).run P w=.ok y w/\aO ρ v=some y:=by
 obtain⟨g,o0,z,l,hq,rfl⟩:=iF hp
 unfold IV at hl
 split at hl
 ·rename_i i e cs tg hi hb;by_cases ha:i.agg=true
  ·rw[aD6 ha]at hl;split at hl
   ·injection hl with hl;subst hl
    obtain⟨ys,h1,h2,h3,h4,h5⟩:=kH (P:=P) h hb hq o i.size ‹_›;refine⟨.agg ys.toArray,?_,(by unfold aO;rw[h1])⟩;simp[Instr.loadAt,Instr.sureAddr,loadVar,NW hT hi,ha,iK hT hi,h5]
   ·cases hl
  ·rw[aD4 ha]at hl;have hf:i.agg=false:=by simpa using ha
   have ho:o<cs.length:=(aED.1 hl).1;obtain⟨ys,h1,h2,h3,h4,h5⟩:=kH (P:=P) h hb hq o 1 (by omega)
   have hd:(cs.drop o).take 1=[v]:=by
    apply aF1;intro j;rw[aE5]
    cases j with
    |zero=>simp[hl]
    |succ j=>simp
   rw[hd]at h1;obtain⟨y,q,hy,hg,rfl⟩:=aG.1 h1;have hc:=h4 0 y rfl;rw[gF,aE2]at hc;refine⟨y,?_,hy⟩;simp[Instr.loadAt,Instr.sureAddr,loadVar,NW hT hi,hf,run_load,hc]
 ·cases hl
theorem aiM {T:TypeId->Option cZ}(hT:tA P T)(h:bK ρ m w){t:TypeId}(hl:IV T m t b o=some v)(hp:aO ρ (.ptr b o)=some p):
  bS P (Instr.loadAt t p) ρ m w v m:=by
 obtain⟨y,h1,h2⟩:=IW (P:=P) hT h hl hp
 exact bS.here h h1 h2
def K9 (T:TypeId->Option cZ)(m:M)(t:TypeId)(b o:Nat)(v:AV):Option M:=
 match T t,m.H.get b,DX v with
 |some i,some (.cells e cs tg),some xs=>if xs.length=i.size&&decide (o+xs.length<=cs.length)&&xs.all one then some (iJ m b (some (.cells e (wr cs o xs) tg)))else none
 |_,_,_=>none
theorem ab1 {T:TypeId->Option cZ}(hT:tA P T)(h:bK ρ m w){t:TypeId}(hl:K9 T m t b o v=some m')(hp:aO ρ (.ptr b o)=some p)(hx:aO ρ v=some x):
  ab0 P (Instr.storeAt t p x) ρ m w m':=by
 obtain⟨g,o0,z,l,hq,rfl⟩:=iF hp
 unfold K9 at hl
 split at hl
 ·rename_i i e cs tg xs hi hb hc;split at hl
  ·rename_i ha;injection hl with hl;subst hl
   simp only[aD3,aEP]at ha;obtain⟨⟨c1,c2⟩,c3⟩:=ha;have hg:=wA hc hx;have hlen:=bN hg;obtain⟨w',hr,hs⟩:=pL (P:=P) h hb hq o hg (xW c3 hg) c2;refine⟨ρ,w',?_,hs⟩;simp only[aFE]at hlen;simp[Instr.storeAt,Instr.sureAddr,storeVar,iK hT hi,hlen,c1,hr]
  ·cases hl
 ·cases hl
def C2 (m:M)(e:TypeId)(cs:List AV):Option (AV×M):=
 if cs.all one then(qQ m (.cells e cs true)).map fun m'=>(.ptr m.nb 0,m')else none
theorem IX (h:bK ρ m w){e:TypeId}(hn:C2 m e cs=some (v,m'))(hg:aT ρ cs=some xs):
  ∃ρ' w' a,(newRow e xs.toArray).run P w=.ok a w'/\aO ρ' v=some (.pointer (some a))/\aX ρ m w ρ' m' w':=by
 unfold C2 at hn
 split at hn
 ·rename_i h1
  cases hm:qQ m (.cells e cs true)with
  |none=>simp[hm]at hn
  |some m1=>
   rw[hm]at hn
   simp only[aFH]at hn
   injection hn with hn;injection hn with hv ha;subst hv;subst ha
   have hs:=new_row h e hg (xW h1 hg) hm [] none (fun _=>rfl)
   rw[DY hm]at hs
   refine⟨_,_,⟨w.heap.size,0,none⟩,?_,U0 ρ m _ _ _,hs⟩
   rw[aET]
   rfl
 ·cases hn
def LA (T:TypeId->Option cZ)(m:M)(t:TypeId):Option (AV×M):=
 match T t with
 |some i=>C2 m t (i.zero.map .lit)
 |none=>none
theorem ab2 {T:TypeId->Option cZ}(hT:tA P T)(h:bK ρ m w){t:TypeId}(ha:LA T m t=some (v,m')):
  bS P (Instr.alloc t true (.tuple #[])) ρ m w v m':=by
 unfold LA at ha
 split at ha
 ·rename_i i hi;obtain⟨z,hz,hb⟩:=abZ hT hi w;obtain⟨ρ',w',a,hr,hg,hs⟩:=IX (P:=P) h ha (dA i.zero);refine⟨ρ',w',_,?_,hg,hs⟩;rw[<-hb,aFP]at hr;simp[Instr.alloc,hz,newVar,hr]
 ·cases ha
def aiN (m:M)(t:TypeId)(v:AV):Option (AV×M):=
 match DX v with
 |some cs=>C2 m t cs
 |none=>none
theorem an1 (h:bK ρ m w){t:TypeId}(ha:aiN m t v=some (r,m'))(hx:aO ρ v=some x):
  bS P (Instr.box t x) ρ m w r m':=by
 unfold aiN at ha
 split at ha
 ·rename_i cs hc;obtain⟨ρ',w',a,hr,hg,hs⟩:=IX (P:=P) h ha (wA hc hx);refine⟨ρ',w',_,?_,hg,hs⟩;rw[aFP]at hr;simp[Instr.box,newVar,hr]
 ·cases ha
def DZ (place:Nat->Option (Nat×Nat))(cells:List AV):List (Nat×AV)->Option (List AV)
 |[]=>some cells
 |(i,v)::rest=>
  match place i,DX v with
  |some (off,size),some cs=>if cs.length=size&&decide (off+cs.length<=cells.length)then DZ place (wr cells off cs) rest else none
  |_,_=>none
theorem IY (off:Nat):∀(us:List Value) (k:Nat) (cells:Array Value),off+k+us.length<=cells.size->
  ((us.zipIdx k).foldl (fun cs (c:Value×Nat)=>cs.setIfInBounds (off+c.2) c.1) cells).toList=cells.toList.take (off+k)++us++cells.toList.drop (off+k+us.length)
 |[],k,cells,_=>by simp
 |u::us,k,cells,h=>by
  have ih:=IY off us (k+1) (cells.setIfInBounds (off+k) u) (by simp at h⊢;omega);rw[List.zipIdx_cons,List.foldl_cons,ih,Array.toList_setIfInBounds];have:=list_seg_step cells.toList (off+k) u us (by simp at h⊢;omega);simpa [aF9]using this
theorem aiO {cells:List AV}{us:List Value}(h:aT ρ cells=some xs)(hc:aT ρ cs=some us)(off:Nat):aT ρ (wr cells off cs)=some (xs.take off++us++xs.drop (off+us.length)):=by
 unfold wr;rw[<-bN hc];exact eC (eC (qP off h) hc) (gams_drop _ h)
theorem C3 {ρ:Env}{place:Nat->Option (Nat×Nat)}:∀{parts:List (Nat×AV)} {cells r:List AV},DZ place cells parts=some r->∀{xs:Array Value},aT ρ cells=some xs.toList->∀{ps:List (Nat×Value)},ps.map (·.1)=parts.map (·.1)->aT ρ (parts.map (·.2))=some (ps.map (·.2))->
  ∃ys:Array Value,Instr.fill place xs ps=some ys/\aT ρ r=some ys.toList
 |[],cells,r,h,xs,hx,ps,h1,_=>by
  unfold DZ at h;injection h with h;subst h
  obtain rfl:ps=[]:=by simpa using h1
  exact⟨xs,rfl,hx⟩
 |(i,v)::parts,cells,r,h,xs,hx,ps,h1,h2=>by
  cases ps with
  |nil=>simp at h1
  |cons pu ps=>
   obtain⟨i',u⟩:=pu
   simp only[aFB,List.cons.injEq]at h1
   obtain⟨rfl,h1⟩:=h1
   obtain⟨p,q,hv,hr,he⟩:=aG.1 h2
   simp only[aFB,List.cons.injEq]at he
   obtain⟨rfl,rfl⟩:=he
   unfold DZ at h
   split at h
   ·rename_i off size cs hb hc;split at h
    ·rename_i ha;simp only[aD3,aEP]at ha;obtain⟨c1,c2⟩:=ha;have hg:=wA hc hv;have hlen:=bN hg;have hd:=bN hx;simp only[aFE]at hlen hd;have hf:=IY off u.cells.toList 0 xs (by simp;omega);have hw:=aiO hx hg off;rw[aE2]at hf;obtain⟨ys,hh,hi⟩:=C3 h (xs:=(u.cells.toList.zipIdx 0).foldl (fun cs (c:Value×Nat)=>cs.setIfInBounds (off+c.2) c.1) xs) (by rw[hf];exact hw) h1 hr;refine⟨ys,?_,hi⟩;simp only[Instr.fill,hb];rw[aD4 (by simp;omega)];rw[<-hh,<-Array.foldl_toList,Array.toList_zipIdx]
    ·cases h
   ·cases h
end
section
variable {parts:List (Nat×AV)}{v:AV}{ps:Array (Nat×Value)}{α:Type}{x:Value}{b g o0 z l:Nat}
variable {P:Program}{T:TypeId->Option cZ}{ρ:Env}{m m':M}{w:World}
def LB (T:TypeId->Option cZ)(t:TypeId)(parts:List (Nat×AV)):Option AV:=
 match T t with
 |some i=>match i.desc with
  |.struct _=>match DZ (fun k=>(i.flds[k]?).map fun q=>(q.1,q.2.1)) (i.zero.map .lit) parts with
   |some l=>some (.agg l)
   |none=>none
  |.array _ e=>match T e with
   |some ie=>match DZ (fun k=>some (k*ie.size,ie.size)) (i.zero.map .lit) parts with
    |some l=>some (.agg l)
    |none=>none
   |none=>none
  |_=>none
 |none=>none
theorem ab3 (hT:tA P T)(h:bK ρ m w){t:TypeId}(hb:LB T t parts=some v)(h1:ps.toList.map (·.1)=parts.map (·.1))(h2:aT ρ (parts.map (·.2))=some (ps.toList.map (·.2))):
  bS P (Instr.build t ps) ρ m w v m:=by
 unfold LB at hb
 split at hb
 case h_2=>cases hb
 rename_i i hi
 obtain⟨inf,z,k1,k2,k3,k4,k5,k6⟩:=(hT t i hi).info
 have hz:aT ρ (i.zero.map .lit)=some z.cells.toList:=by rw[k5];exact dA _
 have hu:=(hT t i hi).und
 split at hb
 ·rename_i fs hd;split at hb
  case h_2=>cases hb
  rename_i l hl;injection hb with hb;subst hb
  obtain⟨ys,y1,y2⟩:=C3 hl hz h1 h2;obtain⟨f1,f2⟩:=(hT t i hi).flds fs hd;refine bS.here h (x:= .agg ys) (run_build w t ps ys ?_) (by unfold aO;rw[y2]);unfold Program.built;rw[hd]at hu;simp only[k1,hu,k4,f1];rw[<-y1];congr 1
  funext k;simp
 ·rename_i n e hd;split at hb
  case h_2=>cases hb
  rename_i ie ha;split at hb
  case h_2=>cases hb
  rename_i l hl;injection hb with hb;subst hb
  obtain⟨ys,y1,y2⟩:=C3 hl hz h1 h2;obtain⟨ea,ez,e1,e2,_⟩:=(hT e ie ha).info;refine bS.here h (x:= .agg ys) (run_build w t ps ys ?_) (by unfold aO;rw[y2]);unfold Program.built;rw[hd]at hu;simp only[k1,hu,k4,e1,e2];exact y1
 ·cases hb
def xX:Nat->List α->List α
 |0,_=>[]
 |n+1,l=>l++xX n l
theorem oF:∀(n:Nat) (l:List α),(xX n l).length=n*l.length
 |0,l=>by simp[xX]
 |n+1,l=>by rw[xX,aD2,oF n l,Nat.succ_mul,Nat.add_comm]
theorem U1:∀(n:Nat) (l:List α) (j:Nat),j<n*l.length->(xX n l)[j]?=l[j%l.length]?
 |0,l,j,h=>by simp at h
 |n+1,l,j,h=>by
  rw[xX];by_cases c:j<l.length
  ·rw[aEG c,Nat.mod_eq_of_lt c]
  ·rw[aEO (by omega),U1 n l (j-l.length) (by rw[Nat.succ_mul]at h;omega)];congr 1
   conv=>rhs;rw[show j=(j-l.length)+l.length by omega,Nat.add_mod_right]
theorem xY {β:Type}(f:α->β):∀(n:Nat) (l:List α),xX n (l.map f)=(xX n l).map f
 |0,l=>rfl
 |n+1,l=>by rw[xX,xX,xY f n l,aGU]
theorem C4 {x:α}:∀{n:Nat} {l:List α},x∈xX n l->x∈l
 |0,l,h=>by cases h
 |n+1,l,h=>by
  rw[xX]at h;rcases aEQ.1 h with h|h
  ·exact h
  ·exact C4 h
theorem zW (z:Array Value)(n:Nat):((Array.range (n*z.size)).map (z[· % z.size]!)).toList=xX n z.toList:=by
 apply aF1;intro j;by_cases h:j<n*z.size
 ·rw[U1 n z.toList j (by simpa using h)]
  have hs:0<z.size:=by
   rcases aFY z.size with h0|h0
   ·rw[h0]at h;simp at h
   ·exact h0
  have hm:=Nat.mod_lt j hs;simp[h,getElem!_def,aFA hm]
 ·rw[aFI (by simp;omega),aFI (by rw[oF];simpa using h)]
def pM (T:TypeId->Option cZ)(m:M)(t:TypeId)(len:Nat)(parts:List (Nat×AV)):Option (AV×M):=
 match T t with
 |some i=>match i.desc with
  |.slice e=>match T e with
   |some ie=>if len=0 then(match parts,qQ m (.cells e [] true)with
     |[],some m'=>some (.slc m.nb 0 0 ie.size (.ex 0),m')
     |_,_=>none)
    else if decide (0<len*ie.size)&&decide (len*ie.size<=16777216)then
     match DZ (fun k=>some (k*ie.size,ie.size)) (xX len (ie.zero.map .lit)) parts with
     |some cs=>if cs.all one&&decide (cs.length=len*ie.size)then(match qQ m (.cells e cs true)with
      |some m'=>some (.slc m.nb 0 len ie.size (.ex len),m')
      |none=>none)else none
     |none=>none
    else none
   |none=>none
  |_=>none
 |none=>none
theorem wC (ρ:Env)(m:M)(g z l:Nat)(n sz c:Nat)(κ:Option Nat)(h1:n<=c)(h2:c*sz<=l):aO (ρ.add m (g,0,z,l) κ) (.slc m.nb 0 n sz (.ex c))=some (.slice (some ⟨g,0,none⟩) n c):=by
 unfold aO fT;rw[Env.add_new];simp[h1,h2]
theorem ID (hT:tA P T)(h:bK ρ m w){t:TypeId}{len:Nat}(hb:pM T m t len parts=some (v,m'))(h1:ps.toList.map (·.1)=parts.map (·.1))(h2:aT ρ (parts.map (·.2))=some (ps.toList.map (·.2))):
  bS P (Instr.buildSlice t len ps) ρ m w v m':=by
 unfold pM at hb
 split at hb
 case h_2=>cases hb
 rename_i i hi
 split at hb
 case h_2=>cases hb
 rename_i e hd
 split at hb
 case h_2=>cases hb
 rename_i ie hf
 split at hb
 ·rename_i h0;subst h0;split at hb
  case h_2=>cases hb
  rename_i m1 hm;injection hb with hb;injection hb with hv ha;subst hv;subst ha
  have hu:=(hT t i hi).und;rw[hd]at hu
  have hg:ps=#[]:=by
   have:ps.toList=[]:=by simpa using h1
   rw[<-Array.toList_inj,this]
  subst hg;have hs:=new_row h e (cs:=[]) (xs:=[]) rfl (fun x hx=>by cases hx) hm [] none (fun _=>rfl);rw[DY hm]at hs;refine⟨_,_,.slice (some ⟨w.heap.size,0,none⟩) 0 0,?_,wC ρ m _ _ _ 0 ie.size 0 none (aD1 _) (by simp),hs⟩;simp[Instr.buildSlice,run_underlying hu,iK hT hf,Instr.fill,newRow];congr 2;apply Array.toList_inj.1;simp
 split at hb
 case isFalse=>cases hb
 rename_i hh
 simp only[aD3,aEP]at hh
 split at hb
 case h_2=>cases hb
 rename_i cs hj
 split at hb
 case isFalse=>cases hb
 rename_i hone
 simp only[aD3,aEP]at hone
 split at hb
 case h_2=>cases hb
 rename_i m1 hm
 injection hb with hb;injection hb with hv ha;subst hv;subst ha
 obtain⟨inf,z,k1,k2,k3,k4,k5,k6,k7⟩:=(hT e ie hf).info
 have hu:=(hT t i hi).und
 rw[hd]at hu
 have hk:z.cells.size=ie.size:=by rw[<-k6,<-k5];simp
 have hz:aT ρ (xX len (ie.zero.map .lit))=some ((Array.range (len*ie.size)).map (z.cells[· % z.cells.size]!)).toList:=by
  rw[<-hk,zW,k5,xY];exact dA _
 obtain⟨ys,y1,y2⟩:=C3 hj hz h1 h2
 have hc:=run_buildSlice (P:=P) w t e len ps ys inf z hu k1 k4 (by rw[k2];omega) (by rw[k2];omega) (by rw[k2];exact y1)
 have hs:=new_row h e y2 (xW hone.1 y2) hm [] none (fun _=>rfl)
 rw[DY hm]at hs
 rw[aET,aFP]at hs
 refine⟨_,_,_,hc,?_,hs⟩
 exact wC ρ m _ _ _ len ie.size len none (aD1 _) (by omega)
def vO:AV->Option Nat
 |.lit (.int _ (.ofNat n))=>some n
 |_=>none
theorem jA {n:Nat}(h:vO v=some n)(hx:aO ρ v=some x):∃k,x=.int k n:=by
 unfold vO at h;split at h
 ·injection h with h;subst h
  simp only[aO]at hx;injection hx with hx
  exact⟨_,hx.symm⟩
 ·cases h
def rS (T:TypeId->Option cZ)(m:M)(t:TypeId)(l c:AV):Option (AV×M):=
 match T t,vO l,vO c with
 |some i,some l,some c=>match i.desc with
  |.slice e=>match T e with
   |some ie=>if decide (l<=c)&&decide (c*ie.bytes<=16777216)&&decide (c<=16777216)&&decide (0<ie.size)then
     (match qQ m (.cells e (xX c (ie.zero.map .lit)) true)with
     |some m'=>some (.slc m.nb 0 l ie.size (.ex c),m')
     |none=>none)
    else none
   |none=>none
  |_=>none
 |_,_,_=>none
theorem LD (hT:tA P T)(h:bK ρ m w){t:TypeId}{l c:AV}(hb:rS T m t l c=some (v,m')){y:Value}(hx:aO ρ l=some x)(hy:aO ρ c=some y):
  bS P (Instr.makeSlice t x y) ρ m w v m':=by
 unfold rS at hb
 split at hb
 case h_2=>cases hb
 rename_i i ln cn hi hl hc
 split at hb
 case h_2=>cases hb
 rename_i e hd
 split at hb
 case h_2=>cases hb
 rename_i ie hf
 split at hb
 case isFalse=>cases hb
 rename_i ha
 simp only[aD3,aEP]at ha
 obtain⟨⟨⟨c1,c2⟩,c3⟩,c4⟩:=ha
 split at hb
 case h_2=>cases hb
 rename_i m1 hm
 injection hb with hb;injection hb with hv hn;subst hv;subst hn
 obtain⟨kx,rfl⟩:=jA hl hx
 obtain⟨ky,rfl⟩:=jA hc hy
 obtain⟨inf,z,k1,k2,k3,k4,k5,k6,k7⟩:=(hT e ie hf).info
 have hu:=(hT t i hi).und
 rw[hd]at hu
 have ho:z.cells.size=ie.size:=by rw[<-k6,<-k5];simp
 have hg:aT ρ (xX cn (ie.zero.map .lit))=some (xX cn ie.zero):=by rw[xY];exact dA _
 have h1:∀x∈xX cn ie.zero,x.oneCell'=true:=fun x hx=>k7 x (C4 hx)
 have hs:=new_row h e hg h1 hm [] none (fun _=>rfl)
 rw[DY hm,aET]at hs
 have hp:(xX cn (ie.zero.map AV.lit)).length=cn*ie.size:=by rw[oF,aFV,k6]
 refine⟨_,_,.slice (some ⟨w.heap.size,0,none⟩) ln cn,?_,wC ρ m _ _ _ ln ie.size cn none c1 (by rw[hp];exact aD1 _),hs⟩
 have hh:IntKind.i64.wrap (ln:Int)=ln:=by unfold IntKind.wrap;simp[IntKind.signed,IntKind.bits];omega
 have hj:IntKind.i64.wrap (cn:Int)=cn:=by unfold IntKind.wrap;simp[IntKind.signed,IntKind.bits];omega
 have e1:¬((cn:Int)<0):=by omega
 have e2:¬((ie.bytes:Int)*cn>281474976710656):=by
  have:ie.bytes*cn<=16777216:=by rw[aF0];exact c2
  omega
 have e3:¬(cn*ie.bytes>roomBytes):=by unfold roomBytes;omega
 have hr:((Array.range (cn*ie.size)).map (z.cells[· % z.cells.size]!))=(xX cn ie.zero).toArray:=by
  rw[<-ho,<-Array.toList_inj,zW,k5]
 have hz:=(show(zeroValue e).run P w=.ok z w by simp[zeroValue,typeInfo,k1,k4])
 have hk:=(show(typeInfo e).run P w=.ok inf w by simp[typeInfo,k1])
 by_cases c5:cn=0
 ·subst c5;obtain rfl:ln=0:=by omega
  unfold Instr.makeSlice;simp only[Sem.run_bind,run_underlying hu,Result.andThen_ok,asInt,asIntOf,hk,Sem.run_pure,hh,hj,k3];simp[e3,askRoom,newRow,iK hT hf,xX];congr 2;apply Array.toList_inj.1;simp
 have e4:¬(cn*ie.size=0):=by
  have:=Nat.mul_pos (show 0<cn by omega) c4;omega
 unfold Instr.makeSlice
 simp only[Sem.run_bind,run_underlying hu,Result.andThen_ok,asInt,asIntOf,hk,Sem.run_pure,hh,hj,k3]
 simp[k3,e1,e2,e3,e4,askRoom,hz,hr,newRow,c1,iK hT hf]
 intro hq;exfalso;omega
def wD:Option AV->Option (Option Nat)
 |none=>some none
 |some v=>match vO v with
  |some n=>some (some n)
  |none=>none
def D0 (x:Option Value)(n:Option Nat):Prop:=match n with
 |none=>x=none
 |some n=>∃k,x=some (.int k n)
def CR (ρ:Env)(x:Option Value):Option AV->Prop
 |none=>x=none
 |some v=>∃y,aO ρ v=some y/\x=some y
theorem oG {v:Option AV}{n:Option Nat}(h:wD v=some n){x:Option Value}(hx:CR ρ x v):D0 x n:=by
 unfold wD at h
 cases v with
 |none=>simp only at h;injection h with h;subst h;exact hx
 |some v=>
  obtain⟨y,hy,rfl⟩:=hx
  cases hn:vO v with
  |none=>simp[hn]at h
  |some k=>
   simp only[hn]at h
   injection h with h;subst h
   obtain⟨kk,rfl⟩:=jA hn hy
   exact⟨kk,rfl⟩
theorem jB (w:World)(k:IntKind)(n y:Nat)(c:BoundsCode)(h:n<=y):(Instr.sliceBound (.int k n) y c).run P w=.ok n w:=by
 have h1:(n:Int)<=y:=by omega
 simp[Instr.sliceBound,asIntOf,h]
theorem kI (w:World)(b:Bool)(len cap:Nat){lo hi mx:Option Value}{l h k:Option Nat}(hl:D0 lo l)(hh:D0 hi h)(hk:D0 mx k)(hx:k.isSome=true->h.isSome=true)(h1:k.getD cap<=cap)(h2:h.getD len<=k.getD cap)(h3:l.getD 0<=h.getD len):
  (Instr.sliceBounds b len cap lo hi mx).run P w=.ok (l.getD 0,h.getD len,k.getD cap) w:=by
 unfold Instr.sliceBounds
 cases k with
 |none=>
  obtain rfl:mx=none:=hk
  cases h with
  |none=>
   obtain rfl:hi=none:=hh
   cases l with
   |none=>obtain rfl:lo=none:=hl;simp
   |some l=>obtain⟨kl,rfl⟩:=hl;simp[jB w kl l len _ (by simpa using h3)]
  |some h=>
   obtain⟨kh,rfl⟩:=hh
   have e2:h<=cap:=by simpa using h2
   cases l with
   |none=>obtain rfl:lo=none:=hl;cases b<;>simp[jB w kh h cap _ e2]
   |some l=>
    obtain⟨kl,rfl⟩:=hl
    have e3:l<=h:=by simpa using h3
    cases b<;>simp[jB w kh h cap _ e2,jB w kl l h _ e3]
 |some k=>
  obtain⟨kk,rfl⟩:=hk
  have e1:k<=cap:=by simpa using h1
  cases h with
  |none=>simp at hx
  |some h=>
   obtain⟨kh,rfl⟩:=hh
   have e2:h<=k:=by simpa using h2
   cases l with
   |none=>obtain rfl:lo=none:=hl;cases b<;>simp[jB w kh h k _ e2,jB w kk k cap _ e1]
   |some l=>
    obtain⟨kl,rfl⟩:=hl
    have e3:l<=h:=by simpa using h3
    cases b<;>simp[jB w kh h k _ e2,jB w kk k cap _ e1,jB w kl l h _ e3]
def YC (b o sz:Nat)(l h k:Nat):AV:=if k=l then .slc b o (h-l) sz (.ex 0)else .slc b (o+l*sz) (h-l) sz (.ex (k-l))
def R8 (T:TypeId->Option cZ)(m:M)(t:TypeId)(x:AV)(lo hi mx:Option AV):Option AV:=
 match T t,wD lo,wD hi,wD mx with
 |some i,some lo,some hi,some mx=>
  match i.desc,x with
  |.slice e,.slc b o n sz c=>match T e with
   |some ie=>
    if decide (ie.size=sz)&&decide (0<sz)&&(hi.isSome || mx.isNone)then
     match mx,c with
     |some k,.ex cc=>if decide (lo.getD 0<=hi.getD n)&&decide (hi.getD n<=k)&&decide (k<=cc)then some (YC b o sz (lo.getD 0) (hi.getD n) k)else none
     |none,.ex cc=>if decide (lo.getD 0<=hi.getD n)&&decide (hi.getD n<=cc)then some (YC b o sz (lo.getD 0) (hi.getD n) cc)else none
     |some k,.lo _ _=>match m.H.get b with
      |some (.cells _ cs _)=>if decide (lo.getD 0<=hi.getD n)&&decide (hi.getD n<=k)&&decide (o+k*sz<=cs.length)then some (YC b o sz (lo.getD 0) (hi.getD n) k)else none
      |_=>none
     |none,.lo i j=>match m.H.get b with
      |some (.cells _ cs _)=>if decide (lo.getD 0<=hi.getD n)&&decide (o+hi.getD n*sz<=cs.length)&&(decide (lo.getD 0=0) || decide (o+lo.getD 0*sz<cs.length))then some (.slc b (o+lo.getD 0*sz) (hi.getD n-lo.getD 0) sz (.lo i (j+lo.getD 0)))else if decide (lo.getD 0=n)&&decide (hi.getD n=n)then some (.cut b o n sz (.lo i j))else none
      |_=>none
    else none
   |none=>none
  |.array n e,.ptr b o=>match T e,m.H.get b with
   |some ie,some (.cells _ cs _)=>if decide (lo.getD 0<=hi.getD n)&&decide (hi.getD n<=mx.getD n)&&decide (mx.getD n<=n)&&(hi.isSome || mx.isNone)&&decide (o+n*ie.size<=cs.length)then some (YC b o ie.size (lo.getD 0) (hi.getD n) (mx.getD n))else none
   |_,_=>none
  |_,_=>none
 |_,_,_,_=>none
theorem C5 {o sz:Nat}(hq:ρ.blk b=some (g,o0,z,l)){lo hi k:Nat}(h1:lo<=hi)(h2:hi<=k)(h3:o+k*sz<=l):
  aO ρ (YC b o sz lo hi k)=some (.slice (some (if k=lo then(⟨g,o0+o,none⟩:Addr)else(⟨g,o0+o,none⟩:Addr).add (lo*sz))) (hi-lo) (k-lo)):=by
 unfold YC
 split
 ·rename_i e;unfold aO fT;rw[hq];have:hi-lo=0:=by omega
  have h4:o<=l:=by omega
  simp[this,e,h4]
 ·unfold aO fT;rw[hq]
  have h4:o+lo*sz+(k-lo)*sz<=l:=by
   have:(k-lo)*sz=k*sz-lo*sz:=Nat.sub_mul _ _ _;have:lo*sz<=k*sz:=aE4 _ (by omega);omega
  rw[gF];simp[h4,aF9];omega
theorem bK.lenq (h:bK ρ m w){e:TypeId}{cs:List AV}{tg:Bool}(hb:m.H.get b=some (.cells e cs tg))(hq:ρ.blk b=some (g,o0,z,l)):l=cs.length:=by
 obtain⟨g',o',z',arr,xs,h1,_⟩:=wB h hb;rw[hq]at h1;injection h1 with h1;injection h1 with e1 h1;injection h1 with e2 h1;injection h1 with e3 h1
theorem ab4 (hT:tA P T)(h:bK ρ m w){t:TypeId}{x r:AV}{lo hi mx:Option AV}(hs:R8 T m t x lo hi mx=some r){X:Value}{L H K:Option Value}(hx:aO ρ x=some X)(hl:CR ρ L lo)(hh:CR ρ H hi)(hk:CR ρ K mx):
  bS P (Instr.sliceAt t X L H K) ρ m w r m:=by
 unfold R8 at hs
 split at hs
 case h_2=>cases hs
 rename_i i l hn k ho hp hr ht
 have bl:=oG hp hl
 have bh:=oG hr hh
 have bk:=oG ht hk
 have hu:=(hT t i ho).und
 split at hs
 ·rename_i e b o n sz c hd;rw[hd]at hu;split at hs
  case h_2=>cases hs
  rename_i ie hf;split at hs
  case isFalse=>cases hs
  rename_i hc;simp only[aD3,aFQ,aEP]at hc;obtain⟨⟨c1,c2⟩,c3⟩:=hc
  have ca:k.isSome=true->hn.isSome=true:=by
   intro hz;rcases c3 with c3|c3
   ·exact c3
   ·cases k<;>simp_all
  unfold aO fT at hx;split at hs
  ·rename_i k cc;split at hs
   case isFalse=>cases hs
   rename_i hc;simp only[aD3,aEP]at hc;obtain⟨⟨d1,d2⟩,d3⟩:=hc;injection hs with hs;subst hs
   cases hq:ρ.blk b with
   |none=>simp[hq]at hx
   |some q=>
    obtain⟨g,o0,z,len⟩:=q
    simp only[hq]at hx
    split at hx
    case isFalse=>cases hx
    rename_i hb
    injection hx with hx;subst hx
    have hm:o+k*sz<=len:=by have:=aE4 sz d3;omega
    refine bS.here h ?_ (C5 hq d1 d2 hm)
    have ha:=kI (P:=P) w true n cc bl bh bk ca d3 d2 d1
    subst c1
    simp only[Instr.sliceAt,Instr.slice,Sem.run_bind,run_underlying hu,Result.andThen_ok,ha,iK hT hf,Sem.run_pure,aFH,aFR]
    congr 3
    split<;>rfl
  ·rename_i cc;split at hs
   case isFalse=>cases hs
   rename_i hc;simp only[aD3,aEP]at hc;obtain⟨d1,d2⟩:=hc;injection hs with hs;subst hs
   cases hq:ρ.blk b with
   |none=>simp[hq]at hx
   |some q=>
    obtain⟨g,o0,z,len⟩:=q
    simp only[hq]at hx
    split at hx
    case isFalse=>cases hx
    rename_i hb
    injection hx with hx;subst hx
    refine bS.here h ?_ (C5 hq d1 d2 hb.2)
    have ha:=kI (P:=P) w true n cc bl bh bk ca (aD1 _) d2 d1
    subst c1
    simp only[Instr.sliceAt,Instr.slice,Sem.run_bind,run_underlying hu,Result.andThen_ok,ha,iK hT hf,Sem.run_pure,aFH,Option.getD_none]
    congr 3
    split<;>rfl
  ·rename_i k ci cj;split at hs
   case h_2=>cases hs
   rename_i e' cs tg hg;split at hs
   case isFalse=>cases hs
   rename_i hc;simp only[aD3,aEP]at hc;obtain⟨⟨d1,d2⟩,d3⟩:=hc;injection hs with hs;subst hs
   cases hq:ρ.blk b with
   |none=>simp[hq]at hx
   |some q=>
    obtain⟨g,o0,z,len⟩:=q
    cases hκ:ρ.cap ci with
    |none=>simp[hq,hκ]at hx
    |some κ=>
     simp only[hq,hκ]at hx
     split at hx
     case isFalse=>cases hx
     rename_i hb
     injection hx with hx;subst hx
     obtain⟨b1,b3,b4⟩:=hb
     have hlen:=h.lenq hg hq
     subst hlen
     have hj:k<=κ-cj:=by
      have:k*sz<=(κ-cj)*sz:=by omega
      exact aHC this c2
     refine bS.here h ?_ (C5 hq d1 d2 d3)
     have ha:=kI (P:=P) w true n (κ-cj) bl bh bk ca hj d2 d1
     subst c1
     simp only[Instr.sliceAt,Instr.slice,Sem.run_bind,run_underlying hu,Result.andThen_ok,ha,iK hT hf,Sem.run_pure,aFH,aFR]
     congr 3
     split<;>rfl
  ·rename_i ci cj;split at hs
   case h_2=>cases hs
   rename_i e' cs tg hg;split at hs
   case isFalse=>
    split at hs
    case isFalse=>cases hs
    rename_i hc;simp only[aD3,aEP]at hc;obtain⟨d1,d2⟩:=hc
    injection hs with hs;subst hs
    cases hq:ρ.blk b with
    |none=>simp[hq]at hx
    |some q=>
     obtain⟨g,o0,z,len⟩:=q
     cases hκ:ρ.cap ci with
     |none=>simp[hq,hκ]at hx
     |some κ=>
      simp only[hq,hκ]at hx
      split at hx
      case isFalse=>cases hx
      rename_i hb
      injection hx with hx;subst hx
      have ha:=kI (P:=P) w true n (κ-cj) bl bh bk ca (aD1 _) (show hn.getD n<=κ-cj by omega) (by omega)
      subst c1
      refine bS.here h (x:= .slice (some (if κ-cj=n then(⟨g,o0+o,none⟩:Addr)else(⟨g,o0+o,none⟩:Addr).add (n*ie.size))) 0 (κ-cj-n)) ?_ ?_
      ·simp only[Instr.sliceAt,Instr.slice,Sem.run_bind,run_underlying hu,Result.andThen_ok,ha,iK hT hf,Sem.run_pure,aFH,Option.getD_none];rw[d1,d2,aG5];congr 3;split<;>rfl
      ·unfold aO
       have hv:fT ρ b o n ie.size (.lo ci cj)=some (.slice (some ⟨g,o0+o,none⟩) n (κ-cj)):=by
        unfold fT;rw[hq];simp only[hκ];rw[aD6 hb]
       rw[hv]
   rename_i hc;simp only[aD3,aFQ,aEP]at hc;obtain⟨⟨d1,d2⟩,d3⟩:=hc;injection hs with hs;subst hs
   cases hq:ρ.blk b with
   |none=>simp[hq]at hx
   |some q=>
    obtain⟨g,o0,z,len⟩:=q
    cases hκ:ρ.cap ci with
    |none=>simp[hq,hκ]at hx
    |some κ=>
     simp only[hq,hκ]at hx
     split at hx
     case isFalse=>cases hx
     rename_i hb
     injection hx with hx;subst hx
     obtain⟨b1,b3,b4⟩:=hb
     have hlen:=h.lenq hg hq
     subst hlen
     have hj:hn.getD n<=κ-cj:=by
      have:hn.getD n*sz<=(κ-cj)*sz:=by omega
      exact aHC this c2
     have ha:=kI (P:=P) w true n (κ-cj) bl bh bk ca (aD1 _) hj d1
     subst c1
     have e1:(κ-cj-l.getD 0)*ie.size=(κ-cj)*ie.size-l.getD 0*ie.size:=Nat.sub_mul _ _ _
     have e2:(hn.getD n-l.getD 0)*ie.size=hn.getD n*ie.size-l.getD 0*ie.size:=Nat.sub_mul _ _ _
     have e3:l.getD 0*ie.size<=(κ-cj)*ie.size:=aE4 _ (by omega)
     have e4:l.getD 0*ie.size<=hn.getD n*ie.size:=aE4 _ d1
     have e5:κ-(cj+l.getD 0)=κ-cj-l.getD 0:=by omega
     refine bS.here h (x:= .slice (some ⟨g,o0+o+l.getD 0*ie.size,none⟩) (hn.getD n-l.getD 0) (κ-cj-l.getD 0)) ?_ ?_
     ·simp only[Instr.sliceAt,Instr.slice,Sem.run_bind,run_underlying hu,Result.andThen_ok,ha,iK hT hf,Sem.run_pure,aFH,Option.getD_none];congr 3;split
      ·rename_i e6;rcases d3 with d3|d3
       ·rw[d3];simp
       ·exfalso;rw[<-e6]at d3;omega
      ·rw[gF]
     ·unfold aO fT;rw[hq];simp only[hκ];rw[e5];rw[aD6 (by omega),<-aF9]
 ·rename_i n e b o hd;rw[hd]at hu;split at hs
  case h_2=>cases hs
  rename_i ie e' cs tg hf hg;split at hs
  case isFalse=>cases hs
  rename_i hc;simp only[aD3,aFQ,aEP]at hc;obtain⟨⟨⟨⟨d1,d2⟩,d3⟩,c3⟩,d4⟩:=hc;injection hs with hs;subst hs
  obtain⟨g,o0,z,len,hq,rfl⟩:=iF hx;have hlen:=h.lenq hg hq;subst hlen
  have ca:k.isSome=true->hn.isSome=true:=by
   intro hz;rcases c3 with c3|c3
   ·exact c3
   ·cases k<;>simp_all
  have hm:o+k.getD n*ie.size<=cs.length:=by have:=aE4 ie.size d3;omega
  refine bS.here h ?_ (C5 hq d1 d2 hm);have ha:=kI (P:=P) w false n n bl bh bk ca d3 d2 d1;simp only[Instr.sliceAt,Instr.sureAddr,Sem.run_bind,run_underlying hu,Result.andThen_ok,ha,iK hT hf,Sem.run_pure]
 ·cases hs
end
section
variable {x r:AV}{f:Nat}{X:Value}
variable {P:Program}{T:TypeId->Option cZ}{ρ:Env}{m m':M}{w:World}
theorem NX (hT:tA P T){t:TypeId}{i:cZ}(hi:T t=some i){fs:Array Field}(hd:i.desc=.struct fs){k:Nat}{q:Nat×Nat×TypeId}(hq:i.flds[k]?=some q):
  ∃f,fs[k]?=some f/\f.offset=q.1/\f.type=q.2.2/\∃inf,P.info? f.type=some inf/\inf.size=q.2.1:=by
 obtain⟨h1,h2⟩:=(hT t i hi).flds fs hd
 have hlen:fs.toList.length=i.flds.length:=by
  have:=aEK List.length h2;simpa using this
 have hk:k<fs.toList.length:=by rw[hlen];exact(aED.1 hq).1
 refine⟨fs.toList[k],by simp,?_⟩
 have hg:=mapM_some_get h1 k fs.toList[k] (by simp[hk])
 rw[aFT,hq]at hg
 have h3:(fs.toList.map (·.type))[k]?=some q.2.2:=by rw[h2,aFT,hq];rfl
 rw[aFT,aEB hk]at h3
 cases hinf:P.info? fs.toList[k].type with
 |none=>rw[hinf]at hg;cases hg
 |some inf=>
  rw[hinf]at hg
  simp only[aFH,Option.some.injEq,Prod.mk.injEq]at hg h3
  exact⟨hg.1,h3,inf,rfl,hg.2⟩
def rT (T:TypeId->Option cZ)(s:TypeId)(x:AV)(f:Nat):Option AV:=
 match T s,x with
 |some i,.ptr b o=>match i.desc with
  |.struct _=>match i.flds[f]? with
   |some (off,size,_)=>if size=0 then none else some (.ptr b (o+off))
   |none=>none
  |_=>none
 |_,_=>none
theorem LF (hT:tA P T)(h:bK ρ m w){s:TypeId}(hs:rT T s x f=some r)(hx:aO ρ x=some X):bS P (Instr.fieldAt s X f) ρ m w r m:=by
 unfold rT at hs;split at hs
 case h_2=>cases hs
 rename_i i b o hi;split at hs
 case h_2=>cases hs
 rename_i fs hd;split at hs
 case h_2=>cases hs
 rename_i off size ty hq;split at hs
 case isTrue=>cases hs
 rename_i ha;injection hs with hs;subst hs
 obtain⟨g,o0,z,l,hb,rfl⟩:=iF hx;obtain⟨fl,h1,h2,h3,inf,h4,h5⟩:=NX hT hi hd hq;have hu:=(hT s i hi).und;rw[hd]at hu;have hz:(sizeOf fl.type).run P w=.ok size w:=by simp[sizeOf,typeInfo,h4];exact h5
 refine bS.here h (x:= .pointer (some ⟨g,o0+(o+off),none⟩)) ?_ (by unfold aO;rw[hb]);have hc:fl.offset=off:=h2;simp[Instr.fieldAt,run_underlying hu,h1,Instr.sureAddr,fieldPlace,hz,ha,gF,hc,aF9]
def wE (T:TypeId->Option cZ)(t:TypeId)(x i:AV):Option AV:=
 match T t,x,vO i with
 |some inf,.slc b o n sz _,some k=>match inf.desc with
  |.slice e=>match T e with
   |some ie=>if decide (ie.size=sz)&&decide (k<n)then some (.ptr b (o+k*sz))else none
   |none=>none
  |_=>none
 |some inf,.ptr b o,some k=>match inf.desc with
  |.array n e=>match T e with
   |some ie=>if k<n then some (.ptr b (o+k*ie.size))else none
   |none=>none
  |_=>none
 |_,_,_=>none
theorem jC {b o n sz:Nat}{c:Cap}(h:aO ρ (.slc b o n sz c)=some X):∃g o0 z l κ,ρ.blk b=some (g,o0,z,l)/\X=.slice (some ⟨g,o0+o,none⟩) n κ/\n<=κ/\True:=by
 unfold aO at h
 cases c with
 |ex c=>
  unfold fT at h
  cases hq:ρ.blk b with
  |none=>simp[hq]at h
  |some q=>
   obtain⟨g,o0,z,l⟩:=q
   simp only[hq]at h
   split at h
   ·rename_i hc;injection h with h
    exact⟨g,o0,z,l,c,rfl,h.symm,hc.1,trivial⟩
   ·cases h
 |lo i k=>
  unfold fT at h
  cases hq:ρ.blk b with
  |none=>simp[hq]at h
  |some q=>
   obtain⟨g,o0,z,l⟩:=q
   cases hκ:ρ.cap i with
   |none=>simp[hq,hκ]at h
   |some κ=>
    simp only[hq,hκ]at h
    split at h
    ·rename_i hc;injection h with h
     exact⟨g,o0,z,l,κ-k,rfl,h.symm,by omega,trivial⟩
    ·cases h
theorem LG (hT:tA P T)(h:bK ρ m w){t:TypeId}{i:AV}(hs:wE T t x i=some r){I:Value}(hx:aO ρ x=some X)(hi:aO ρ i=some I):bS P (Instr.indexAt t X I) ρ m w r m:=by
 unfold wE at hs;split at hs
 ·rename_i inf b o n sz c k ha hk;split at hs
  case h_2=>cases hs
  rename_i e hd;split at hs
  case h_2=>cases hs
  rename_i ie hb;split at hs
  case isFalse=>cases hs
  rename_i hc;simp only[aD3,aEP]at hc;obtain⟨c1,c2⟩:=hc;injection hs with hs;subst hs
  obtain⟨kk,rfl⟩:=jA hk hi;obtain⟨g,o0,z,l,κ,hq,rfl,_,_⟩:=jC hx;have hu:=(hT t inf ha).und;rw[hd]at hu;refine bS.here h (x:= .pointer (some ⟨g,o0+(o+k*sz),none⟩)) ?_ (by unfold aO;rw[hq]);have hf:(0:Int)<=k/\(k:Int)<n:=by omega
  subst c1;simp only[Instr.indexAt,asIntOf,Sem.run_bind,Sem.run_pure,Result.andThen_ok,run_underlying hu];rw[aD6 hf];simp[iK hT hb,gF,aF9]
 ·rename_i inf b o k ha hk;split at hs
  case h_2=>cases hs
  rename_i n e hd;split at hs
  case h_2=>cases hs
  rename_i ie hb;split at hs
  case isFalse=>cases hs
  rename_i c2;injection hs with hs;subst hs
  obtain⟨kk,rfl⟩:=jA hk hi;obtain⟨g,o0,z,l,hq,rfl⟩:=iF hx;have hu:=(hT t inf ha).und;rw[hd]at hu;refine bS.here h (x:= .pointer (some ⟨g,o0+(o+k*ie.size),none⟩)) ?_ (by unfold aO;rw[hq]);have hf:(0:Int)<=k/\(k:Int)<n:=by omega
  simp only[Instr.indexAt,asIntOf,Sem.run_bind,Sem.run_pure,Result.andThen_ok,run_underlying hu,Instr.sureAddr];rw[aD6 hf];simp[iK hT hb,gF,aF9]
 ·cases hs
def NY (T:TypeId->Option cZ)(t:TypeId)(cs:List AV)(off:Nat):Option AV:=
 match T t with
 |some i=>if i.agg then some (.agg ((cs.drop off).take i.size))else cs[off]?
 |none=>none
theorem aiP (hT:tA P T)(h:bK ρ m w){t:TypeId}{cs:List AV}{off:Nat}(hs:NY T t cs off=some r){xs:Array Value}(hx:aT ρ cs=some xs.toList):bS P (part t xs off) ρ m w r m:=by
 unfold NY at hs;split at hs
 case h_2=>cases hs
 rename_i i hi;split at hs
 ·rename_i ha;injection hs with hs;subst hs
  refine bS.here h (x:= .agg (xs.extract off (off+i.size))) ?_ ?_
  ·simp[part,NW hT hi,ha,iK hT hi]
  ·unfold aO;rw[qP i.size (gams_drop off hx)];show some (Value.agg _)=some (Value.agg _);congr 2;apply Array.toList_inj.1;simp
 ·rename_i ha;have hb:i.agg=false:=by simpa using ha
  obtain⟨y,hy,hg⟩:=oE hx hs;refine bS.here h (x:=y) ?_ hg;have:xs[off]?=some y:=by simpa using hy
  simp[part,NW hT hi,hb,this]
def LH (T:TypeId->Option cZ)(t:TypeId)(x:AV)(f:Nat):Option AV:=
 match T t with
 |some i=>match i.desc with
  |.struct _=>match i.flds[f]?,x with
   |some (off,_,ty),.agg cs=>NY T ty cs off
   |some (off,_,ty),.lit (.agg cs)=>NY T ty (cs.toList.map .lit) off
   |_,_=>none
  |_=>none
 |none=>none
theorem ab5 (hT:tA P T)(h:bK ρ m w){t:TypeId}(hs:LH T t x f=some r)(hx:aO ρ x=some X):bS P (Instr.field t X f) ρ m w r m:=by
 unfold LH at hs;split at hs
 case h_2=>cases hs
 rename_i i hi;split at hs
 case h_2=>cases hs
 rename_i fs hd;have hu:=(hT t i hi).und;rw[hd]at hu
 have main:∀(off sz:Nat) (ty:TypeId) (cs:List AV) (xs:Array Value),i.flds[f]?=some (off,sz,ty)->X=.agg xs->aT ρ cs=some xs.toList->NY T ty cs off=some r->bS P (Instr.field t X f) ρ m w r m:=by
  rintro off sz ty cs xs hq rfl hc hp;obtain⟨fl,h1,h2,h3,inf,h4,h5⟩:=NX hT hi hd hq;obtain⟨ρ',w',v,k1,k2,k3⟩:=aiP hT h hp hc;refine⟨ρ',w',v,?_,k2,k3⟩;have ha:fl.offset=off:=h2;have hb:fl.type=ty:=h3;simp[Instr.field,run_underlying hu,h1,asAgg,ha,hb,k1]
 split at hs
 ·rename_i off sz ty cs hq;unfold aO at hx
  cases hc:aT ρ cs with
  |none=>simp[hc]at hx
  |some ys=>
   simp only[hc]at hx
   injection hx with hx
   exact main off sz ty cs ys.toArray hq hx.symm (by simpa using hc) hs
 ·rename_i off sz ty cs hq;simp only[aO]at hx;injection hx with hx
  exact main off sz ty _ cs hq hx.symm (dA _) hs
 ·cases hs
def xZ (x:AV)(i:Nat):Option AV:=
 match x with
 |.tup l=>l[i]?
 |.lit (.tuple vs)=>(vs[i]?).map .lit
 |_=>none
theorem R9 (h:bK ρ m w){i:Nat}(hs:xZ x i=some r)(hx:aO ρ x=some X):bS P (Instr.extract X i) ρ m w r m:=by
 unfold xZ at hs;split at hs
 ·rename_i l;unfold aO at hx
  cases hc:aT ρ l with
  |none=>simp[hc]at hx
  |some ys=>
   simp only[hc]at hx
   injection hx with hx
   subst hx
   obtain⟨y,hy,hg⟩:=oE hc hs
   refine bS.here h (x:=y) ?_ hg
   simp[Instr.extract,hy]
 ·rename_i vs;simp only[aO]at hx;injection hx with hx
  subst hx
  cases hv:vs[i]? with
  |none=>simp[hv]at hs
  |some y=>
   simp only[hv,aFH]at hs
   injection hs with hs;subst hs
   refine bS.here h (x:=y) ?_ rfl
   simp[Instr.extract,hv]
 ·cases hs
theorem nH (h:bK ρ m w){s:Sem Value}{x:Value}(hs:cC P s=some x):bS P s ρ m w (.lit x) m:=bS.here h (gJ hs w) rfl
end
section
variable {argTypes:Array TypeId}{ty e:TypeId}{x X:Value}{n:Nat}{new:List Value}{r:AV}
variable {P:Program}{T:TypeId->Option cZ}{ρ:Env}{m m':M}{w:World}
def Src (P:Program)(argTypes:Array TypeId)(i:cZ)(x:Value)(n:Nat)(new:List Value)(w:World):Prop:=
 new.length=n*i.size/\(∀y∈new,y.oneCell'=true)/\
 ((∃xT d,argTypes[1]?=some xT/\P.underlying xT=some d/\((∃e',d=.slice e')∨d=.string)/\(∀w0,(Builtin.lenOf x).run P w0=.ok n w0)/\∀w',w'.heap=w.heap->(Builtin.firstCells i.size n x).run P w'=.ok new.toArray w')∨
  (∃xT k k',argTypes[1]?=some xT/\P.underlying xT=some (.int k)/\x=.int k' n/\new=xX n i.zero/\n<=16777216/\n*i.bytes<=281474976710656/\(0<n*i.size∨n=0)))
theorem qB (z:Array Value)(n:Nat):(Builtin.zeroCells z n).toList=xX n z.toList:=zW z n
theorem D1 (n:Nat)(h:n<=16777216):IntKind.i64.wrap (n:Int)=n:=by unfold IntKind.wrap;simp[IntKind.signed,IntKind.bits];omega
theorem l9 (hT:tA P T){t:TypeId}(h0:argTypes[0]?=some t)(ht:P.underlying t=some (.slice e)){i:cZ}(hc:T e=some i)(src:Src P argTypes i x n new w)(base:Option Addr)(sa sb:Nat)(ha:sa+n<=sb):
  (Builtin.append_ argTypes ty #[.slice base sa sb,x]).run P w=match base with
    |some a=>((storeCells (a.add (sa*i.size)) new).run P w).andThen fun _ w'=> .ok (.slice (some a) (sa+n) sb) w'
    |none=> .ok (.slice none (sa+n) sb) w:=by
 obtain⟨inf,z,k1,k2,k3,k4,k5,k6,k7⟩:=(hT e i hc).info
 obtain⟨_,_,src⟩:=src
 rcases src with⟨xT,d,a1,a2,a3,a4,a5⟩|⟨xT,k,k',a1,a2,rfl,a4,a5,a6,a7⟩
 ·have aa:=a5 w rfl;rcases a3 with⟨e',rfl⟩|rfl
  ·cases base with
   |none=>simp[Builtin.append_,h0,a1,run_underlying ht,run_underlying a2,sizeOf,typeInfo,k1,k2,a4,ha,aa]
   |some a=>simp[Builtin.append_,h0,a1,run_underlying ht,run_underlying a2,sizeOf,typeInfo,k1,k2,a4,ha,aa]
  ·cases base with
   |none=>simp[Builtin.append_,h0,a1,run_underlying ht,run_underlying a2,sizeOf,typeInfo,k1,k2,a4,ha,aa]
   |some a=>simp[Builtin.append_,h0,a1,run_underlying ht,run_underlying a2,sizeOf,typeInfo,k1,k2,a4,ha,aa]
 ·have hz:=(show(zeroValue e).run P w=.ok z w by simp[zeroValue,typeInfo,k1,k4]);rcases a7 with a7|a7
  case inr=>
   subst a7
   have ab:new=[]:=a4
   subst ab
   cases base with
   |none=>simp[Builtin.append_,h0,a1,run_underlying ht,run_underlying a2,sizeOf,typeInfo,k1,k2,k3,show IntKind.i64.wrap 0=0 from rfl,asInt,asIntOf,show sa<=sb by omega]
   |some a=>simp[Builtin.append_,h0,a1,run_underlying ht,run_underlying a2,sizeOf,typeInfo,k1,k2,k3,show IntKind.i64.wrap 0=0 from rfl,asInt,asIntOf,show sa<=sb by omega]
  have hb:¬(n*i.size=0):=by omega
  have e1:¬(281474976710656<(n:Int)*i.bytes):=by
   have:((n*i.bytes:Nat):Int)<=281474976710656:=by omega
   rw[Int.natCast_mul]at this;omega
  have e2:¬((n:Int)<0):=by omega
  have hr:(Builtin.zeroCells z.cells n).toList=new:=by rw[qB,k5,a4]
  cases base with
  |none=>simp[Builtin.append_,h0,a1,run_underlying ht,run_underlying a2,sizeOf,typeInfo,k1,k2,k3,ha,hz,D1 n a5,asInt,asIntOf,e1,e2,hb]
  |some a=>simp[Builtin.append_,h0,a1,run_underlying ht,run_underlying a2,sizeOf,typeInfo,k1,k2,k3,ha,hz,D1 n a5,asInt,asIntOf,e1,e2,hb,hr]
theorem mS (hT:tA P T){t:TypeId}(h0:argTypes[0]?=some t)(ht:P.underlying t=some (.slice e)){i:cZ}(hd:T e=some i)(src:Src P argTypes i x n new w)(base:Option Addr)(sa sb:Nat)(hc:sb<sa+n)(hs:(sa+n)*i.bytes<=140737488355328)(hh:sa+n<=16777216){old:List Value}(hold:(Builtin.firstCells i.size sa (.slice base sa sb)).run P w.drew=.ok old.toArray w.drew):
  ∃rest κ,(Builtin.append_ argTypes ty #[.slice base sa sb,x]).run P w=.ok (.slice (some ⟨w.heap.size,0,none⟩) (sa+n) κ) (w.drew.alloc (.cells ((old++new)++rest).toArray e))/\sa+n<=κ/\rest.length=(κ-(sa+n))*i.size/\κ<=9223372036854775807:=by
 obtain⟨inf,z,k1,k2,k3,k4,k5,k6,k7⟩:=(hT e i hd).info
 obtain⟨_,_,src⟩:=src
 have hn:¬(sa+n<=sb):=by omega
 have hb:¬(9223372036854775807<((sa:Int)+(n:Int))):=by omega
 have ha:¬(281474976710656<Builtin.nextslicecap (sa+n) sb*i.bytes):=by have:=growslice_fits (old:=sb) hc hs;omega
 have hf:z.cells.size=i.size:=by rw[<-k6,<-k5];simp
 refine⟨(Builtin.zeroCells z.cells (grownCap w (sa+n) sb e-(sa+n))).toList,grownCap w (sa+n) sb e,?_,grownCap_ge _ _ _ _,by rw[aFE,size_zeroCells,hf],grownCap_le_maxLen _ _ _ _ (by unfold maxLen;omega)⟩
 rcases src with⟨xT,d,a1,a2,a3,a4,a5⟩|⟨xT,k,k',a1,a2,rfl,a4,a5,a6,a7⟩
 ·have aa:=a5 w.drew rfl;rcases a3 with⟨e',rfl⟩|rfl
  ·simp[Builtin.append_,h0,a1,run_underlying ht,run_underlying a2,sizeOf,typeInfo,zeroValue,k1,k2,k3,k4,a4,hn,hb,ha,Question.forced,hold,aa,newRow,grownCap];congr 2;apply aGQ;simp[aEF]
  ·simp[Builtin.append_,h0,a1,run_underlying ht,run_underlying a2,sizeOf,typeInfo,zeroValue,k1,k2,k3,k4,a4,hn,hb,ha,Question.forced,hold,aa,newRow,grownCap];congr 2;apply aGQ;simp[aEF]
 ·rcases a7 with a7|a7
  case inr=>
   subst a7
   have ab:new=[]:=a4
   subst ab
   simp[Builtin.append_,h0,a1,run_underlying ht,run_underlying a2,sizeOf,typeInfo,zeroValue,k1,k2,k3,k4,show ¬sa<=sb by omega,show ¬(9223372036854775807<(sa:Int)) by omega,show ¬(281474976710656<Builtin.nextslicecap sa sb*i.bytes)from ha,Question.forced,hold,newRow,grownCap,show IntKind.i64.wrap 0=0 from rfl,asInt,asIntOf]
   congr 2;apply aGQ;simp[aEF]
  have hg:¬(n*i.size=0):=by omega
  have e1:¬(281474976710656<(n:Int)*i.bytes):=by
   have:((n*i.bytes:Nat):Int)<=281474976710656:=by omega
   rw[Int.natCast_mul]at this;omega
  have e2:¬((n:Int)<0):=by omega
  have hr:(Builtin.zeroCells z.cells n)=new.toArray:=by rw[<-Array.toList_inj,qB,k5,a4]
  simp[Builtin.append_,h0,a1,run_underlying ht,run_underlying a2,sizeOf,typeInfo,zeroValue,k1,k2,k3,k4,hn,hb,ha,Question.forced,hold,newRow,grownCap,D1 n a5,asInt,asIntOf,e1,e2,hg,hr];congr 2;apply aGQ;simp[aEF]
def an2 (T:TypeId->Option cZ)(m:M)(xT:Option TypeId)(i:cZ)(x:AV):Option (Nat×List AV):=
 match xT with
 |none=>none
 |some xT=>match T xT with
  |none=>none
  |some ix=>match ix.desc with
   |.int _=>match vO x with
    |some n=>if decide (n<=16777216)&&decide (n*i.bytes<=281474976710656)&&(decide (0<n*i.size) || decide (n=0))then some (n,xX n (i.zero.map .lit))else none
    |none=>none
   |.slice _=>match x with
    |.slc b o n sz _=>match m.H.get b with
     |some (.cells _ cs _)=>if decide (sz=i.size)&&decide (o+n*sz<=cs.length)then some (n,(cs.drop o).take (n*sz))else none
     |_=>none
    |.lit (.slice none 0 _)=>some (0,[])
    |_=>none
   |.string=>match x with
    |.lit (.string s)=>if i.size=1 then some (s.size,s.data.toList.map fun b=> .lit (.int .u8 b.toNat))else none
    |_=>none
   |_=>none
theorem tD {a:Addr}{l:List Value}{w w':World}(hw:w'.heap=w.heap)(h:∀j v,l[j]?=some v->w.cell? (a.add j)=some v):(loadCells a l.length).run P w'=.ok l.toArray w':=by
 refine run_loadCells_list (P:=P) w' a l (fun j v hv=>?_);rw[<-h j v hv];unfold World.cell?;rw[hw]
theorem an3 (hT:tA P T)(h:bK ρ m w){i:cZ}(hf:T e=some i){x:AV}{new:List AV}(hs:an2 T m argTypes[1]? i x=some (n,new))(hx:aO ρ x=some X):
  ∃ys,aT ρ new=some ys/\Src P argTypes i X n ys w:=by
 obtain⟨inf,z,k1,k2,k3,k4,k5,k6,k7⟩:=(hT e i hf).info
 unfold an2 at hs
 split at hs
 ·cases hs
 rename_i xT ha
 split at hs
 ·cases hs
 rename_i ix hg
 have hu:=(hT xT ix hg).und
 split at hs
 ·rename_i k hd;rw[hd]at hu;split at hs
  case h_2=>cases hs
  rename_i n' hn;split at hs
  case isFalse=>cases hs
  rename_i hc;simp only[aD3,aFQ,aEP]at hc;injection hs with hs;injection hs with e1 e2;subst e1;subst e2
  obtain⟨k',rfl⟩:=jA hn hx;refine⟨xX n' i.zero,by rw[xY];exact dA _,by rw[oF,k6],fun y hy=>k7 y (C4 hy),.inr ⟨xT,k,k',ha,hu,rfl,rfl,hc.1.1,hc.1.2,hc.2⟩⟩
 ·rename_i e' hd;rw[hd]at hu;split at hs
  ·rename_i b o n' sz c;split at hs
   case h_2=>cases hs
   rename_i e1 cs tg hh;split at hs
   case isFalse=>cases hs
   rename_i hc;simp only[aD3,aEP]at hc;obtain⟨c1,c2⟩:=hc;injection hs with hs;injection hs with e1 e2;subst e1;subst e2
   obtain⟨g,o0,z0,l,κ,hq,rfl,_,_⟩:=jC hx;obtain⟨ys,y1,y2,y3,y4,y5⟩:=kH (P:=P) h hh hq o (n'*sz) c2;refine⟨ys,y1,by rw[y2,c1],y3,.inl ⟨xT,_,ha,hu,.inl ⟨_,rfl⟩,fun w0=>by simp[Builtin.lenOf],fun w' hb=>?_⟩⟩;simp only[Builtin.firstCells];rw[<-c1,<-y2];exact tD hb y4
  ·injection hs with hs;injection hs with e1 e2;subst e1;subst e2
   simp only[aO]at hx;injection hx with hx;subst hx
   exact⟨[],rfl,by simp,(fun y hy=>by cases hy),.inl ⟨xT,_,ha,hu,.inl ⟨_,rfl⟩,fun w0=>by simp[Builtin.lenOf],fun w' hb=>by simp[Builtin.firstCells]⟩⟩
  ·cases hs
 ·rename_i hd;rw[hd]at hu;split at hs
  case h_2=>cases hs
  rename_i s;split at hs
  case isFalse=>cases hs
  rename_i hc;injection hs with hs;injection hs with e1 e2;subst e1;subst e2
  simp only[aO]at hx;injection hx with hx;subst hx
  refine⟨s.data.toList.map fun b=> .int .u8 b.toNat,?_,?_,?_,.inl ⟨xT,_,ha,hu,.inr rfl,fun w0=>by simp[Builtin.lenOf],fun w' hb=>?_⟩⟩
  ·rw[show(s.data.toList.map fun b=>AV.lit (.int .u8 b.toNat))=(s.data.toList.map fun b=>Value.int .u8 b.toNat).map AV.lit by rw[List.map_map];rfl];exact dA _
  ·rw[hc,aHI,aFV];rfl
  ·intro y hy;obtain⟨b,_,rfl⟩:=aEZ.1 hy;rfl
  ·have hi:s.extract 0 s.size=s:=ByteArray.extract_zero_size;show Result.ok ((s.extract 0 s.size).data.map fun b=>Value.int .u8 b.toNat) w'=_;rw[hi];congr 1;apply Array.toList_inj.1;rw[Array.toList_map]
 ·cases hs
theorem aX.drew1 (h:bK ρ m w):aX ρ m w ρ m w.drew:=(aX.refl h).drewN 1
theorem rU (ρ:Env)(m:M)(g o0 z l n sz κ nb nc:Nat)(hb:nb=m.nb)(hc:nc=m.nc)(h1:n<=κ)(h3:l<=κ*sz)(h4:o0+κ*sz<=z)(h5:κ<=9223372036854775807):
  aO (ρ.add m (g,o0,z,l) (some κ)) (.slc nb 0 n sz (.lo nc 0))=some (.slice (some ⟨g,o0,none⟩) n κ):=by
 subst hb;subst hc
 have e1:=Env.add_new ρ m (g,o0,z,l) (some κ)
 have e2:=Env.add_cap ρ m (g,o0,z,l) κ
 unfold aO fT
 simp only[e1,e2,aE2,aEV,Nat.sub_zero]
 rw[aD6 ⟨h1,h3,h4,h5⟩]
def IZ (m0:M)(e:TypeId)(cells:List AV)(n sz nc:Nat):Option (AV×M):=
 match qQ m0 (.cells e cells false)with
 |some m1=>some (.slc m0.nb 0 n sz (.lo nc 0),{m1 with nc:=nc+1})
 |none=>none
def LI (T:TypeId->Option cZ)(m:M)(argTypes:Array TypeId)(s x:AV):Option (AV×M):=
 match argTypes[0]? with
 |none=>none
 |some t=>match T t with
  |none=>none
  |some it=>match it.desc with
   |.slice e=>match T e with
    |none=>none
    |some i=>match an2 T m argTypes[1]? i x with
     |none=>none
     |some (n,new)=>
      match s with
      |.slc b o len sz c=>match m.H.get b with
       |some (.cells e' cs tg)=>
        if decide (sz=i.size)&&decide (0<sz)&&decide ((len+n)*i.bytes<=140737488355328)&&decide (len+n<=16777216)&&decide (e'=e)&&decide (o+len*sz<=cs.length)then
         if n=0 then some (s,m)else
         match c with
         |.ex cc=>if len+n<=cc then some (.slc b o (len+n) sz c,iJ m b (some (.cells e' (wr cs (o+len*sz) new) tg)))
          else IZ m e ((cs.drop o).take (len*sz)++new) (len+n) sz m.nc
         |.lo _ _=>if o+(len+n)*sz<=cs.length then some (.slc b o (len+n) sz c,iJ m b (some (.cells e' (wr cs (o+len*sz) new) tg)))
          else IZ (iJ m b none) e ((cs.drop o).take (len*sz)++new) (len+n) sz m.nc
        else none
       |_=>none
      |.lit (.slice none 0 0)=>
       if decide (0<i.size)&&decide (n*i.bytes<=140737488355328)&&decide (n<=16777216)then
        if n=0 then some (s,m)else IZ m e new n i.size m.nc
       else none
      |_=>none
   |_=>none
theorem LJ {m0:M}(h:bK ρ m0 w){cells:List AV}{sz nc:Nat}(ha:m0.nc=nc)(hg:IZ m0 e cells n sz nc=some (r,m')){ys:List Value}(hy:aT ρ cells=some ys)(h1:∀y∈ys,y.oneCell'=true)(hl:ys.length=n*sz){rest:List Value}{κ:Nat}(hκ:n<=κ)(hr:rest.length=(κ-n)*sz)(hκm:κ<=9223372036854775807):
  ∃ρ',aO ρ' r=some (.slice (some ⟨w.heap.size,0,none⟩) n κ)/\aX ρ m0 w ρ' m' (w.drew.alloc (.cells (ys++rest).toArray e)):=by
 unfold IZ at hg
 split at hg
 case h_2=>cases hg
 rename_i m1 hm
 injection hg with hg;injection hg with e1 e2;subst e1;subst e2
 have hd:=aX.drew1 h
 have hs:=new_row hd.rel e hy h1 hm rest (some κ) (fun h=>by cases h)
 have hlen:=bN hy
 subst ha
 refine⟨_,?_,hd.trans hs⟩
 have e3:(κ-n)*sz=κ*sz-n*sz:=Nat.sub_mul _ _ _
 have e4:n*sz<=κ*sz:=aE4 _ hκ
 exact rU ρ m0 _ _ _ _ n sz κ _ _ rfl rfl hκ (by omega) (by omega) hκm
theorem YD (hT:tA P T)(h:bK ρ m w){s x:AV}(ha:LI T m argTypes s x=some (r,m')){S:Value}(hS:aO ρ s=some S)(hX:aO ρ x=some X):
  bS P (Builtin.append_ argTypes ty #[S,X]) ρ m w r m':=by
 unfold LI at ha
 split at ha
 ·cases ha
 rename_i t h0
 split at ha
 ·cases ha
 rename_i it hit
 split at ha
 case h_2=>cases ha
 rename_i e hd
 split at ha
 ·cases ha
 rename_i i hp
 split at ha
 ·cases ha
 rename_i n new hA
 have ht:=(hT t it hit).und
 rw[hd]at ht
 obtain⟨ys,hy,src⟩:=an3 (P:=P) hT h hp hA hX
 have hg:ys.length=n*i.size:=src.1
 have hone:=src.2.1
 split at ha
 ·rename_i b o len sz c;split at ha
  case h_2=>cases ha
  rename_i e' cs tg hx;split at ha
  case isFalse=>cases ha
  rename_i hc;simp only[aD3,aEP]at hc;obtain⟨⟨⟨⟨⟨c1,c2⟩,c3⟩,c4⟩,c5⟩,hB⟩:=hc;subst c1;subst c5;have hf:=hS;obtain⟨g,o0,z,l,κ,hq,rfl,hκ,_⟩:=jC hS;have hlen:=h.lenq hx hq;subst hlen;split at ha
  ·rename_i hn;injection ha with ha;injection ha with e1 e2;subst e1;subst e2
   subst hn;have hF:ys=[]:=aD8 (by rw[hg];simp);subst hF;refine bS.here h ?_ hf;rw[l9 hT h0 ht hp src (some _) len κ (by omega)];simp[storeCells]
  rename_i hn;obtain⟨oa,o1,o2,o3,o4,o5⟩:=kH (P:=P) h hx hq o (len*i.size) hB;have hG:o+len*i.size+n*i.size=o+(len+n)*i.size:=by rw[Nat.add_mul];omega
  have hnew:=bN hy
  have inPlace:len+n<=κ->o+(len+n)*i.size<=cs.length->∀v,aO ρ v=some (.slice (some ⟨g,o0+o,none⟩) (len+n) κ)->bS P (Builtin.append_ argTypes ty #[.slice (some ⟨g,o0+o,none⟩) len κ,X]) ρ m w v (iJ m b (some (.cells e' (wr cs (o+len*i.size) new) tg))):=by
   intro i1 i2 v hv;obtain⟨w',s1,s2⟩:=pL (P:=P) h hx hq (o+len*i.size) hy hone (by omega);refine⟨ρ,w',_,?_,hv,s2⟩;rw[l9 hT h0 ht hp src (some _) len κ i1];simp only[gF];rw[aF9,s1];rfl
  have hold:(Builtin.firstCells i.size len (.slice (some ⟨g,o0+o,none⟩) len κ)).run P w.drew=.ok oa.toArray w.drew:=by
   simp only[Builtin.firstCells];rw[<-o2];exact tD rfl o4
  have ho:aT ρ ((cs.drop o).take (len*i.size)++new)=some (oa++ys):=eC o1 hy
  have hh:∀y∈oa++ys,y.oneCell'=true:=by
   intro y hz;rcases aEQ.1 hz with hz|hz
   ·exact o3 y hz
   ·exact hone y hz
  have hi:(oa++ys).length=(len+n)*i.size:=by rw[aD2,o2,hg,Nat.add_mul]
  split at ha
  ·rename_i cc
   have hκc:κ=cc/\o+cc*i.size<=cs.length:=by
    unfold aO fT at hf;rw[hq]at hf;simp only at hf;split at hf
    ·rename_i hb;injection hf with hf
     injection hf with _ _ e3
     exact⟨e3.symm,hb.2⟩
    ·cases hf
   obtain⟨rfl,hH⟩:=hκc;split at ha
   ·rename_i hs;injection ha with ha;injection ha with e1 e2;subst e1;subst e2
    have hm:o+(len+n)*i.size<=cs.length:=by have:=aE4 i.size hs;omega
    refine inPlace hs hm _ ?_;unfold aO fT;rw[hq];simp only;rw[aD6 ⟨hs,hH⟩]
   ·rename_i hs;obtain⟨rest,κ',r1,r2,r3,r4⟩:=mS (ty:=ty) hT h0 ht hp src (some ⟨g,o0+o,none⟩) len κ (by omega) c3 c4 hold;obtain⟨ρ',g1,g2⟩:=LJ h rfl ha ho hh hi r2 r3 r4;exact⟨ρ',_,_,r1,g1,g2⟩
  ·rename_i ci cj
   cases hκ0:ρ.cap ci with
   |none=>unfold aO fT at hf;simp[hq,hκ0]at hf
   |some κ0=>
    have hb:κ=κ0-cj/\len+cj<=κ0/\cs.length<=o+(κ0-cj)*i.size/\o0+o+(κ0-cj)*i.size<=z/\κ0<=9223372036854775807:=by
     unfold aO fT at hf;rw[hq]at hf;simp only[hκ0]at hf;split at hf
     ·rename_i hb;injection hf with hf
      injection hf with _ _ e3
      exact⟨e3.symm,hb⟩
     ·cases hf
    obtain⟨rfl,b1,b3,b4,b5⟩:=hb
    split at ha
    ·rename_i hs;injection ha with ha;injection ha with e1 e2;subst e1;subst e2
     have hC:len+n<=κ0-cj:=by
      have:(len+n)*i.size<=(κ0-cj)*i.size:=by omega
      exact aHC this c2
     refine inPlace hC hs _ ?_;unfold aO fT;rw[hq];simp only[hκ0];rw[aD6 ⟨by omega,b3,b4,b5⟩]
    ·rename_i hs;by_cases hl:len+n<=κ0-cj
     ·have hI:=ha;unfold IZ at ha;split at ha
      case h_2=>cases ha
      rename_i m1 hm;injection ha with ha;injection ha with e1 e2;subst e1;subst e2
      obtain⟨g',o',z',arr,xs,k1,k2,k3,k4,k5,k6,k7,k8⟩:=wB h hx;rw[hq]at k1;injection k1 with k1;injection k1 with e1 k1;injection k1 with e2 k1;injection k1 with e3 e4
      subst e1;subst e2;subst e3;have hmul:(len+n)*i.size<=(κ0-cj)*i.size:=aE4 _ hl;have hE:=run_storeCells_at P g (o0+o+len*i.size) e' ys 0 arr w k2 (by omega) hone;refine⟨_,w.setRow g (arr.toList.take (o0+o+len*i.size)++ys++arr.toList.drop (o0+o+len*i.size+ys.length)).toArray,.slice (some ⟨g,o0+o,none⟩) (len+n) (κ0-cj),?_,?_,aX.renew h hx hq (g,o0+o,z,(len+n)*i.size) (some (κ0-cj)) hm rfl ?_ (fun k hk=>setRow_other w g k _ hk) (by simp) rfl rfl rfl⟩
      ·rw[l9 hT h0 ht hp src (some _) len (κ0-cj) hl];simp only[gF];simp only[aE2]at hE;rw[hE];rfl
      ·exact rU ρ m _ _ _ _ _ _ _ _ _ rfl rfl hl hmul b4 (by omega)
      ·have hD:((cs.drop o).take (len*i.size)++new).length=(len+n)*i.size:=by rw[<-hi,bN ho]
       refine⟨g,o0+o,z,_,oa++ys,?_,setRow_heap w g arr _ e' (0,0) k2,?_,by rw[hD];omega,dN (h.le_add _ _) _ ho,hh,?_,(fun h=>by cases h)⟩
       ·rw[hD];exact Env.add_new _ _ _ _
       ·simp only[aEX,aD2,aF6,aF7,aFE];omega
       ·intro j hj;rw[hD]at hj;simp only[aFO];have T1:(arr.toList.take (o0+o+len*i.size)).length=o0+o+len*i.size:=by rw[aF6,aFE];omega
        rw[aEF];by_cases ca:j<len*i.size
        ·rw[aEG (by omega),aEG (by omega),aE5,aD6 (by omega)];have q1:=o4 j oa[j] (by simp[o2,ca]);rw[gF,cell_of_row w g _ _ _ _ k2]at q1;rw[aEB (by omega:j<oa.length),<-q1];simp
        ·have L:∀D:List Value,(arr.toList.take (o0+o+len*i.size)++(ys++D))[o0+o+j]?=(ys++D)[j-len*i.size]?:=fun D=>by
          rw[aEO (by omega),T1,show o0+o+j-(o0+o+len*i.size)=j-len*i.size by omega]
         have R:(oa++ys)[j]?=ys[j-len*i.size]?:=by
          rw[aEO (by omega),o2]
         rw[L,R,aEG (by omega)]
     ·obtain⟨rest,κ',r1,r2,r3,r4⟩:=mS (ty:=ty) hT h0 ht hp src (some ⟨g,o0+o,none⟩) len (κ0-cj) (by omega) c3 c4 hold;have hr:=aX.kill (w':=w) h hx hq (fun _ _=>rfl) rfl rfl rfl rfl;obtain⟨ρ',g1,g2⟩:=LJ hr.rel rfl ha ho hh hi r2 r3 r4;exact⟨ρ',_,_,r1,g1,hr.trans g2⟩
 ·split at ha
  case isFalse=>cases ha
  rename_i hc;simp only[aD3,aEP]at hc;obtain⟨⟨c1,c2⟩,c3⟩:=hc;simp only[aO]at hS;injection hS with hS;subst hS
  split at ha
  ·rename_i hn;injection ha with ha;injection ha with e1 e2;subst e1;subst e2
   subst hn;refine bS.here h ?_ rfl;rw[l9 hT h0 ht hp src none 0 0 (by omega)]
  ·rename_i hn;have hold:(Builtin.firstCells i.size 0 (.slice none 0 0)).run P w.drew=.ok ([]:List Value).toArray w.drew:=by simp[Builtin.firstCells]
   obtain⟨rest,κ',r1,r2,r3,r4⟩:=mS (ty:=ty) hT h0 ht hp src none 0 0 (by omega) (by simpa using c2) (by omega) hold;rw[aEV]at r1 r2 r3;rw[aF4]at r1;obtain⟨ρ',g1,g2⟩:=LJ h rfl ha hy hone hg r2 r3 r4;exact⟨ρ',_,_,r1,g1,g2⟩
 ·cases ha
end
section
variable {n:Nat}{x D X:Value}{v d r:AV}{argTypes:Array TypeId}{ty:TypeId}
variable {P:Program}{T:TypeId->Option cZ}{ρ:Env}{m m':M}{w:World}
theorem D2 {b o sz:Nat}{c:Cap}(h:aO ρ (.cut b o n sz c)=some x):∃a k,x=.slice (some a) 0 k:=by
 unfold aO at h;split at h
 ·injection h with h
  exact⟨_,_,h.symm⟩
 ·cases h
def aiQ:AV->Option Nat
 |.slc _ _ n _ _=>some n
 |.cut _ _ _ _ _=>some 0
 |.lit (.slice none n _)=>some n
 |.lit (.string s)=>some s.size
 |_=>none
theorem NZ (h:aiQ v=some n)(hx:aO ρ v=some x)(w:World):(Builtin.lenOf x).run P w=.ok n w:=by
 unfold aiQ at h;split at h
 ·injection h with h;subst h
  obtain⟨g,o0,z,l,κ,_,rfl,_,_⟩:=jC hx;simp[Builtin.lenOf]
 ·injection h with h;subst h
  obtain⟨a,c,rfl⟩:=D2 hx;simp[Builtin.lenOf]
 ·injection h with h;subst h
  simp only[aO]at hx;injection hx with hx;subst hx
  simp[Builtin.lenOf]
 ·injection h with h;subst h
  simp only[aO]at hx;injection hx with hx;subst hx
  simp[Builtin.lenOf]
 ·cases h
def ab6 (m:M)(size n:Nat):AV->Option (List AV)
 |.slc b o _ _ _=>match m.H.get b with
  |some (.cells _ cs _)=>if o+n*size<=cs.length then some ((cs.drop o).take (n*size))else none
  |_=>none
 |.lit (.slice none _ _)=>some []
 |.lit (.string s)=>some ((s.data.toList.take n).map fun b=> .lit (.int .u8 b.toNat))
 |_=>none
theorem ab7 (h:bK ρ m w){size:Nat}{l:List AV}(hs:ab6 m size n v=some l)(hx:aO ρ v=some x):∃ys,aT ρ l=some ys/\(∀y∈ys,y.oneCell'=true)/\(Builtin.firstCells size n x).run P w=.ok ys.toArray w:=by
 unfold ab6 at hs;split at hs
 ·rename_i b o k sz c;split at hs
  case h_2=>cases hs
  rename_i e cs tg ha;split at hs
  case isFalse=>cases hs
  rename_i hc;injection hs with hs;subst hs
  obtain⟨g,o0,z,len,κ,hq,rfl,_,_⟩:=jC hx;obtain⟨ys,y1,y2,y3,y4,y5⟩:=kH (P:=P) h ha hq o (n*size) hc;exact⟨ys,y1,y3,y5⟩
 ·injection hs with hs;subst hs
  simp only[aO]at hx;injection hx with hx;subst hx
  exact⟨[],rfl,(fun y hy=>by cases hy),by simp[Builtin.firstCells]⟩
 ·rename_i s;injection hs with hs;subst hs
  simp only[aO]at hx;injection hx with hx;subst hx
  refine⟨(s.data.toList.take n).map fun b=> .int .u8 b.toNat,?_,?_,?_⟩
  ·rw[show((s.data.toList.take n).map fun b=>AV.lit (.int .u8 b.toNat))=((s.data.toList.take n).map fun b=>Value.int .u8 b.toNat).map AV.lit by rw[List.map_map];rfl];exact dA _
  ·intro y hy;obtain⟨b,_,rfl⟩:=aEZ.1 hy;rfl
  ·show Result.ok ((s.extract 0 n).data.map fun b=>Value.int .u8 b.toNat) w=_;congr 1;apply Array.toList_inj.1;simp[ByteArray.data_extract]
 ·cases hs
def ab8 (T:TypeId->Option cZ)(m:M)(argTypes:Array TypeId)(d x:AV):Option (AV×M):=
 match argTypes[0]? with
 |none=>none
 |some t=>match T t with
  |none=>none
  |some it=>match it.desc with
   |.slice e=>match T e,d,aiQ x with
    |some i,.slc b o n _ _,some k=>match ab6 m i.size (Nat.min k n) x,m.H.get b with
     |some new,some (.cells e' cs tg)=>if o+new.length<=cs.length then some (.lit (goInt (Nat.min k n)),iJ m b (some (.cells e' (wr cs o new) tg)))else none
     |_,_=>none
    |some _,.lit (.slice none 0 0),some _=>some (.lit (goInt 0),m)
    |_,_,_=>none
   |_=>none
theorem aiR (hT:tA P T)(h:bK ρ m w){x:AV}(ha:ab8 T m argTypes d x=some (r,m'))(hD:aO ρ d=some D)(hX:aO ρ x=some X):
  bS P (Builtin.copy_ argTypes ty #[D,X]) ρ m w r m':=by
 unfold ab8 at ha
 split at ha
 ·cases ha
 rename_i t h0
 split at ha
 ·cases ha
 rename_i it hit
 split at ha
 case h_2=>cases ha
 rename_i e hd
 have ht:=(hT t it hit).und
 rw[hd]at ht
 split at ha
 ·rename_i i b o n sz c k hb hk;split at ha
  case h_2=>cases ha
  rename_i new e' cs tg hnew hg;split at ha
  case isFalse=>cases ha
  rename_i hc;injection ha with ha;injection ha with e1 e2;subst e1;subst e2
  obtain⟨g,o0,z,l,κ,hq,rfl,_,_⟩:=jC hD;obtain⟨ys,y1,y2,y3⟩:=ab7 (P:=P) h hnew hX;obtain⟨w',s1,s2⟩:=pL (P:=P) h hg hq o y1 y2 hc;refine⟨ρ,w',goInt (Nat.min k n),?_,rfl,s2⟩;simp[Builtin.copy_,h0,run_underlying ht,NZ hk hX,iK hT hb,y3,s1]
 ·rename_i i k hb hk;injection ha with ha;injection ha with e1 e2;subst e1;subst e2
  simp only[aO]at hD;injection hD with hD;subst hD
  refine bS.here h (x:=goInt 0) ?_ rfl;have hz:∀n:Nat,Nat.min n 0=0:=fun n=>Nat.min_zero n
  have hf:(Builtin.firstCells i.size 0 X).run P w=.ok #[] w:=by
   unfold aiQ at hk;split at hk
   ·obtain⟨g,o0,z,l,κ,_,rfl,_,_⟩:=jC hX;simp[Builtin.firstCells,loadCells,loadCellsFrom]
   ·obtain⟨a,q,rfl⟩:=D2 hX;simp[Builtin.firstCells,loadCells,loadCellsFrom]
   ·simp only[aO]at hX;injection hX with hX;subst hX
    simp[Builtin.firstCells]
   ·simp only[aO]at hX;injection hX with hX;subst hX
    simp[Builtin.firstCells]
   ·cases hk
  simp[Builtin.copy_,h0,run_underlying ht,NZ hk hX,iK hT hb,hz,hf]
 ·cases ha
def SA (T:TypeId->Option cZ)(m:M)(argTypes:Array TypeId)(d:AV):Option M:=
 match argTypes[0]? with
 |none=>none
 |some t=>match T t with
  |none=>none
  |some it=>match it.desc,d with
   |.slice e,.slc b o n _ _=>match T e,m.H.get b with
    |some i,some (.cells e' cs tg)=>if n=0 then some m else if o+n*i.size<=cs.length then some (iJ m b (some (.cells e' (wr cs o (xX n (i.zero.map .lit))) tg)))else none
    |_,_=>none
   |.slice _,.lit (.slice none _ _)=>some m
   |_,_=>none
theorem ab9 (hT:tA P T)(h:bK ρ m w)(ha:SA T m argTypes d=some m')(hD:aO ρ d=some D):
  bS P (Builtin.clear_ argTypes ty #[D]) ρ m w (.lit (.tuple #[])) m':=by
 unfold SA at ha
 split at ha
 ·cases ha
 rename_i t h0
 split at ha
 ·cases ha
 rename_i it hit
 split at ha
 ·rename_i e b o n sz c hd;have ht:=(hT t it hit).und;rw[hd]at ht;split at ha
  case h_2=>cases ha
  rename_i i e' cs tg hb hf;obtain⟨g,o0,z,l,κ,hq,rfl,_,_⟩:=jC hD;split at ha
  ·rename_i hn;injection ha with ha;subst ha
   subst hn;refine bS.here h (x:= .tuple #[]) ?_ rfl;simp[Builtin.clear_,h0,run_underlying ht]
  ·rename_i hn;split at ha
   case isFalse=>cases ha
   rename_i hc;injection ha with ha;subst ha
   obtain⟨inf,zz,k1,k2,k3,k4,k5,k6,k7⟩:=(hT e i hb).info;have hg:aT ρ (xX n (i.zero.map .lit))=some (xX n i.zero):=by rw[xY];exact dA _
   obtain⟨w',s1,s2⟩:=pL (P:=P) h hf hq o hg (fun y hy=>k7 y (C4 hy)) (by rw[oF,aFV,k6];exact hc);refine⟨ρ,w',.tuple #[],?_,rfl,s2⟩;obtain⟨n',rfl⟩:∃n',n=n'+1:=⟨n-1,by omega⟩;have hz:=(show(zeroValue e).run P w=.ok zz w by simp[zeroValue,typeInfo,k1,k4]);simp[Builtin.clear_,h0,run_underlying ht,hz,qB,k5,s1]
 ·rename_i e n c hd;have ht:=(hT t it hit).und;rw[hd]at ht;injection ha with ha;subst ha
  simp only[aO]at hD;injection hD with hD;subst hD
  refine bS.here h (x:= .tuple #[]) ?_ rfl;simp[Builtin.clear_,h0,run_underlying ht]
 ·cases ha
def SB (T:TypeId->Option cZ)(m:M)(argTypes:Array TypeId)(x:AV):Option AV:=
 match argTypes[0]? with
 |none=>none
 |some t=>match T t with
  |none=>none
  |some it=>match it.desc,x with
   |.slice _,.slc _ _ n _ _=>some (.lit (goInt n))
   |.slice _,.cut _ _ _ _ _=>some (.lit (goInt 0))
   |.map _ _,.mp b=>match m.H.get b with
    |some (.map es)=>some (.lit (goInt es.length))
    |_=>none
   |_,_=>none
theorem acA (hT:tA P T)(h:bK ρ m w){x:AV}(ha:SB T m argTypes x=some r)(hX:aO ρ x=some X):
  bS P (Builtin.len_ argTypes ty #[X]) ρ m w r m:=by
 unfold SB at ha
 split at ha
 ·cases ha
 rename_i t h0
 split at ha
 ·cases ha
 rename_i it hit
 split at ha
 ·rename_i e b o n sz c hd;have ht:=(hT t it hit).und;rw[hd]at ht;injection ha with ha;subst ha
  obtain⟨g,o0,z,l,κ,hq,rfl,_,_⟩:=jC hX;refine bS.here h (x:=goInt n) ?_ rfl;simp[Builtin.len_,h0,run_underlying ht]
 ·rename_i e b o n sz c hd;have ht:=(hT t it hit).und;rw[hd]at ht;injection ha with ha;subst ha
  obtain⟨a,k,rfl⟩:=D2 hX;refine bS.here h (x:=goInt 0) ?_ rfl;simp[Builtin.len_,h0,run_underlying ht,goInt]
 ·rename_i k e b hd;have ht:=(hT t it hit).und;rw[hd]at ht;split at ha
  case h_2=>cases ha
  rename_i es hb;injection ha with ha;subst ha
  obtain⟨g,entries,clock,vs,h1,h2,h3,h4,h5⟩:=h.live b _ hb;unfold aO at hX;rw[h1]at hX;simp only at hX;injection hX with hX;subst hX
  have hl:=h4.length_eq;have hv:=bN h3;simp only[aFV,aFE,List.length_zip]at hl hv;refine bS.here h (x:=goInt es.length) ?_ rfl;have:entries.size=es.length:=by omega
  have hg:(getObj g).run P w=.ok (.map entries clock) w:=by simp[getObj,Sem.run,h2]
  simp[Builtin.len_,h0,run_underlying ht,hg,this]
 ·cases ha
def an4 (T:TypeId->Option cZ)(argTypes:Array TypeId)(x:AV):Option AV:=
 match argTypes[0]? with
 |none=>none
 |some t=>match T t with
  |none=>none
  |some it=>match it.desc,x with
   |.slice _,.slc _ _ _ _ (.ex c)=>some (.lit (goInt c))
   |.slice _,.lit (.slice none 0 0)=>some (.lit (goInt 0))
   |_,_=>none
theorem an5 (hT:tA P T)(h:bK ρ m w){x:AV}(ha:an4 T argTypes x=some r)(hX:aO ρ x=some X):
  bS P (Builtin.cap_ argTypes ty #[X]) ρ m w r m:=by
 unfold an4 at ha
 split at ha
 ·cases ha
 rename_i t h0
 split at ha
 ·cases ha
 rename_i it hit
 split at ha
 ·rename_i e b o n sz c hd;have ht:=(hT t it hit).und;rw[hd]at ht;injection ha with ha;subst ha
  unfold aO fT at hX
  cases hq:ρ.blk b with
  |none=>simp[hq]at hX
  |some q=>
   simp only[hq]at hX
   split at hX
   ·injection hX with hX;subst hX
    refine bS.here h (x:=goInt c) ?_ rfl;simp[Builtin.cap_,h0,run_underlying ht]
   ·cases hX
 ·rename_i e hd;have ht:=(hT t it hit).und;rw[hd]at ht;injection ha with ha;subst ha
  simp only[aO]at hX;injection hX with hX;subst hX
  refine bS.here h (x:=goInt 0) ?_ rfl;simp[Builtin.cap_,h0,run_underlying ht]
 ·cases ha
end
end Go.Sym
