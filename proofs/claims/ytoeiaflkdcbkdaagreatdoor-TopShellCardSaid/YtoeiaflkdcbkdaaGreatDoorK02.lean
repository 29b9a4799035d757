/- TopShell, part 2 of 36. -/
import Derived.Lib.Bytealg
import Derived.Laws.Externs
import Derived.Test.YtoeiaflkdcbkdaaGreatDoorK01
set_option linter.unusedVariables false
set_option linter.unusedSimpArgs false
namespace Go.Sym
open Go
section
variable {ev:Operand->AV}{o:Oper}{m:M}{n:fY}
variable {P:Program}{C:Cx}
def aP (o:Oper):List Nat:=(o.after.toList.filter (Region.binds .any)).map (·.on)
def pO:Op->Bool
 |.move _|.assign _|.pick ..|.build ..|.load ..|.nilCheck _|.binOp ..|.unOp ..|.convert ..|.makeInterface ..|.makeFunc ..|.slice ..|.fieldAddr ..|.field ..|.indexAddr ..|.index ..|.lookup ..|.typeAssert ..|.extract ..=>true
 |.call c=>match c.callee with
  |.builtin .len|.builtin .cap|.builtin .min|.builtin .max|.builtin .unsafeSliceData=>true
  |_=>false
 |_=>false
def pP:Op->Bool
 |.move _|.assign _|.pick ..|.build ..|.nilCheck _|.binOp ..|.unOp ..|.makeInterface ..|.makeFunc ..|.fieldAddr ..|.field ..|.indexAddr ..|.index ..|.typeAssert ..|.extract ..=>true
 |_=>false
theorem JD (hq:pP o.op=true)(h:U7 P C ev o m=some n):∃v,n=.val v m/\∀m2,U7 P C ev o m2=some (.val v m2):=by
 unfold U7 at h⊢
 cases hop:o.op<;>rw[hop]at hq h<;>simp only[pP]at hq<;>first
  |(cases hq;done)
  |skip
 case move x=>injection h with h;exact⟨_,h.symm,fun _=>rfl⟩
 case assign x=>injection h with h;exact⟨_,h.symm,fun _=>rfl⟩
 case pick c a b=>
  simp only at h⊢
  split at h
  ·rename_i t ht;injection h with h
   exact⟨_,h.symm,fun _=>by simp only[ht]⟩
  ·cases h
 case build t parts=>obtain⟨v,h1,rfl⟩:=bR h;exact⟨v,rfl,fun _=>by simp only[h1,gX]⟩
 case nilCheck x=>
  simp only at h⊢
  split at h
  ·rename_i ht;injection h with h
   exact⟨_,h.symm,fun _=>by rw[aD6 ht]⟩
  ·cases h
 case binOp op t x y z=>obtain⟨v,h1,rfl⟩:=bR h;exact⟨v,rfl,fun _=>by simp only[h1,gX]⟩
 case unOp op t x=>obtain⟨v,h1,rfl⟩:=bR h;exact⟨v,rfl,fun _=>by simp only[h1,gX]⟩
 case makeInterface t x=>obtain⟨v,h1,rfl⟩:=bR h;exact⟨v,rfl,fun _=>by simp only[h1,gX]⟩
 case makeFunc f a b=>injection h with h;exact⟨_,h.symm,fun _=>rfl⟩
 case fieldAddr s x f=>obtain⟨v,h1,rfl⟩:=bR h;exact⟨v,rfl,fun _=>by simp only[h1,gX]⟩
 case field t x f=>obtain⟨v,h1,rfl⟩:=bR h;exact⟨v,rfl,fun _=>by simp only[h1,gX]⟩
 case indexAddr t x i=>obtain⟨v,h1,rfl⟩:=bR h;exact⟨v,rfl,fun _=>by simp only[h1,gX]⟩
 case index t x i=>
  simp only at h⊢
  split at h
  ·rename_i a k ha hk;split at h
   ·rename_i v hv;injection h with h
    exact⟨_,h.symm,fun _=>by simp only[ha,hk,hv]⟩
   ·cases h
  ·cases h
 case typeAssert x t as ok=>obtain⟨v,h1,rfl⟩:=bR h;exact⟨v,rfl,fun _=>by simp only[h1,gX]⟩
 case extract x i=>obtain⟨v,h1,rfl⟩:=bR h;exact⟨v,rfl,fun _=>by simp only[h1,gX]⟩
theorem YK (hq:pO o.op=true)(h:U7 P C ev o m=some n):∃v,n=.val v m:=by
 by_cases hi:pP o.op=true
 ·obtain⟨v,h1,_⟩:=JD hi h;exact⟨v,h1⟩
 ·unfold U7 at h
  cases hop:o.op<;>rw[hop]at hq h hi<;>first
   |(exact absurd (show false=true from hq) (by decide))
   |(exact absurd rfl hi)
   |skip
  case load t x=>
   simp only at h
   split at h
   ·obtain⟨v,_,rfl⟩:=bR h;exact⟨v,rfl⟩
   ·obtain⟨v,_,rfl⟩:=bR h;exact⟨v,rfl⟩
   ·cases h
  case convert s d x=>obtain⟨v,_,rfl⟩:=bR h;exact⟨v,rfl⟩
  case slice t x lo hi mx=>obtain⟨v,_,rfl⟩:=bR h;exact⟨v,rfl⟩
  case lookup t x i ok=>obtain⟨v,_,rfl⟩:=bR h;exact⟨v,rfl⟩
  case call c=>
   simp only[pO]at hq
   simp only at h
   split at h<;>rename_i ha
   ·rename_i b;rw[ha]at hq;obtain⟨v,m1,h1,rfl⟩:=gO h;unfold tE at h1
    split at h1<;>first
     |(exact absurd (show false=true from hq) (by decide))
     |skip
    ·split at h1
     ·injection h1 with h1;injection h1 with e1 e2;subst e2;exact⟨v,rfl⟩
     ·cases h1
    ·split at h1
     ·injection h1 with h1;injection h1 with e1 e2;subst e2;exact⟨v,rfl⟩
     ·cases h1
    ·split at h1
     ·injection h1 with h1;injection h1 with e1 e2;subst e2;exact⟨v,rfl⟩
     ·cases h1
    ·split at h1
     ·injection h1 with h1;injection h1 with e1 e2;subst e2;exact⟨v,rfl⟩
     ·cases h1
    ·split at h1
     ·injection h1 with h1;injection h1 with e1 e2;subst e2;exact⟨v,rfl⟩
     ·cases h1
    ·cases h1
   ·rw[ha]at hq;cases hq
   ·rw[ha]at hq;cases hq
def acQ:Value->Value->Bool
 |.bool a,.bool b=>a ==b
 |.int .i64 a,.int .i64 b=>decide (a=b)
 |.int .u8 a,.int .u8 b=>decide (a=b)
 |.int .i32 a,.int .i32 b=>decide (a=b)
 |.string a,.string b=>decide (a.data.toList=b.data.toList)
 |.pointer none,.pointer none=>true
 |.slice none 0 0,.slice none 0 0=>true
 |.map none,.map none=>true
 |.nilFunc,.nilFunc=>true
 |.nilIface,.nilIface=>true
 |.tuple a,.tuple b=>a.isEmpty&&b.isEmpty
 |.func (.func f) a b,.func (.func g) c d=>decide (f=g)&&a.isEmpty&&b.isEmpty&&c.isEmpty&&d.isEmpty
 |_,_=>false
theorem acR {a b:Value}(h:acQ a b=true):a=b:=by
 unfold acQ at h;split at h
 ·simpa using h
 ·simpa using h
 ·simpa using h
 ·simpa using h
 ·rename_i a b;rw[jF (aE3 h)]
 ·rfl
 ·rfl
 ·rfl
 ·rfl
 ·rfl
 ·rename_i a b;simp only[aD3,Array.isEmpty_iff]at h;rw[h.1,h.2]
 ·rename_i f a b g c d;simp only[aD3,aEP,Array.isEmpty_iff]at h;obtain⟨⟨⟨⟨rfl,rfl⟩,rfl⟩,rfl⟩,rfl⟩:=h;rfl
 ·cases h
def VB:Cap->Cap->Bool
 |.ex a,.ex b=>decide (a=b)
 |.lo a b,.lo c d=>decide (a=c)&&decide (b=d)
 |_,_=>false
theorem OD {a b:Cap}(h:VB a b=true):a=b:=by
 unfold VB at h;split at h
 ·rw[aE3 h]
 ·simp only[aD3,aEP]at h;rw[h.1,h.2]
 ·cases h
mutual
def jV:AV->AV->Bool
 |.lit a,.lit b=>acQ a b
 |.ptr a b,.ptr c d=>decide (a=c)&&decide (b=d)
 |.slc a b n s c,.slc a' b' n' s' c'=>decide (a=a')&&decide (b=b')&&decide (n=n')&&decide (s=s')&&VB c c'
 |.mp a,.mp b=>decide (a=b)
 |.agg a,.agg b=>tK a b
 |.tup a,.tup b=>tK a b
 |.ifc t a,.ifc u b=>decide (t=u)&&jV a b
 |.atom a,.atom b=>Nat.beq a b
 |.fn f a b,.fn g c d=>decide (f=g)&&tK a c&&tK b d
 |.elp a b,.elp c d=>Nat.beq a c&&Nat.beq b d
 |.cut a b n s c,.cut a' b' n' s' c'=>decide (a=a')&&decide (b=b')&&decide (n=n')&&decide (s=s')&&VB c c'
 |_,_=>false
def tK:List AV->List AV->Bool
 |[],[]=>true
 |a::x,b::y=>jV a b&&tK x y
 |_,_=>false
end
mutual
theorem eF:∀{a b:AV},jV a b=true->a=b
 |.lit a,b,h=>by
  cases b<;>simp only[jV]at h<;>first
   |(cases h;done)
   |(rw[acR h])
 |.ptr a b,c,h=>by
  cases c<;>simp only[jV]at h<;>first
   |(cases h;done)
   |(simp only[aD3,aEP]at h;rw[h.1,h.2])
 |.slc a b n s c,x,h=>by
  cases x<;>simp only[jV]at h<;>first
   |(cases h;done)
   |(simp only[aD3,aEP]at h
     obtain⟨⟨⟨⟨rfl,rfl⟩,rfl⟩,rfl⟩,h5⟩:=h
     rw[OD h5])
 |.elp a b,x,h=>by
  cases x<;>simp only[jV]at h<;>first
   |(cases h;done)
   |(rw[aD3]at h;rw[aEA h.1,aEA h.2])
 |.cut a b n s c,x,h=>by
  cases x<;>simp only[jV]at h<;>first
   |(cases h;done)
   |(simp only[aD3,aEP]at h
     obtain⟨⟨⟨⟨rfl,rfl⟩,rfl⟩,rfl⟩,h5⟩:=h
     rw[OD h5])
 |.mp a,c,h=>by
  cases c<;>simp only[jV]at h<;>first
   |(cases h;done)
   |(rw[aE3 h])
 |.agg a,c,h=>by
  cases c<;>simp only[jV]at h<;>first
   |(cases h;done)
   |(rw[oH h])
 |.tup a,c,h=>by
  cases c<;>simp only[jV]at h<;>first
   |(cases h;done)
   |(rw[oH h])
 |.ifc t a,c,h=>by
  cases c<;>simp only[jV]at h<;>first
   |(cases h;done)
   |(simp only[aD3,aEP]at h
     obtain⟨rfl,h2⟩:=h
     rw[eF h2])
 |.atom n,c,h=>by
  cases c<;>simp only[jV]at h<;>first
   |(cases h;done)
   |(rw[aEA h])
 |.fn f a b,c,h=>by
  cases c<;>simp only[jV]at h<;>first
   |(cases h;done)
   |(simp only[aD3,aEP]at h
     obtain⟨⟨rfl,h2⟩,h3⟩:=h
     rw[oH h2,oH h3])
theorem oH:∀{a b:List AV},tK a b=true->a=b
 |[],b,h=>by
  cases b with
  |nil=>rfl
  |cons x y=>simp only[tK]at h;cases h
 |a::x,b,h=>by
  cases b with
  |nil=>simp only[tK]at h;cases h
  |cons b y=>
   simp only[tK,aD3]at h
   rw[eF h.1,oH h.2]
end
end
section
variable {b:Nat}{k:jR}{fs:List (Nat×jR)}{ρ0:Env}{m0 m1 m2:M}{w0:World}
variable {P:Program}{ρ ρ':Env}{m m2:M}{w w':World}
def addF (m:M):List (Nat×jR)->M
 |[]=>m
 |p::fs=>iJ (addF m fs) p.1 (some p.2)
def fC (b:Nat):List (Nat×jR)->Option jR
 |[]=>none
 |p::fs=>if p.1=b then some p.2 else fC b fs
theorem cV (m:M):∀fs:List (Nat×jR),(addF m fs).nb=m.nb
 |[]=>rfl
 |_::fs=>cV m fs
theorem eQ (m:M):∀fs:List (Nat×jR),(addF m fs).nc=m.nc
 |[]=>rfl
 |_::fs=>eQ m fs
theorem eJ (m:M)(b:Nat):∀fs:List (Nat×jR),(∀p∈fs,p.1<=1000000)->(addF m fs).H.get b=match fC b fs with
  |some k=>some k
  |none=>m.H.get b
 |[],_=>rfl
 |p::fs,h=>by
  have ih:=eJ m b fs fun q hq=>h q (aEM _ hq)
  unfold addF fC;by_cases hb:p.1=b
  ·subst hb;rw[aD6 rfl,jU (h p aEH)]
  ·rw[aD4 hb,eD (fun e=>hb e.symm)];exact ih
theorem gG:∀{fs:List (Nat×jR)},fC b fs=some k->(b,k)∈fs
 |[],h=>by cases h
 |p::fs,h=>by
  unfold fC at h;split at h
  ·rename_i hb;injection h with h
   have:p=(b,k):=by rw[<-hb,<-h]
   rw[<-this];exact aEH
  ·exact aEM _ (gG h)
theorem bK.drop (h:bK ρ (addF m fs) w)(hs:∀p∈fs,p.1<=1000000)(hn:∀p∈fs,m.H.get p.1=none):bK ρ m w:=by
 have ha:∀b k,m.H.get b=some k->(addF m fs).H.get b=some k:=by
  intro b k hb;rw[eJ m b fs hs]
  cases hl:fC b fs with
  |none=>exact hb
  |some k'=>
   have:=hn _ (gG hl)
   rw[this]at hb;cases hb
 refine⟨fun i hi=>h.nb i (by rw[cV];exact hi),fun i hi=>h.nc i (by rw[eQ];exact hi),fun b k hb=>h.live b k (ha b k hb),fun b b' k k' q q' hb hc hq hd hf=>h.inj b b' k k' q q' (ha b k hb) (ha b' k' hc) hq hd hf,by have:=h.small;rw[cV]at this;exact this⟩
theorem eM.drop {B:aE}(h:eM B ρ (addF m fs) w)(hs:∀p∈fs,p.1<=1000000)(hn:∀p∈fs,m.H.get p.1=none):eM B ρ m w:=by
 refine h.sub (fun b k hb=>⟨k,?_⟩) (by rw[eQ];exact aD1 _);rw[eJ m b fs hs]
 cases hl:fC b fs with
 |none=>exact hb
 |some k'=>
  have:=hn _ (gG hl)
  rw[this]at hb;cases hb
theorem frame (h:bK ρ (addF m fs) w)(hs:aX ρ m w ρ' m2 w')(hf:∀p∈fs,p.1<=1000000)(hn:∀p∈fs,m.H.get p.1=none)(hj:∀p∈fs,p.1<m.nb):aX ρ (addF m fs) w ρ' (addF m2 fs) w':=by
 have hv:∀p∈fs,m2.H.get p.1=none:=by
  intro p hp
  cases hg:m2.H.get p.1 with
  |none=>rfl
  |some k=>
   rcases hs.ids _ _ hg with⟨k0,h0⟩|h0
   ·rw[hn p hp]at h0;cases h0
   ·have:=hj p hp;omega
 have ga:=fun b=>eJ m b fs hf
 have gb:=fun b=>eJ m2 b fs hf
 have sub:∀b k,m.H.get b=some k->(addF m fs).H.get b=some k:=by
  intro b k hb;rw[ga b]
  cases hl:fC b fs with
  |none=>exact hb
  |some k'=>
   have:=hn _ (gG hl)
   rw[this]at hb;cases hb
 have la:∀g,dD ρ m g->dD ρ (addF m fs) g:=by
  rintro g ⟨b,k,q,hb,hq,hg⟩;exact⟨b,k,q,sub b k hb,hq,hg⟩
 have old:∀b k,fC b fs=some k->∃q,ρ.blk b=some q/\ρ'.blk b=some q/\q.1<w.heap.size/\¬dD ρ m q.1/\gE ρ w b k/\(addF m fs).H.get b=some k:=by
  intro b k hl;have hg:(addF m fs).H.get b=some k:=by rw[ga b,hl]
  have hk:=h.live b k hg;obtain⟨q,hq,ho⟩:=hk.at_;refine⟨q,hq,hs.le.b hq,ho,?_,hk,hg⟩;rintro⟨b',k',q',hc,ha,he⟩
  have hd:b≠b':=by
   rintro rfl;rw[hn _ (gG hl)]at hc;cases hc
  exact h.inj b b' k k' q q' hg (sub b' k' hc) hq ha hd he.symm
 have new:∀b k,fC b fs=none->(addF m2 fs).H.get b=some k->m2.H.get b=some k:=by
  intro b k hl hg;rw[gb b,hl]at hg;exact hg
 refine⟨hs.le,⟨fun i hi=>hs.rel.nb i (by rw[cV]at hi;exact hi),fun i hi=>hs.rel.nc i (by rw[eQ]at hi;exact hi),fun b k hb=>?_,fun b b' k k' q q' hb hc hq ha hd=>?_,by rw[cV];exact hs.rel.small⟩,fun g hg hr=>hs.keep g hg (fun hl=>hr (la g hl)),?_,hs.size,hs.os,hs.tape,hs.output,by rw[cV,cV];exact hs.nbm,fun i hi=>hs.fix i (by rw[cV]at hi;exact hi),fun b k hb=>?_,by rw[eQ,eQ];exact hs.ncm,fun n v hn=>?_,fun b k k' q h1 h2 hq=>by
  cases hl:fC b fs with
  |some k0=>
   obtain⟨q0,j1,j2,j3,j4,_⟩:=old b k0 hl
   rw[j1]at hq;injection hq with hq;subst hq
   exact .same (hs.keep _ j3 j4)
  |none=>
   rw[ga b,hl]at h1
   exact hs.out b k k' q h1 (new b k' hl h2) hq⟩
 ·cases hl:fC b fs with
  |some k0=>
   obtain⟨q,h1,h2,h3,h4,h5,h6⟩:=old b k0 hl
   rw[gb b,hl]at hb
   injection hb with hb;subst hb
   refine h5.mono hs.le fun q' ha=>?_
   rw[h1]at ha;injection ha with ha;subst ha
   exact hs.keep _ h3 h4
  |none=>exact hs.rel.live b k (new b k hl hb)
 ·cases hl:fC b fs with
  |some k0=>
   obtain⟨p,h1,h2,h3,h4,h5,h6⟩:=old b k0 hl
   rw[h2]at hq;injection hq with hq;subst hq
   cases hl':fC b' fs with
   |some k1=>
    obtain⟨p',g1,g2,g3,g4,g5,g6⟩:=old b' k1 hl'
    rw[g2]at ha;injection ha with ha;subst ha
    exact h.inj b b' _ _ _ _ h6 g6 h1 g1 hd
   |none=>
    have ht:=new b' k' hl' hc
    intro e
    rcases hs.fresh q'.1 ⟨b',k',q',ht,ha,rfl⟩with hx|hx
    ·omega
    ·exact h4 (by rw[e];exact hx)
  |none=>
   have hh:=new b k hl hb
   cases hl':fC b' fs with
   |some k1=>
    obtain⟨p',g1,g2,g3,g4,g5,g6⟩:=old b' k1 hl'
    rw[g2]at ha;injection ha with ha;subst ha
    intro e
    rcases hs.fresh q.1 ⟨b,k,q,hh,hq,rfl⟩with hx|hx
    ·omega
    ·exact g4 (by rw[<-e];exact hx)
   |none=>exact hs.rel.inj b b' k k' q q' hh (new b' k' hl' hc) hq ha hd
 ·rintro g ⟨b,k,q,hb,hq,rfl⟩
  cases hl:fC b fs with
  |some k0=>
   obtain⟨p,h1,h2,h3,h4,h5,h6⟩:=old b k0 hl
   rw[h2]at hq;injection hq with hq;subst hq
   exact .inr ⟨b,k0,p,h6,h1,rfl⟩
  |none=>
   rcases hs.fresh q.1 ⟨b,k,q,new b k hl hb,hq,rfl⟩with hx|hx
   ·exact .inl hx
   ·exact .inr (la _ hx)
 ·cases hl:fC b fs with
  |some k0=>
   obtain⟨p,h1,h2,h3,h4,h5,h6⟩:=old b k0 hl
   exact .inl ⟨k0,h6⟩
  |none=>
   rcases hs.ids b k (new b k hl hb)with⟨k1,h1⟩|h1
   ·exact .inl ⟨k1,sub b k1 h1⟩
   ·exact .inr (by rw[cV];exact h1)
 ·rcases hs.ats n v hn with hx|⟨h1,h2,h3,gh,h4,h5⟩
  ·exact .inl hx
  ·refine .inr ⟨h1,by rw[eQ];exact h2,by rw[eQ];exact h3,gh,h4,h5.mono fun g hg _=>⟨rfl,hg.1,?_⟩⟩;rintro⟨b,k,q,hb,hq,rfl⟩
   cases hl:fC b fs with
   |some k0=>
    obtain⟨p,g1,g2,g3,_⟩:=old b k0 hl
    rw[g2]at hq;injection hq with hq;subst hq
    exact absurd hg.1 (by omega)
   |none=>exact hg.2 ⟨b,k,q,new b k hl hb,hq,rfl⟩
theorem JE (S:aX ρ0 m0 w0 ρ m w){i:Nat}{blk:jR}{q:Nat×Nat×Nat×Nat}(hi:ρ.blk i=none)(h0:m0.nb<=i)(hC:i<m.nb)(hg:m.H.get i=none)(hf:w.heap.size<=q.1)(hk:gE (ρ.addB i q) w' i blk)(ho:∀g,g<w.heap.size->w'.heap[g]?=w.heap[g]?)(ht:w.heap.size<=w'.heap.size)(os:w'.os=w.os)(tape:w'.tape=w.tape)(output:w'.output=w.output):
  aX ρ0 m0 w0 (ρ.addB i q) (iJ m i (some blk)) w':=by
 have hle:=Env.le_addB q hi
 have hv:=S.rel.small
 have hself:(iJ m i (some blk)).H.get i=some blk:=jU (by omega)
 have hq:∀b,b≠i->(iJ m i (some blk)).H.get b=m.H.get b:=fun b hb=>eD hb
 have hd:∀b,b≠i->(ρ.addB i q).blk b=ρ.blk b:=fun b hb=>Env.addB_old q hb
 have hnew:(ρ.addB i q).blk i=some q:=Env.addB_new _ _ _
 have old:∀b k,b≠i->(iJ m i (some blk)).H.get b=some k->∃p,ρ.blk b=some p/\(ρ.addB i q).blk b=some p/\p.1<w.heap.size/\m.H.get b=some k:=by
  intro b k hb hk;rw[hq b hb]at hk;obtain⟨p,hp,hz⟩:=(S.rel.live b k hk).at_;exact⟨p,hp,by rw[hd b hb];exact hp,hz,hk⟩
 refine⟨S.le.trans hle,⟨fun j hj=>?_,fun j hj=>S.rel.nc j hj,fun b k hb=>?_,fun b b' k k' p p' hb hr hp ha hs=>?_,hv⟩,fun g hl hA=>?_,?_,aEI S.size ht,os.trans S.os,tape.trans S.tape,output.trans S.output,S.nbm,fun j hj=>?_,fun b k hb=>?_,S.ncm,fun n v hn=>?_,fun b k k' p h1 h2 hp=>?_⟩
 rotate_right
 ·by_cases hc:b=i
  ·subst hc;have:=S.le.b hp;rw[hi]at this;cases this
  ·obtain⟨p1,j1,j2,j3,j4⟩:=old b k' hc h2;have:=S.le.b hp;rw[j1]at this;injection this with this;subst this
   exact(S.out b k k' _ h1 j4 hp).trans (.same (ho _ j3))
 ·have hB:m.nb<=j:=hj;rw[hd j (by omega)];exact S.rel.nb j hB
 ·by_cases hc:b=i
  ·subst hc;rw[hself]at hb;injection hb with hb;subst hb;exact hk
  ·obtain⟨p,h1,h2,h3,h4⟩:=old b k hc hb;refine(S.rel.live b k h4).mono hle fun p' ha=>?_
   rw[h1]at ha;injection ha with ha;subst ha
   exact ho _ h3
 ·by_cases hc:b=i
  ·subst hc;rw[hnew]at hp;injection hp with hp;subst hp
   obtain⟨p2,h1,h2,h3,h4⟩:=old b' k' (fun e=>hs e.symm) hr;rw[h2]at ha;injection ha with ha;subst ha
   omega
  ·obtain⟨p1,h1,h2,h3,h4⟩:=old b k hc hb;rw[h2]at hp;injection hp with hp;subst hp
   by_cases hh:b'=i
   ·subst hh;rw[hnew]at ha;injection ha with ha;subst ha
    omega
   ·obtain⟨p2,g1,g2,g3,g4⟩:=old b' k' hh hr;rw[g2]at ha;injection ha with ha;subst ha
    exact S.rel.inj b b' k k' _ _ h4 g4 h1 g1 hs
 ·exact(ho g (aEL hl S.size)).trans (S.keep g hl hA)
 ·rintro g ⟨b,k,p,hb,hp,rfl⟩;by_cases hc:b=i
  ·subst hc;rw[hnew]at hp;injection hp with hp;subst hp
   exact .inl (aEI S.size hf)
  ·obtain⟨p1,h1,h2,h3,h4⟩:=old b k hc hb;rw[h2]at hp;injection hp with hp;subst hp
   exact S.fresh _ ⟨b,k,p1,h4,h1,rfl⟩
 ·rw[hd j (by omega)];exact S.fix j hj
 ·by_cases hc:b=i
  ·subst hc;exact .inr h0
  ·obtain⟨p1,h1,h2,h3,h4⟩:=old b k hc hb;exact S.ids b k h4
 ·rcases S.ats n v hn with hx|⟨h1,h2,h3,gh,h4,h5⟩
  ·exact .inl hx
  ·refine .inr ⟨h1,h2,h3,gh,hle.a h4,h5.mono fun g hg hl=>⟨ho g hl,hg.1,?_⟩⟩;rintro⟨b,k,p,hb,hp,rfl⟩;by_cases hc:b=i
   ·subst hc;rw[hnew]at hp;injection hp with hp;subst hp
    omega
   ·obtain⟨p1,g1,g2,g3,g4⟩:=old b k hc hb;rw[g2]at hp;injection hp with hp;subst hp
    exact hg.2 ⟨b,k,p1,g4,g1,rfl⟩
theorem bK.ext (h:bK ρ m1 w)(hg:∀b,m1.H.get b=m2.H.get b)(hb:m1.nb=m2.nb)(hc:m1.nc=m2.nc):bK ρ m2 w:=
 ⟨fun i hi=>h.nb i (by rw[hb];exact hi),fun i hi=>h.nc i (by rw[hc];exact hi),fun b k hk=>h.live b k (by rw[hg];exact hk),fun b b' k k' q q' h1 h2=>h.inj b b' k k' q q' (by rw[hg];exact h1) (by rw[hg];exact h2),by rw[<-hb];exact h.small⟩
theorem dD.ext (hg:∀b,m1.H.get b=m2.H.get b){g:Nat}(h:dD ρ m2 g):dD ρ m1 g:=by
 obtain⟨b,k,q,h1,h2,h3⟩:=h;exact⟨b,k,q,by rw[hg];exact h1,h2,h3⟩
theorem aX.ext (S:aX ρ0 m0 w0 ρ m1 w)(hg:∀b,m1.H.get b=m2.H.get b)(hb:m1.nb=m2.nb)(hc:m1.nc=m2.nc):aX ρ0 m0 w0 ρ m2 w:=
 ⟨S.le,S.rel.ext hg hb hc,S.keep,fun g h=>S.fresh g (h.ext hg),S.size,S.os,S.tape,S.output,by rw[<-hb];exact S.nbm,S.fix,fun b k hk=>S.ids b k (by rw[hg];exact hk),by rw[<-hc];exact S.ncm,fun n v hn=>by
   rcases S.ats n v hn with hx|⟨h1,h2,h3,gh,h4,h5⟩
   ·exact .inl hx
   ·exact .inr ⟨h1,h2,by rw[<-hc];exact h3,gh,h4,h5.mono fun g hl _=>⟨rfl,hl.1,fun hx=>hl.2 (hx.ext hg)⟩⟩,fun b k k' q h1 h2 hq=>S.out b k k' q h1 (by rw[hg];exact h2) hq⟩
theorem lR:∀{fs:List (Nat×jR)},(b,k)∈fs->(∀k',(b,k')∈fs->k'=k)->fC b fs=some k
 |[],h,_=>by cases h
 |p::fs,h,hu=>by
  unfold fC;by_cases hb:p.1=b
  ·rw[aD6 hb];have:=hu p.2 (by rw[<-hb];exact aEH);rw[this]
  ·rw[aD4 hb];refine lR ?_ fun k' hk=>hu k' (aEM _ hk)
   rcases aER.1 h with rfl|h
   ·exact absurd rfl hb
   ·exact h
theorem gP:∀{fs:List (Nat×jR)},(∀k,(b,k)∉fs)->fC b fs=none
 |[],_=>rfl
 |p::fs,h=>by
  unfold fC;rw[aD4 (fun hb=>h p.2 (by rw[<-hb];exact aEH))];exact gP fun k hk=>h k (aEM _ hk)
end
section
variable {o:Op}{ops:Array Oper}{pl x:List (Option Tmp×AV)}{call:bM}{t0:Tr AV}{T:TypeId->Option cZ}
variable {P:Program}{C:Cx}
def kZ:Op->Bool
 |.alloc _=>true
 |_=>false
def CT:Op->Bool
 |.makeMap _ none=>true
 |_=>false
def lL:Op->Bool
 |.insert ..=>true
 |_=>false
def nN (o:Op):Bool:=kZ o || (CT o || lL o)
theorem wN (h:kZ o=true):nN o=true:=by unfold nN;rw[h];rfl
theorem LX (h:CT o=true):nN o=true:=by unfold nN;rw[h];simp
theorem EE (h:lL o=true):nN o=true:=by unfold nN;rw[h];simp
theorem SK (h:nN o=true):kZ o=true∨CT o=true∨lL o=true:=by
 unfold nN at h;simpa using h
theorem AB (h:nN o=false):kZ o=false/\CT o=false/\lL o=false:=by
 unfold nN at h;simpa using h
def bL (o:Op):Bool:=pO o || nN o
def cA:List Oper->Nat
 |[]=>0
 |o::l=>if bL o.op then cA l else cA l+1
def LY (f:Nat->Nat->Oper->Bool):List Oper->Nat->Nat->Bool
 |[],_,_=>true
 |o::l,i,c=>f i c o&&LY f l (i+1) (if bL o.op then c else c+1)
theorem EF {f:Nat->Nat->Oper->Bool}:∀{l:List Oper} {i c:Nat},LY f l i c=true->∀{k:Nat} {o:Oper},l[k]?=some o->f (i+k) (c+cA (l.take k)) o=true
 |[],_,_,_,k,o,hk=>by simp at hk
 |x::l,i,c,h,k,o,hk=>by
  unfold LY at h;rw[aD3]at h
  cases k with
  |zero=>simp at hk;subst hk;exact h.1
  |succ k=>
   have:=EF h.2 (k:=k) (o:=o) (by simpa using hk)
   rw[aE1,cA]
   split at this
   ·rename_i hq;rw[aD6 hq,show i+(k+1)=i+1+k by omega];exact this
   ·rename_i hq;rw[aD4 hq,show i+(k+1)=i+1+k by omega,show c+(cA (l.take k)+1)=c+1+cA (l.take k) by omega];exact this
def cnt (ops:Array Oper)(i:Nat):Nat:=cA (ops.toList.take i)
def via (ops:Array Oper)(o:Oper)(j:Nat):Bool:=(aP o).any fun m=>match ops[m]? with
 |some om=>(aP om).contains j
 |none=>false
theorem ai2 {o:Oper}{j:Nat}(h:via ops o j=true):∃m∈aP o,∃om,ops[m]?=some om/\j∈aP om:=by
 unfold via at h;obtain⟨m,hm,h⟩:=aG2.1 h
 cases ho:ops[m]? with
 |none=>rw[ho]at h;cases h
 |some om=>rw[ho]at h;exact⟨m,hm,om,ho,by simpa using h⟩
def AC (ops:Array Oper)(i c:Nat)(o:Oper)(j c':Nat)(o':Oper):Bool:=
 Nat.beq j i || ((match o'.dst with
   |none=>true
   |some d=>(o.dst !=some d)&&(!(o.looksAt ops).contains d || (aP o).contains j || (aP o').contains i))&&
  (bL o.op || bL o'.op || !(Nat.beq c (c'+1)) || (aP o).contains j || via ops o j))
def anH:Op->Bool
 |.select ..=>true
 |_=>false
def OE (ops:Array Oper):Bool:=
 LY (fun i c o=>!anH o.op&&(!nN o.op || o.guard.isNone)&&(aP o).all (fun j=>decide (j<i))&&LY (fun j c' o'=>AC ops i c o j c' o') ops.toList 0 0) ops.toList 0 0
structure wO (ops:Array Oper):Prop where
 sel:∀(i:Nat) (o:Oper),ops[i]?=some o->∀cs b,o.op≠ .select cs b
 guard:∀(i:Nat) (o:Oper),ops[i]?=some o->nN o.op=true->o.guard=none
 lt:∀(i:Nat) (o:Oper),ops[i]?=some o->∀j∈aP o,j<i
 dst:∀(i:Nat) (o:Oper) (j:Nat) (o':Oper),ops[i]?=some o->ops[j]?=some o'->j≠i->∀d,o'.dst=some d->o.dst≠some d
 looks:∀(i:Nat) (o:Oper) (j:Nat) (o':Oper),ops[i]?=some o->ops[j]?=some o'->j≠i->∀d,o'.dst=some d->d∈o.looksAt ops->j∈aP o∨i∈aP o'
 chain:∀(i:Nat) (o:Oper) (j:Nat) (o':Oper),ops[i]?=some o->ops[j]?=some o'->bL o.op=false->bL o'.op=false->cnt ops i=cnt ops j+1->j∈aP o∨∃m∈aP o,∃om,ops[m]?=some om/\j∈aP om
theorem YL (h:OE ops=true):wO ops:=by
 have oa:∀(i:Nat) (o:Oper),ops[i]?=some o->(!anH o.op&&(!nN o.op || o.guard.isNone)&&(aP o).all (fun j=>decide (j<i))&&LY (fun j c' o'=>AC ops i (cnt ops i) o j c' o') ops.toList 0 0)=true:=by
  intro i o hi;have:=EF h (k:=i) (o:=o) (by simpa using hi);simpa [cnt]using this
 have two:∀(i:Nat) (o:Oper) (j:Nat) (o':Oper),ops[i]?=some o->ops[j]?=some o'->AC ops i (cnt ops i) o j (cnt ops j) o'=true:=by
  intro i o j o' hi hj;have h1:=oa i o hi;simp only[aD3]at h1;have:=EF h1.2 (k:=j) (o:=o') (by simpa using hj);simpa [cnt]using this
 refine⟨fun i o hi cs b hs=>?_,fun i o hi ha=>?_,fun i o hi j hj=>?_,fun i o j o' hi hj hf d hd=>?_,fun i o j o' hi hj hf d hd hl=>?_,fun i o j o' hi hj hq hg hc=>?_⟩
 ·have h1:=oa i o hi;simp only[aD3]at h1;have:=h1.1.1.1;rw[hs]at this
  cases this
 ·have h1:=oa i o hi;simp only[aD3]at h1;have:=h1.1.1.2;rw[ha]at this;simpa using this
 ·have h1:=oa i o hi;simp only[aD3,aD7,aEP]at h1;exact h1.1.2 j hj
 ·have h2:=two i o j o' hi hj;unfold AC at h2;rw[show Nat.beq j i=false from beq_false hf,hd]at h2;simp only[aHD,aD3,bne_iff_ne]at h2;exact h2.1.1
 ·have h2:=two i o j o' hi hj;unfold AC at h2;rw[show Nat.beq j i=false from beq_false hf,hd]at h2;simp only[aHD,aD3,aFQ,Bool.not_eq_true',aGW]at h2;rcases h2.1.2 with(h3|h3)|h3
  ·have:(o.looksAt ops).contains d=true:=by simpa using hl
   rw[this]at h3;cases h3
  ·exact .inl h3
  ·exact .inr h3
 ·have hf:j≠i:=by rintro rfl;omega
  have h2:=two i o j o' hi hj;unfold AC at h2;rw[show Nat.beq j i=false from beq_false hf]at h2;have hb:Nat.beq (cnt ops i) (cnt ops j+1)=true:=by rw[hc];exact aG6 _
  simp only[hq,hg,hb,aHD,Bool.not_true,aD3,aFQ,aGW]at h2;rcases h2.2 with h3|h3
  ·exact .inl h3
  ·exact .inr (ai2 h3)
noncomputable def gH (pl:List (Option Tmp×AV)):List Nat->Tr AV->Tr AV
 |[],t=>t
 |j::af,t=>gH pl af (match pl[j]? with
  |some p=>r7 t p.1 p.2
  |none=>t)
theorem yA (t:Tr AV)(d:Option Tmp)(v:AV)(i:Nat):gA (r7 t d v) i=if d=some i then(gA t i).map (fun _=>v)else gA t i:=by
 cases d with
 |none=>rw[aD4 (by simp)];rfl
 |some d=>
  show gA (AA v t d) i=_
  rw[nT]
  by_cases h:i=d
  ·subst h;simp
  ·rw[aD4 h,aD4 (by simp;exact fun e=>h e.symm)]
theorem JF {pl:List (Option Tmp×AV)}:∀(af:List Nat) (t:Tr AV) (d:Nat),
  (∃j∈af,∃v,pl[j]?=some (some d,v)/\gA (gH pl af t) d=(gA t d).map (fun _=>v))∨((∀j∈af,∀v,pl[j]?≠some (some d,v))/\gA (gH pl af t) d=gA t d)
 |[],t,d=> .inr ⟨(fun j hj=>by cases hj),rfl⟩
 |j::af,t,d=>by
  unfold gH;rcases JF (pl:=pl) af (match pl[j]? with|some p=>r7 t p.1 p.2|none=>t) d with⟨j',ha,v,h1,h2⟩|⟨h1,h2⟩
  ·refine .inl ⟨j',aEM _ ha,v,h1,?_⟩;rw[h2]
   cases hp:pl[j]? with
   |none=>rfl
   |some p=>
    simp only
    rw[yA]
    split
    ·cases gA t d<;>rfl
    ·rfl
  ·cases hp:pl[j]? with
   |none=>
    refine .inr ⟨fun j' ha v=>?_,?_⟩
    ·rcases aER.1 ha with rfl|ha
     ·rw[hp];simp
     ·exact h1 j' ha v
    ·rw[hp]at h2;exact h2
   |some p=>
    rw[hp]at h2
    simp only at h2
    rw[yA]at h2
    by_cases hd:p.1=some d
    ·rw[aD6 hd]at h2;refine .inl ⟨j,aEH,p.2,?_,h2⟩;rw[hp,<-hd]
    ·rw[aD4 hd]at h2;refine .inr ⟨fun j' ha v=>?_,h2⟩;rcases aER.1 ha with rfl|ha
     ·rw[hp];intro e;injection e with e;exact hd (by rw[e])
     ·exact h1 j' ha v
theorem sA:∀(af:List Nat) (t:Tr AV),(∀j∈af,j<pl.length)->gH (pl++x) af t=gH pl af t
 |[],t,_=>rfl
 |j::af,t,h=>by
  unfold gH;rw[aEG (h j aEH)];exact sA af _ (fun k hk=>h k (aEM _ hk))
noncomputable def aAW (call:bM)(n:Option fY)(m:M):Option (AV×M):=
 match n with
 |some (.val v m')=>some (v,m')
 |some (.skip m')=>some (.lit undef,m')
 |some (.enter f args)=>call f args m
 |none=>none
noncomputable def oneA (P:Program)(C:Cx)(call:bM)(ops:Array Oper)(t0:Tr AV)(pl:List (Option Tmp×AV))(o:Oper)(m:M):Option (AV×M):=
 match nM ops (gH pl (aP o) t0) o with
 |none=>none
 |some false=>some (.lit undef,m)
 |some true=>aAW call (opK P C (x9 (gH pl (aP o) t0)) m o) m
theorem BV {o:Oper}{m:M}(h:∀j∈aP o,j<pl.length):oneA P C call ops t0 (pl++x) o m=oneA P C call ops t0 pl o m:=by
 unfold oneA;rw[sA _ _ h]
structure AD where
 op:Nat
 id:Nat
 stage:Nat
 blk:Array Bool->jR
def SL (T:TypeId->Option cZ)(t:TypeId):jR:=
 match T t with
 |some i=> .cells t (i.zero.map .lit) true
 |none=> .iter .empty 0
def kC (i:Nat):List Oper->Nat->Nat
 |[],c=>c
 |o::l,c=>if bL o.op then kC i l c else if(aP o).contains i then c else kC i l (c+1)
theorem wP (i:Nat):∀(l:List Oper) (c:Nat),c<=kC i l c
 |[],c=>aD1 _
 |o::l,c=>by
  unfold kC;split
  ·exact wP i l c
  ·split
   ·exact aD1 _
   ·have:=wP i l (c+1);omega
theorem wQ (i:Nat):∀(l:List Oper) (c:Nat),kC i l c<=c+cA l
 |[],c=>aD1 _
 |o::l,c=>by
  unfold kC cA;split
  ·exact wQ i l c
  ·split
   ·omega
   ·have:=wQ i l (c+1);omega
theorem sC (i:Nat):∀(l:List Oper) (c:Nat) {j:Nat} {o:Oper},l[j]?=some o->bL o.op=false->c+cA (l.take j)=kC i l c->i∈aP o
 |[],_,j,o,h,_,_=>by simp at h
 |x::l,c,0,o,h,hq,hc=>by
  simp at h;subst h;unfold kC at hc;rw[aD4 (by rw[hq];simp)]at hc;split at hc
  ·rename_i hx;simpa using hx
  ·have:=wP i l (c+1);simp[cA]at hc;omega
 |x::l,c,j+1,o,h,hq,hc=>by
  have h':l[j]?=some o:=by simpa using h
  unfold kC at hc;rw[aE1,cA]at hc;split at hc
  ·rename_i hx;exact sC i l c h' hq hc
  ·rename_i hx;split at hc
   ·omega
   ·exact sC i l (c+1) h' hq (by omega)
def lS (T:TypeId->Option cZ)(all:List Oper):List Oper->Nat->Nat->List AD
 |[],_,_=>[]
 |o::l,i,nb=>match o.op with
  |.alloc t=>⟨i,nb,kC i all 0,fun _=>SL T t⟩::lS T all l (i+1) (nb+1)
  |.makeMap _ none=>⟨i,nb,cA all+1,fun _=> .map []⟩::lS T all l (i+1) (nb+1)
  |_=>lS T all l (i+1) nb
def auR (T:TypeId->Option cZ)(all:List Oper)(f:AD)(o:Oper):Prop:=
 (∃t,o.op=.alloc t/\f.stage=kC f.op all 0/\f.blk=fun _=>SL T t)∨(∃t,o.op=.makeMap t none/\f.stage=cA all+1)
theorem nU {all:List Oper}:∀{l:List Oper} {i nb:Nat},∀f∈lS T all l i nb,
  i<=f.op/\nb<=f.id/\f.id<nb+(lS T all l i nb).length/\∃o,l[f.op-i]?=some o/\auR T all f o
 |[],i,nb,f,h=>by cases h
 |x::l,i,nb,f,h=>by
  unfold lS at h⊢;split at h
  ·rename_i t hx;rcases aER.1 h with rfl|h
   ·exact⟨aD1 _,aD1 _,by simp,x,by simp,.inl ⟨t,hx,rfl,rfl⟩⟩
   ·obtain⟨h1,h2,h3,o,h5,h6⟩:=nU f h;refine⟨by omega,by omega,by simp;omega,o,?_,h6⟩;rw[show f.op-i=(f.op-(i+1))+1 by omega];simpa using h5
  ·rename_i t hx;rcases aER.1 h with rfl|h
   ·exact⟨aD1 _,aD1 _,by simp,x,by simp,.inr ⟨t,hx,rfl⟩⟩
   ·obtain⟨h1,h2,h3,o,h5,h6⟩:=nU f h;refine⟨by omega,by omega,by simp;omega,o,?_,h6⟩;rw[show f.op-i=(f.op-(i+1))+1 by omega];simpa using h5
  ·obtain⟨h1,h2,h3,o,h5,h6⟩:=nU f h;refine⟨by omega,h2,h3,o,?_,h6⟩;rw[show f.op-i=(f.op-(i+1))+1 by omega];simpa using h5
theorem qT {T:TypeId->Option cZ}{all:List Oper}:∀{l:List Oper} {i nb:Nat},∀f∈lS T all l i nb,∀g∈lS T all l i nb,(f.id=g.id->f=g)/\(f.op=g.op->f=g)
 |[],i,nb,f,h,_,_=>by cases h
 |x::l,i,nb,f,hf,g,hg=>by
  have cons:∀(a:AD),a.op=i->a.id=nb->f∈a::lS T all l (i+1) (nb+1)->g∈a::lS T all l (i+1) (nb+1)->(f.id=g.id->f=g)/\(f.op=g.op->f=g):=by
   intro a ha hb hf hg;rcases aER.1 hf with h1|h1
   ·rcases aER.1 hg with h2|h2
    ·exact⟨fun _=>by rw[h1,h2],fun _=>by rw[h1,h2]⟩
    ·have:=nU g h2;rw[h1];exact⟨fun e=>by omega,fun e=>by omega⟩
   ·rcases aER.1 hg with h2|h2
    ·have:=nU f h1;rw[h2];exact⟨fun e=>by omega,fun e=>by omega⟩
    ·exact qT f h1 g h2
  unfold lS at hf hg
  cases hop:x.op<;>rw[hop]at hf hg
  case alloc t=>exact cons _ rfl rfl hf hg
  case makeMap t r=>
   cases r with
   |none=>exact cons _ rfl rfl hf hg
   |some r=>exact qT f hf g hg
  all_goals exact qT (l:=l) (i:=i+1) (nb:=nb) f hf g hg
def tL (T:TypeId->Option cZ)(ev:Operand->AV)(o:Oper):Option (Nat×ByteArray×AV):=
 match o.op with
 |.insert t mp k x=>match T t,ev mp,ev k with
  |some it,.mp b,.lit (.string key)=>match it.desc with
   |.map kt _=>match T kt with
    |some ik=>match ik.desc with
     |.string=>some (b,key,ev x)
     |_=>none
    |none=>none
   |_=>none
  |_,_,_=>none
 |_=>none
theorem AE {ev:Operand->AV}{o:Oper}{q:Nat×ByteArray×AV}(h:tL T ev o=some q):lL o.op=true:=by
 unfold tL at h
 cases hop:o.op<;>rw[hop]at h<;>first|rfl|cases h
def qU (FT:List AD)(c:Nat):List (Nat×jR):=(FT.filter fun f=>Nat.beq f.stage c).map fun f=>(f.id,f.blk #[])
noncomputable def tM (P:Program)(C:Cx)(call:bM)(ops:Array Oper)(t0:Tr AV)(FT:List AD):List Oper->Nat->Nat->List (Option Tmp×AV)->List M->M->Option (List (Option Tmp×AV)×List M)
 |[],_,_,pl,Ms,_=>some (pl,Ms)
 |o::rest,i,c,pl,Ms,m=>
  if kZ o.op then match FT.find? (fun f=>Nat.beq f.op i)with
   |some f=>tM P C call ops t0 FT rest (i+1) c (pl++[(o.dst,.ptr f.id 0)]) Ms m
   |none=>none
  else if CT o.op then match FT.find? (fun f=>Nat.beq f.op i)with
   |some f=>tM P C call ops t0 FT rest (i+1) c (pl++[(o.dst,.mp f.id)]) Ms m
   |none=>none
  else if lL o.op then match tL C.T (x9 (gH pl (aP o) t0)) o with
   |some _=>tM P C call ops t0 FT rest (i+1) c (pl++[(o.dst,.lit undef)]) Ms m
   |none=>none
  else if pO o.op then match oneA P C call ops t0 pl o m with
   |some (v,_)=>tM P C call ops t0 FT rest (i+1) c (pl++[(o.dst,v)]) Ms m
   |none=>none
  else match oneA P C call ops t0 pl o (addF m (qU FT c))with
   |some (v,m')=>tM P C call ops t0 FT rest (i+1) (c+1) (pl++[(o.dst,v)]) (Ms++[m']) m'
   |none=>none
def Fact (P:Program)(C:Cx)(call:bM)(ops:Array Oper)(t0:Tr AV)(FT:List AD)(pl:List (Option Tmp×AV))(Ms:List M)(i c:Nat)(o:Oper):Prop:=
 ∃v,pl[i]?=some (o.dst,v)/\(kZ o.op=true->∃f∈FT,f.op=i/\v=.ptr f.id 0)/\(CT o.op=true->∃f∈FT,f.op=i/\v=.mp f.id)/\
  (lL o.op=true->v=.lit undef/\∃q,tL C.T (x9 (gH pl (aP o) t0)) o=some q)/\
  (nN o.op=false->pO o.op=true->∃mi m',Ms[c]?=some mi/\oneA P C call ops t0 pl o mi=some (v,m'))/\
  (bL o.op=false->∃mi m',Ms[c]?=some mi/\oneA P C call ops t0 pl o (addF mi (qU FT c))=some (v,m')/\Ms[c+1]?=some m')
theorem nV {FT:List AD}:∀(rest:List Oper) (pl:List (Option Tmp×AV)) (Ms:List M) (m:M) (c:Nat) {pa:List (Option Tmp×AV)} {Ma:List M},
  tM P C call ops t0 FT rest pl.length c pl Ms m=some (pa,Ma)->Ms.length=c+1->Ms[c]?=some m->(∀k o,rest[k]?=some o->∀j∈aP o,j<pl.length+k)->
  (∃x,pa=pl++x)/\(∃y,Ma=Ms++y)/\pa.length=pl.length+rest.length/\Ma.length=c+1+cA rest/\∀k o,rest[k]?=some o->Fact P C call ops t0 FT pa Ma (pl.length+k) (c+cA (rest.take k)) o
 |[],pl,Ms,m,c,pa,Ma,h,hl,hm,ha=>by
  injection h with h;injection h with e1 e2;subst e1;subst e2
  exact⟨⟨[],by simp⟩,⟨[],by simp⟩,by simp,by simp[cA,hl],fun k o hk=>by simp at hk⟩
 |o::rest,pl,Ms,m,c,pa,Ma,h,hl,hm,ha=>by
  unfold tM at h;have h0:=ha 0 o rfl
  have hp:∀v:AV,∀k o',rest[k]?=some o'->∀j∈aP o',j<(pl++[(o.dst,v)]).length+k:=by
   intro v k o' hk j hj;have:=ha (k+1) o' (by simpa using hk) j hj;simp;omega
  have hlen:∀v:AV,pl.length+1=(pl++[(o.dst,v)]).length:=fun v=>by simp
  split at h
  ·rename_i hh;have hg:=wN hh;have hb:bL o.op=true:=by unfold bL;rw[hg];simp
   have hi:CT o.op=false:=by cases hop:o.op<;>rw[hop]at hh<;>first|rfl|cases hh
   have hn:lL o.op=false:=by cases hop:o.op<;>rw[hop]at hh<;>first|rfl|cases hh
   split at h
   case h_2=>cases h
   rename_i f hf;rw[hlen (.ptr f.id 0)]at h;obtain⟨⟨x,rfl⟩,⟨y,rfl⟩,h3,h4,h5⟩:=nV rest _ _ _ c h hl hm (hp _);refine⟨⟨(o.dst,.ptr f.id 0)::x,by simp⟩,⟨y,rfl⟩,by simp at h3⊢;omega,by rw[h4,cA,aD6 hb],fun k o' hk=>?_⟩
   cases k with
   |zero=>
    simp at hk;subst hk
    refine⟨.ptr f.id 0,by simp,fun _=>⟨f,aE7 hf,?_,rfl⟩,(fun h=>by rw[hi]at h;cases h),(fun h=>by rw[hn]at h;cases h),(fun h=>by rw[hg]at h;cases h),(fun h=>by rw[hb]at h;cases h)⟩
    have:=aFW hf
    exact aEA this
   |succ k=>
    have:=h5 k o' (by simpa using hk)
    rw[aE1,cA,aD6 hb]
    rw[show(pl++[(o.dst,AV.ptr f.id 0)]).length+k=pl.length+(k+1) by simp;omega]at this
    exact this
  rename_i hh;have hc:kZ o.op=false:=by simpa using hh
  split at h
  ·rename_i hi;have hg:=LX hi;have hb:bL o.op=true:=by unfold bL;rw[hg];simp
   have hn:lL o.op=false:=by cases hop:o.op<;>rw[hop]at hi<;>first|rfl|cases hi
   split at h
   case h_2=>cases h
   rename_i f hf;rw[hlen (.mp f.id)]at h;obtain⟨⟨x,rfl⟩,⟨y,rfl⟩,h3,h4,h5⟩:=nV rest _ _ _ c h hl hm (hp _);refine⟨⟨(o.dst,.mp f.id)::x,by simp⟩,⟨y,rfl⟩,by simp at h3⊢;omega,by rw[h4,cA,aD6 hb],fun k o' hk=>?_⟩
   cases k with
   |zero=>
    simp at hk;subst hk
    refine⟨.mp f.id,by simp,(fun h=>by rw[hc]at h;cases h),fun _=>⟨f,aE7 hf,?_,rfl⟩,(fun h=>by rw[hn]at h;cases h),(fun h=>by rw[hg]at h;cases h),(fun h=>by rw[hb]at h;cases h)⟩
    have:=aFW hf
    exact aEA this
   |succ k=>
    have:=h5 k o' (by simpa using hk)
    rw[aE1,cA,aD6 hb]
    rw[show(pl++[(o.dst,AV.mp f.id)]).length+k=pl.length+(k+1) by simp;omega]at this
    exact this
  rename_i hi;have hd:CT o.op=false:=by simpa using hi
  split at h
  ·rename_i hn;have hg:=EE hn;have hb:bL o.op=true:=by unfold bL;rw[hg];simp
   split at h
   case h_2=>cases h
   rename_i q hq;rw[hlen (.lit undef)]at h;obtain⟨⟨x,rfl⟩,⟨y,rfl⟩,h3,h4,h5⟩:=nV rest _ _ _ c h hl hm (hp _);refine⟨⟨(o.dst,.lit undef)::x,by simp⟩,⟨y,rfl⟩,by simp at h3⊢;omega,by rw[h4,cA,aD6 hb],fun k o' hk=>?_⟩
   cases k with
   |zero=>
    simp at hk;subst hk
    refine⟨.lit undef,by simp,(fun h=>by rw[hc]at h;cases h),(fun h=>by rw[hd]at h;cases h),fun _=>⟨rfl,q,?_⟩,(fun h=>by rw[hg]at h;cases h),(fun h=>by rw[hb]at h;cases h)⟩
    rw[aEF,sA _ _ (by simpa using h0)];exact hq
   |succ k=>
    have:=h5 k o' (by simpa using hk)
    rw[aE1,cA,aD6 hb]
    rw[show(pl++[(o.dst,AV.lit undef)]).length+k=pl.length+(k+1) by simp;omega]at this
    exact this
  rename_i hn;have ho:lL o.op=false:=by simpa using hn
  have hr:nN o.op=false:=by unfold nN;rw[hc,hd,ho];rfl
  split at h
  ·rename_i hq;have hb:bL o.op=true:=by unfold bL;rw[hq];rfl
   split at h
   case h_2=>cases h
   rename_i v m' hone;rw[hlen v]at h;obtain⟨⟨x,rfl⟩,⟨y,rfl⟩,h3,h4,h5⟩:=nV rest _ _ _ c h hl hm (hp _);refine⟨⟨(o.dst,v)::x,by simp⟩,⟨y,rfl⟩,by simp at h3⊢;omega,by rw[h4,cA,aD6 hb],fun k o' hk=>?_⟩
   cases k with
   |zero=>
    simp at hk;subst hk
    refine⟨v,by simp,(fun h=>by rw[hc]at h;cases h),(fun h=>by rw[hd]at h;cases h),(fun h=>by rw[ho]at h;cases h),fun _ _=>⟨m,m',?_,?_⟩,(fun h=>by rw[hb]at h;cases h)⟩
    ·simp only[aG7,cA,aE2];rw[aEG (by omega)];exact hm
    ·rw[aEF,BV (by simpa using h0)];exact hone
   |succ k=>
    have:=h5 k o' (by simpa using hk)
    rw[aE1,cA,aD6 hb]
    rw[show(pl++[(o.dst,v)]).length+k=pl.length+(k+1) by simp;omega]at this
    exact this
  ·rename_i hq;have hb:bL o.op=false:=by unfold bL;rw[hr];simpa using hq
   split at h
   case h_2=>cases h
   rename_i v m' hone;rw[hlen v]at h;obtain⟨⟨x,rfl⟩,⟨y,rfl⟩,h3,h4,h5⟩:=nV rest _ _ _ (c+1) h (by simp[hl]) (by rw[aEO (by omega)];simp[hl]) (hp _);refine⟨⟨(o.dst,v)::x,by simp⟩,⟨m'::y,by simp⟩,by simp at h3⊢;omega,by rw[h4,cA,aD4 (by rw[hb];simp)];omega,fun k o' hk=>?_⟩
   cases k with
   |zero=>
    simp at hk;subst hk
    refine⟨v,by simp,(fun h=>by rw[hc]at h;cases h),(fun h=>by rw[hd]at h;cases h),(fun h=>by rw[ho]at h;cases h),fun _ h=>absurd h hq,fun _=>⟨m,m',?_,?_,?_⟩⟩
    ·simp only[aG7,cA,aE2];rw[aEF,aEG (by omega)];exact hm
    ·simp only[aG7,cA,aE2];rw[aEF,BV (by simpa using h0)];exact hone
    ·simp only[aG7,cA,aE2];rw[aEF,aEO (by omega)];simp[hl]
   |succ k=>
    have:=h5 k o' (by simpa using hk)
    rw[aE1,cA,aD4 (by rw[hb];simp)]
    rw[show(pl++[(o.dst,v)]).length+k=pl.length+(k+1) by simp;omega,show c+1+cA (rest.take k)=c+(cA (rest.take k)+1) by omega]at this
    exact this
end
section
variable {ops:Array Oper}{L:Array Bool}{FT:List AD}{b id:Nat}{x:jR}{T:TypeId->Option cZ}{t0:Tr AV}{pl:List (Option Tmp×AV)}{p:Nat->Bool}
variable {P:Program}{C:Cx}
def reach (ops:Array Oper):Nat->Oper->Nat->Bool
 |0,_,_=>false
 |f+1,o,j=>(aP o).contains j || (aP o).any fun m=>match ops[m]? with
  |some om=>reach ops f om j
  |none=>false
theorem yC (hc:∀(i:Nat) (o:Oper),ops[i]?=some o->L.getD i false=true->∀j∈aP o,L.getD j false=true):∀(f:Nat) (o:Oper) (j:Nat),reach ops f o j=true->(∀m∈aP o,L.getD m false=true)->L.getD j false=true
 |0,_,_,h,_=>by cases h
 |f+1,o,j,h,hr=>by
  unfold reach at h;rw[aFQ]at h;rcases h with h|h
  ·exact hr j (by simpa using h)
  ·obtain⟨m,hm,h⟩:=aG2.1 h
   cases ho:ops[m]? with
   |none=>rw[ho]at h;cases h
   |some om=>
    rw[ho]at h
    exact yC hc f om j h (hc m om ho (hr m hm))
def aoN (ops:Array Oper)(i:Nat)(o:Oper)(k:Nat):Bool:=
 LY (fun j c' o'=>bL o'.op || ((!(reach ops 8 o j) || decide (c'<k))&&(!(aP o').contains i || decide (k<=c')))) ops.toList 0 0
def AG (ops:Array Oper)(K:Nat):List Oper->Nat->Nat->List (Nat×Nat)
 |[],_,_=>[]
 |o::l,i,c=>
  if bL o.op then
   (if pP o.op || nN o.op then []else((List.range (K+1)).filter (fun k=>!(Nat.beq k c)&&aoN ops i o k)).map (fun k=>(i,k)))++AG ops K l (i+1) c
  else AG ops K l (i+1) (c+1)
theorem wR {K:Nat}:∀{l:List Oper} {i c j:Nat} {o:Oper},l[j]?=some o->bL o.op=true->(pP o.op || nN o.op)=false->∀{k:Nat},k<=K->k≠c+cA (l.take j)->aoN ops (i+j) o k=true->(i+j,k)∈AG ops K l i c
 |[],i,c,j,o,h,_,_,k,_,_,_=>by simp at h
 |x::l,i,c,0,o,h,hq,hi,k,hk,hc,hw=>by
  simp at h;subst h;unfold AG;rw[aD6 hq,aD4 (by rw[hi];simp)];refine aGK _ (aEZ.2 ⟨k,aFJ.2 ⟨aEE.2 (by omega),?_⟩,rfl⟩);have hb:Nat.beq k c=false:=beq_false (by simpa [cA]using hc);rw[hb,aD3];exact⟨rfl,hw⟩
 |x::l,i,c,j+1,o,h,hq,hi,k,hk,hc,hw=>by
  unfold AG;rw[aE1,cA]at hc;have h':l[j]?=some o:=by simpa using h
  rw[show i+(j+1)=i+1+j by omega]at hw⊢;split
  ·rename_i hx;rw[aD6 hx]at hc;exact List.mem_append_right _ (wR h' hq hi hk hc hw)
  ·rename_i hx;rw[aD4 hx]at hc;exact wR h' hq hi hk (by omega) hw
def YM (ops:Array Oper):List (Nat×Nat):=AG ops (cA ops.toList) ops.toList 0 0
noncomputable def chkA (P:Program)(C:Cx)(call:bM)(ops:Array Oper)(t0:Tr AV)(pl:List (Option Tmp×AV))(Ms:List M)(q:Nat×Nat):Bool:=
 match ops[q.1]?,Ms[q.2]?,pl[q.1]? with
 |some o,some mk,some p=>match oneA P C call ops t0 pl o mk with
  |some (v,_)=>jV v p.2
  |none=>false
 |_,_,_=>false
noncomputable def YN:List (Option Tmp×AV)->Tr AV->Tr AV
 |[],t=>t
 |p::l,t=>YN l (r7 t p.1 p.2)
theorem OG:∀(l:List (Option Tmp×AV)) (t:Tr AV) (d:Nat),
  (∃(j:Nat) (v:AV),l[j]?=some (some d,v)/\gA (YN l t) d=(gA t d).map (fun _=>v))∨((∀(j:Nat) (v:AV),l[j]?≠some (some d,v))/\gA (YN l t) d=gA t d)
 |[],t,d=> .inr ⟨(fun j v=>by simp),rfl⟩
 |p::l,t,d=>by
  unfold YN;rcases OG l (r7 t p.1 p.2) d with⟨j,v,h1,h2⟩|⟨h1,h2⟩
  ·refine .inl ⟨j+1,v,by simpa using h1,?_⟩;rw[h2,yA];split
   ·cases gA t d<;>rfl
   ·rfl
  ·rw[yA]at h2;by_cases hd:p.1=some d
   ·rw[aD6 hd]at h2;exact .inl ⟨0,p.2,by rw[<-hd];rfl,h2⟩
   ·rw[aD4 hd]at h2;refine .inr ⟨fun j v=>?_,h2⟩
    cases j with
    |zero=>simp;intro e;rw[e]at hd;exact absurd rfl hd
    |succ j=>simpa using h1 j v
def fU (FT:List AD)(L:Array Bool)(k:Nat):List (Nat×jR):=(FT.filter fun f=>L.getD f.op false&&decide (k<=f.stage)).map fun f=>(f.id,f.blk L)
theorem cR {k:Nat}:(b,x)∈fU FT L k↔∃f∈FT,L.getD f.op false=true/\k<=f.stage/\f.id=b/\f.blk L=x:=by
 unfold fU;rw[aEZ];constructor
 ·rintro⟨f,hf,he⟩;obtain⟨h1,h2⟩:=aFJ.1 hf;simp only[aD3,aEP]at h2;injection he with e1 e2
  exact⟨f,h1,h2.1,h2.2,e1,e2⟩
 ·rintro⟨f,h1,h2,h3,e1,e2⟩;exact⟨f,aFJ.2 ⟨h1,by rw[h2,aE8 h3];rfl⟩,by rw[e1,e2]⟩
theorem oI {c:Nat}:(b,x)∈qU FT c↔∃f∈FT,f.stage=c/\f.id=b/\f.blk #[]=x:=by
 unfold qU;rw[aEZ];constructor
 ·rintro⟨f,hf,he⟩;obtain⟨h1,h2⟩:=aFJ.1 hf;injection he with e1 e2
  exact⟨f,h1,aEA h2,e1,e2⟩
 ·rintro⟨f,h1,h2,e1,e2⟩;exact⟨f,aFJ.2 ⟨h1,by rw[h2];exact aG6 _⟩,by rw[e1,e2]⟩
noncomputable def mE (T:TypeId->Option cZ)(ops:Array Oper)(t0:Tr AV)(pl:List (Option Tmp×AV))(id i:Nat):Option (ByteArray×AV):=
 match ops[i]? with
 |some o=>match tL T (x9 (gH pl (aP o) t0)) o with
  |some q=>if Nat.beq q.1 id then some q.2 else none
  |none=>none
 |none=>none
noncomputable def kJ (T:TypeId->Option cZ)(ops:Array Oper)(t0:Tr AV)(pl:List (Option Tmp×AV))(id:Nat)(p:Nat->Bool)(n:Nat):List (ByteArray×AV):=
 (List.range n).filterMap fun i=>if p i then mE T ops t0 pl id i else none
noncomputable def lM (T:TypeId->Option cZ)(ops:Array Oper)(t0:Tr AV)(pl:List (Option Tmp×AV))(f:AD):AD:=
 if Nat.beq f.stage (cA ops.toList+1)then {f with blk:=fun L=> .map (kJ T ops t0 pl f.id (fun i=>L.getD i false) ops.size)}else f
def EG:List (ByteArray×AV)->Bool
 |[]=>true
 |e::es=>(nA e.1 es).isNone&&EG es
theorem yD:∀{es:List (ByteArray×AV)},EG es=true->(es.map (·.1)).Nodup
 |[],_=>List.nodup_nil
 |e::es,h=>by
  unfold EG at h;rw[aD3]at h;rw[aFB,List.nodup_cons];refine⟨fun hm=>?_,yD h.2⟩;obtain⟨a,ha,hk⟩:=aEZ.1 hm;have hn:nA e.1 es=none:=by simpa using h.1
  exact wH hn a ha hk
theorem vQ {k:ByteArray}:∀{es:List (ByteArray×AV)},k∉es.map (·.1)->nA k es=none
 |[],_=>rfl
 |e::es,h=>by
  rw[aFB,aER,not_or]at h;unfold nA;rw[aD4 (fun hh=>h.1 (jF hh).symm)];exact vQ h.2
noncomputable def anI (T:TypeId->Option cZ)(ops:Array Oper)(t0:Tr AV)(pl:List (Option Tmp×AV))(FT:List AD)(i:Nat):Bool:=
 match ops[i]? with
 |some o=>!lL o.op || (match tL T (x9 (gH pl (aP o) t0)) o with
  |some q=>FT.any fun f=>Nat.beq f.id q.1&&(Nat.beq f.stage (cA ops.toList+1)&&(aP o).contains f.op)
  |none=>false)
 |none=>true
noncomputable def acS (T:TypeId->Option cZ)(ops:Array Oper)(t0:Tr AV)(pl:List (Option Tmp×AV))(FT:List AD):Bool:=
 (List.range ops.size).all (anI T ops t0 pl FT)&&FT.all fun f=>!Nat.beq f.stage (cA ops.toList+1) || EG (kJ T ops t0 pl f.id (fun _=>true) ops.size)
noncomputable def OH (T:TypeId->Option cZ)(ops:Array Oper)(t0:Tr AV)(pl:List (Option Tmp×AV))(FT:List AD):List (Nat×jR):=
 (FT.filter fun f=>Nat.beq f.stage (cA ops.toList+1)).map fun f=>(f.id,.map (kJ T ops t0 pl f.id (fun _=>true) ops.size))
noncomputable def VC (P:Program)(C:Cx)(call:bM)(ops:Array Oper)(FT:List AD)(s:St)(r:Option (List (Option Tmp×AV)×List M)):Option St:=
 match r with
 |some (pl,Ms)=>if(YM ops).all (chkA P C call ops s.ts pl Ms)&&acS C.T ops s.ts pl FT then
   match Ms[cA ops.toList]? with
   |some mK=>some {s with ts:=YN pl s.ts,m:=addF mK (qU FT (cA ops.toList)++OH C.T ops s.ts pl FT)}
   |none=>none
  else none
 |none=>none
def isCells:jR->Bool
 |.cells ..=>true
 |_=>false
noncomputable def acT (P:Program)(C:Cx)(call:bM)(ops:Array Oper)(FT:List AD)(s:St):Option St:=
 if s.m.nb+FT.length<=1000000/\FT.all (fun f=>Nat.beq f.stage (cA ops.toList+1) || isCells (f.blk #[]))=true then
  VC P C call ops FT s (tM P C call ops s.ts FT ops.toList 0 0 [] [{s.m with nb:=s.m.nb+FT.length}] {s.m with nb:=s.m.nb+FT.length})
 else none
noncomputable def EH (P:Program)(C:Cx)(call:bM):nB:=fun ops s=>
 if OE ops then acT P C call ops (lS C.T ops.toList ops.toList 0 s.m.nb) s else none
structure Inv (ops:Array Oper) (FT:List AD) (pl:List (Option Tmp×AV)) (Ms:List M) (ρ0:Env) (m0:M) (a0:Act) (w0:World) (L:Array Bool) (a:Act) (w:World) (ρ:Env) (k:Nat) (mk:M):Prop where
 size:L.size=ops.size
 closed:∀(i:Nat) (o:Oper),ops[i]?=some o->L.getD i false=true->∀j∈aP o,L.getD j false=true
 eff:∀(i:Nat) (o:Oper),ops[i]?=some o->bL o.op=false->(L.getD i false=true↔cnt ops i<k)
 stage:Ms[k]?=some mk
 step:aX ρ0 m0 w0 ρ (addF mk (fU FT L k)) w
 un:∀f∈FT,L.getD f.op false=false->ρ.blk f.id=none
 free:∀f∈FT,k<=f.stage->mk.H.get f.id=none
 bnd:∀f∈FT,f.id<mk.nb
 old:∀d:Nat,(∀(i:Nat) (o:Oper),ops[i]?=some o->L.getD i false=true->o.dst≠some d)->a.tmps[d]?=a0.tmps[d]?
 new:∀(i:Nat) (o:Oper) (d:Nat) v,ops[i]?=some o->L.getD i false=true->o.dst=some d->pl[i]?=some (some d,v)->d<a0.tmps.size->∃y,a.tmps[d]?=some y/\aO ρ v=some y
 tsz:a.tmps.size=a0.tmps.size
 defs:a.defers=a0.defers
structure OI (C:Cx) (ops:Array Oper) (t0:Tr AV) (pl:List (Option Tmp×AV)) (m0:M) (FT:List AD):Prop where
 ge:∀f∈FT,m0.nb<=f.id
 le:∀f∈FT,f.id<=1000000
 uid:∀f∈FT,∀g∈FT,f.id=g.id->f=g
 uop:∀f∈FT,∀g∈FT,f.op=g.op->f=g
 op:∀f∈FT,(∃o t i,ops[f.op]?=some o/\o.op=.alloc t/\C.T t=some i/\f.stage<=cA ops.toList/\∀L,f.blk L=.cells t (i.zero.map .lit) true)∨
  (∃o t,ops[f.op]?=some o/\o.op=.makeMap t none/\f.stage=cA ops.toList+1/\∀L,f.blk L=.map (kJ C.T ops t0 pl f.id (fun i=>L.getD i false) ops.size))
 stage:∀f∈FT,∀(j:Nat) (o:Oper),ops[j]?=some o->bL o.op=false->cnt ops j=f.stage->f.op∈aP o
 ins:∀(i:Nat) (o:Oper),ops[i]?=some o->∀q,tL C.T (x9 (gH pl (aP o) t0)) o=some q->∃f∈FT,f.id=q.1/\f.stage=cA ops.toList+1/\f.op∈aP o
 keys:∀f∈FT,f.stage=cA ops.toList+1->EG (kJ C.T ops t0 pl f.id (fun _=>true) ops.size)=true
theorem gI {α β:Type}{f g:α->Option β}:∀{l:List α},(∀x∈l,f x=g x)->l.filterMap f=l.filterMap g
 |[],_=>rfl
 |x::l,h=>by
  rw[List.filterMap_cons,List.filterMap_cons,h x aEH,gI (fun y hy=>h y (aEM _ hy))]
theorem OJ {T:TypeId->Option cZ}{ops:Array Oper}{t0:Tr AV}{pl:List (Option Tmp×AV)}{id i:Nat}{p p':Nat->Bool}(hi:p' i=true)(hn:p i=false)(ho:∀j,j≠i->p' j=p j){e:ByteArray×AV}(he:mE T ops t0 pl id i=some e):
  ∀n,i<n->(kJ T ops t0 pl id p n++[e]).Perm (kJ T ops t0 pl id p' n)
 |0,h=>by omega
 |n+1,h=>by
  unfold kJ;rw[aHJ,aG8,aG8];by_cases hb:i=n
  ·subst hb
   have ha:∀(l:List Nat),(∀j∈l,j<i)->l.filterMap (fun j=>if p j then mE T ops t0 pl id j else none)=l.filterMap (fun j=>if p' j then mE T ops t0 pl id j else none):=by
    intro l hl;refine gI fun j hj=>?_
    have:=hl j hj;rw[ho j (by omega)]
   rw[ha _ (fun j hj=>aEE.1 hj)];simp[hi,hn,he]
  ·have ih:=OJ (T:=T) (ops:=ops) (t0:=t0) (pl:=pl) (id:=id) hi hn ho he n (by omega);unfold kJ at ih
   have hone:List.filterMap (fun i=>if p' i=true then mE T ops t0 pl id i else none) [n]=List.filterMap (fun i=>if p i=true then mE T ops t0 pl id i else none) [n]:=by
    refine gI fun x hx=>?_
    rw[aGT.1 hx,ho n (fun e=>hb e.symm)]
   rw[hone];refine List.Perm.trans ?_ (ih.append_right _);rw[aEF,aEF];exact List.Perm.append_left _ List.perm_append_comm
theorem JG {i:Nat}{p':Nat->Bool}(ho:∀j,j≠i->p' j=p j)(he:mE T ops t0 pl id i=none)(n:Nat):kJ T ops t0 pl id p n=kJ T ops t0 pl id p' n:=by
 unfold kJ;refine gI fun j hj=>?_
 by_cases ha:j=i
 ·subst ha;rw[he];simp
 ·rw[ho j ha]
theorem acU (he:∀j,p j=true->mE T ops t0 pl id j=none)(n:Nat):kJ T ops t0 pl id p n=[]:=by
 unfold kJ;rw[List.filterMap_eq_nil_iff];intro j _;split
 ·rename_i hj;exact he j hj
 ·rfl
theorem acV {n:Nat}(hp:∀j,j<n->p j=true):kJ T ops t0 pl id p n=kJ T ops t0 pl id (fun _=>true) n:=by
 unfold kJ;refine gI fun j hj=>?_
 rw[hp j (aEE.1 hj)]
theorem OK {T:TypeId->Option cZ}{ops:Array Oper}{t0:Tr AV}{pl:List (Option Tmp×AV)}{id:Nat}{p:Nat->Bool}:∀n,(kJ T ops t0 pl id p n).Sublist (kJ T ops t0 pl id (fun _=>true) n)
 |0=>List.Sublist.refl _
 |n+1=>by
  have ih:=OK (T:=T) (ops:=ops) (t0:=t0) (pl:=pl) (id:=id) (p:=p) n;unfold kJ at ih⊢;rw[aHJ,aG8,aG8];refine List.Sublist.append ih ?_;by_cases hn:p n=true
  ·have hone:List.filterMap (fun i=>if p i=true then mE T ops t0 pl id i else none) [n]=List.filterMap (fun i=>if(fun _=>true) i=true then mE T ops t0 pl id i else none) [n]:=by
    refine gI fun x hx=>?_
    rw[aGT.1 hx,hn]
   rw[hone];exact List.Sublist.refl _
  ·have:p n=false:=by simpa using hn
   simp[this]
theorem wS {i:Nat}{e:ByteArray×AV}(h:mE T ops t0 pl id i=some e):
  ∃o,ops[i]?=some o/\tL T (x9 (gH pl (aP o) t0)) o=some (id,e):=by
 unfold mE at h
 cases ho:ops[i]? with
 |none=>rw[ho]at h;cases h
 |some o=>
  rw[ho]at h
  simp only at h
  cases hq:tL T (x9 (gH pl (aP o) t0)) o with
  |none=>rw[hq]at h;cases h
  |some q=>
   rw[hq]at h
   simp only at h
   split at h
   ·rename_i hb;injection h with h
    refine⟨o,rfl,?_⟩;rw[hq,<-h,<-aEA hb]
   ·cases h
theorem oJ:∀{l:List Oper} {i:Nat} {o:Oper},l[i]?=some o->cA (l.take (i+1))=cA (l.take i)+(if bL o.op then 0 else 1)
 |[],i,o,h=>by simp at h
 |x::l,0,o,h=>by
  simp at h;subst h;simp only[aE1,aG7,cA];split<;>rfl
 |x::l,i+1,o,h=>by
  have ih:=oJ (l:=l) (i:=i) (o:=o) (by simpa using h);rw[aE1,aE1,cA,cA,ih];split<;>omega
theorem jH:∀(l:List Oper) (i:Nat),cA (l.take i)<=cA l
 |[],i=>by simp
 |x::l,0=>by simp[cA]
 |x::l,i+1=>by
  have:=jH l i;rw[aE1,cA,cA];split<;>omega
theorem JH (l:List Oper):∀{i j:Nat},i<=j->cA (l.take i)<=cA (l.take j):=by
 intro i j h;have:=jH (l.take j) i;rw[List.take_take,Nat.min_eq_left h]at this;exact this
theorem yE:∀(l:List Oper) (c:Nat),c<cA l->∃j o,l[j]?=some o/\bL o.op=false/\cA (l.take j)=c
 |[],c,h=>by simp[cA]at h
 |x::l,c,h=>by
  unfold cA at h;split at h
  ·rename_i hq;obtain⟨j,o,h1,h2,h3⟩:=yE l c h;exact⟨j+1,o,by simpa using h1,h2,by rw[aE1,cA,aD6 hq];exact h3⟩
  ·rename_i hq
   cases c with
   |zero=>exact⟨0,x,rfl,by simpa using hq,rfl⟩
   |succ c=>
    obtain⟨j,o,h1,h2,h3⟩:=yE l c (by omega)
    exact⟨j+1,o,by simpa using h1,h2,by rw[aE1,cA,aD4 hq];omega⟩
theorem AH {i:Nat}(h:i<L.size):L.getD i true=L.getD i false:=by
 simp[h]
end
section
variable {af:List Nat}{d:Nat}{o:Oper}
variable {P:Program}{C:Cx}
section
variable {call:bM}{ops:Array Oper}{t0:Tr AV}{FT:List AD}{pl:List (Option Tmp×AV)}{Ms:List M}{ρ0:Env}{m0:M}{a0:Act}{w0:World}{L:Array Bool}{a:Act}{w:World}{ρ:Env}{k:Nat}{mk:M}
def SM (pl:List (Option Tmp×AV))(af:List Nat)(d:Nat):Bool:=af.any fun j=>match pl[j]? with
 |some p=>p.1 ==some d
 |none=>false
theorem EI:SM pl af d=true↔∃j∈af,∃v,pl[j]?=some (some d,v):=by
 unfold SM;rw[aG2];constructor
 ·rintro⟨j,hj,h⟩
  cases hp:pl[j]? with
  |none=>rw[hp]at h;cases h
  |some p=>
   rw[hp]at h
   simp only[beq_iff_eq]at h
   exact⟨j,hj,p.2,by rw[hp,<-h]⟩
 ·rintro⟨j,hj,v,h⟩;exact⟨j,hj,by rw[h];simp⟩
def seen (pl:List (Option Tmp×AV))(af:List Nat)(a0 a:Act):Array Value:=a0.tmps.mapIdx fun d v=>if SM pl af d then a.tmps.getD d v else v
theorem OL (hs:a.tmps.size=a0.tmps.size):(seen pl af a0 a)[d]?=if SM pl af d then a.tmps[d]? else a0.tmps[d]?:=by
 unfold seen;rw[Array.getElem?_mapIdx]
 cases h0:a0.tmps[d]? with
 |none=>
  have:a.tmps[d]?=none:=by rw[aFL]at h0⊢;omega
  rw[this]
  split<;>rfl
 |some v=>
  have ha:d<a.tmps.size:=by have:=(aD5.1 h0).1;omega
  simp only[aFH]
  split
  ·simp[ha]
  ·rfl
theorem Inv.wait (hc:wO ops)(I:Inv ops FT pl Ms ρ0 m0 a0 w0 L a w ρ k mk){i:Nat}(hi:ops[i]?=some o)(hL:L.getD i false=false)(hr:∀j∈aP o,L.getD j false=true)(hf:∀(j:Nat) (o':Oper),ops[j]?=some o'->∃v,pl[j]?=some (o'.dst,v))(hh:∀(j:Nat) p,pl[j]?=some p->∃o',ops[j]?=some o'):
  ∀d∈o.looksAt ops,a.tmps[d]?=(seen pl (aP o) a0 a)[d]?:=by
 intro d hd
 rw[OL I.tsz]
 by_cases hD:SM pl (aP o) d=true
 ·rw[aD6 hD]
 ·rw[aD4 hD];refine I.old d fun j o' hj hb ha=>?_
  have hg:j≠i:=by rintro rfl;rw[hL]at hb;cases hb
  rcases hc.looks i o j o' hi hj hg d ha hd with h|h
  ·obtain⟨v,hv⟩:=hf j o' hj;exact hD (EI.2 ⟨j,h,v,by rw[hv,ha]⟩)
  ·have:=I.closed j o' hj hb i h;rw[hL]at this;cases this
theorem Inv.seenRel (I:Inv ops FT pl Ms ρ0 m0 a0 w0 L a w ρ k mk)(hr:∀j∈aP o,L.getD j false=true)(h0:fL ρ0 t0 a0.tmps)(ha:∀(j:Nat) p,pl[j]?=some p->∃o',ops[j]?=some o'/\p.1=o'.dst):fL ρ (gH pl (aP o) t0) (seen pl (aP o) a0 a):=by
 intro d;rw[OL I.tsz];rcases JF (pl:=pl) (aP o) t0 d with⟨j,hj,v,h1,h2⟩|⟨h1,h2⟩
 ·have hD:SM pl (aP o) d=true:=EI.2 ⟨j,hj,v,h1⟩;rw[aD6 hD,h2]
  cases ht:gA t0 d with
  |none=>
   show a.tmps[d]?=none
   have:=h0.no ht
   rw[aFL]at this⊢
   rw[I.tsz];exact this
  |some u=>
   obtain⟨y0,hb,_⟩:=h0.at_ ht
   have hc:=(aD5.1 hb).1
   obtain⟨o',hd,hf⟩:=ha j _ h1
   exact I.new j o' d v hd (hr j hj) hf.symm h1 hc
 ·have hD:¬SM pl (aP o) d=true:=by
   intro h;obtain⟨j,hj,v,hv⟩:=EI.1 h;exact h1 j hj v hv
  rw[aD4 hD,h2];exact(h0.mono I.step.le) d
theorem Inv.next (hC:wO ops)(I:Inv ops FT pl Ms ρ0 m0 a0 w0 L a w ρ k mk){i:Nat}(hi:ops[i]?=some o)(hL:L.getD i false=false)(hr:∀j∈aP o,L.getD j false=true){v:AV}(hv:pl[i]?=some (o.dst,v)){ρ':Env}{w':World}{x:Value}{m2:M}(hx:aO ρ' v=some x)(hle:ρ.le ρ'){k':Nat}(hk:k'=if bL o.op then k else k+1)(he:bL o.op=false->cnt ops i=k)(hh:Ms[k']?=some m2)(S:aX ρ0 m0 w0 ρ' (addF m2 (fU FT (L.setIfInBounds i true) k')) w')(ua:∀f∈FT,(L.setIfInBounds i true).getD f.op false=false->ρ'.blk f.id=none)(fa:∀f∈FT,k'<=f.stage->m2.H.get f.id=none)(ba:∀f∈FT,f.id<m2.nb):
  Inv ops FT pl Ms ρ0 m0 a0 w0 (L.setIfInBounds i true) (a.put o.dst x) w' ρ' k' m2:=by
 have hD:i<L.size:=by rw[I.size];exact(aD5.1 hi).1
 have hself:(L.setIfInBounds i true).getD i false=true:=by simp[hD]
 have ha:∀j,j≠i->(L.setIfInBounds i true).getD j false=L.getD j false:=fun j hj=>getD_set_ne false (fun e=>hj e.symm)
 have hf:∀j,L.getD j false=true->(L.setIfInBounds i true).getD j false=true:=fun j hj=>getD_set_true hj
 have hn:∀d,o.dst≠some d->(a.put o.dst x).tmps[d]?=a.tmps[d]?:=by
  intro d hd
  cases hb:o.dst with
  |none=>rfl
  |some d'=>
   show(a.tmps.setIfInBounds d' x)[d]?=a.tmps[d]?
   rw[aGA,aD4 (fun e=>hd (by rw[hb,e]))]
 refine⟨by simpa using I.size,fun j o' hj hl=>?_,fun j o' hj hq=>?_,hh,S,ua,fa,ba,fun d hd=>?_,fun j o' d u hj hl hb ho hs=>?_,?_,?_⟩
 ·by_cases hg:j=i
  ·subst hg;rw[hi]at hj;injection hj with hj;subst hj
   intro j' ht;exact hf j' (hr j' ht)
  ·rw[ha j hg]at hl;intro j' ht;exact hf j' (I.closed j o' hj hl j' ht)
 ·subst hk;by_cases hg:j=i
  ·subst hg;rw[hi]at hj;injection hj with hj;subst hj
   rw[hself,aD4 (by rw[hq];simp)];have:=he hq;simp;omega
  ·rw[ha j hg,I.eff j o' hj hq];by_cases hz:bL o.op=true
   ·rw[aD6 hz]
   ·rw[aD4 hz];have hp:bL o.op=false:=by simpa using hz
    have hc:=he hp;constructor
    ·intro h;omega
    ·intro h;rcases aEU (cnt ops j) k with h1|h1
     ·exact h1
     ·exfalso;have heq:cnt ops j=cnt ops i:=by omega
      have hA:=oJ (l:=ops.toList) (i:=i) (o:=o) (by simpa using hi);have hB:=oJ (l:=ops.toList) (i:=j) (o:=o') (by simpa using hj);rw[hp]at hA;rw[hq]at hB;unfold cnt at heq;rcases aEU i j with h2|h2
      ·have:=JH ops.toList (show i+1<=j by omega);simp at hA;omega
      ·have:=JH ops.toList (show j+1<=i by omega);simp at hB;omega
 ·have h1:o.dst≠some d:=hd i o hi hself;rw[hn d h1];exact I.old d fun j o' hj hl=>hd j o' hj (hf j hl)
 ·by_cases hg:j=i
  ·subst hg;rw[hi]at hj;injection hj with hj;subst hj
   rw[hv]at ho;injection ho with ho
   have e2:v=u:=by injection ho
   subst e2;refine⟨x,?_,hx⟩;rw[hb];show(a.tmps.setIfInBounds d x)[d]?=some x;rw[<-I.tsz]at hs;simp[hs]
  ·rw[ha j hg]at hl;obtain⟨y,h1,h2⟩:=I.new j o' d u hj hl hb ho hs;exact⟨y,by rw[hn d (hC.dst i o j o' hi hj hg d hb)];exact h1,jS hle _ h2⟩
 ·cases hb:o.dst with
  |none=>exact I.tsz
  |some d=>show(a.tmps.setIfInBounds d x).size=_;simpa using I.tsz
 ·rw[tG];exact I.defs
end
end
section
variable {es es':List (ByteArray×AV)}{b:Nat}
variable {ρ:Env}{m:M}{w:World}
theorem YO (hp:es.Perm es'):∀{vs:List Value},aT ρ (es.map (·.2))=some vs->
  ∃va,aT ρ (es'.map (·.2))=some va/\((es.map fun e=>Value.string e.1).zip vs).Perm ((es'.map fun e=>Value.string e.1).zip va):=by
 induction hp with
 |nil=>intro vs h;exact⟨vs,h,List.Perm.refl _⟩
 |cons x _ ih=>
  intro vs h
  obtain⟨p,q,h1,h2,rfl⟩:=aG.1 h
  obtain⟨va,k1,k2⟩:=ih h2
  exact⟨p::va,aG.2 ⟨p,va,h1,k1,rfl⟩,by simpa using k2⟩
 |swap x y l=>
  intro vs h
  obtain⟨p,q,h1,h2,rfl⟩:=aG.1 h
  obtain⟨p2,q2,k1,k2,rfl⟩:=aG.1 h2
  exact⟨p2::p::q2,aG.2 ⟨p2,p::q2,k1,aG.2 ⟨p,q2,h1,k2,rfl⟩,rfl⟩,by simpa using List.Perm.swap _ _ _⟩
 |trans _ _ ia ib=>
  intro vs h
  obtain⟨vc,h1,h2⟩:=ia h
  obtain⟨vb,k1,k2⟩:=ib h1
  exact⟨vb,k1,h2.trans k2⟩
theorem gE.perm (hp:es.Perm es')(h:gE ρ w b (.map es)):gE ρ w b (.map es'):=by
 obtain⟨g,entries,clock,vs,h1,h2,h3,h4,h5⟩:=h;obtain⟨va,k1,k2⟩:=YO hp h3;exact⟨g,entries,clock,va,h1,h2,k1,h4.trans k2,(hp.map _).pairwise h5 (fun h=>Ne.symm h)⟩
theorem aX.reblk {ρ0:Env}{m0:M}{w0:World}{k k':jR}(S:aX ρ0 m0 w0 ρ m w)(hb:m.H.get b=some k)(hk:gE ρ w b k->gE ρ w b k'):aX ρ0 m0 w0 ρ (iJ m b (some k')) w:=by
 have hr:=S.rel.lt hb;have hi:=S.rel.small;have hself:(iJ m b (some k')).H.get b=some k':=jU (by omega)
 have hd:∀c kk,(iJ m b (some k')).H.get c=some kk->∃k0,m.H.get c=some k0:=by
  intro c kk hc;by_cases hf:c=b
  ·subst hf;exact⟨k,hb⟩
  ·rw[eD hf]at hc;exact⟨kk,hc⟩
 refine⟨S.le,⟨S.rel.nb,S.rel.nc,fun c kk hc=>?_,fun c c' kk ka q q' hc hj hq hl ho=>?_,hi⟩,S.keep,fun g hg=>?_,S.size,S.os,S.tape,S.output,S.nbm,S.fix,fun c kk hc=>?_,S.ncm,fun n v hn=>?_,fun c k1 k2 q h1 h2 hq=>by
  obtain⟨k3,h3⟩:=hd c k2 h2;exact S.out c k1 k3 q h1 h3 hq⟩
 ·by_cases hf:c=b
  ·subst hf;rw[hself]at hc;injection hc with hc;subst hc
   exact hk (S.rel.live c k hb)
  ·rw[eD hf]at hc;exact S.rel.live c kk hc
 ·obtain⟨a,ha⟩:=hd c kk hc;obtain⟨a',hp⟩:=hd c' ka hj;exact S.rel.inj c c' a a' q q' ha hp hq hl ho
 ·obtain⟨c,kk,q,hc,hq,he⟩:=hg;obtain⟨k0,hh⟩:=hd c kk hc;exact S.fresh g ⟨c,k0,q,hh,hq,he⟩
 ·obtain⟨k0,hh⟩:=hd c kk hc;exact S.ids c k0 hh
 ·rcases S.ats n v hn with hx|⟨h1,h2,h3,gh,h4,h5⟩
  ·exact .inl hx
  ·refine .inr ⟨h1,h2,h3,gh,h4,h5.mono fun g hg _=>⟨rfl,hg.1,?_⟩⟩;rintro⟨c,kk,q,hc,hq,he⟩;obtain⟨k0,hh⟩:=hd c kk hc;exact hg.2 ⟨c,k0,q,hh,hq,he⟩
end
section
variable {o:Oper}{m m' m2:M}{v:AV}{b k c:Nat}{L:Array Bool}{x y:jR}{K:Act->World->Prop}{Q:Exit->Act->World->Prop}
variable {P:Program}{C:Cx}
theorem VD {f:Nat->Nat->Oper->Bool}:∀{l:List Oper} {i c:Nat},(∀k o,l[k]?=some o->f (i+k) (c+cA (l.take k)) o=true)->LY f l i c=true
 |[],_,_,_=>rfl
 |x::l,i,c,h=>by
  unfold LY;rw[aD3];refine⟨h 0 x rfl,VD fun k o hk=>?_⟩;have:=h (k+1) o (by simpa using hk);rw[aE1,cA]at this;split
  ·rename_i hq;rw[aD6 hq,show i+(k+1)=i+1+k by omega]at this;exact this
  ·rename_i hq;rw[aD4 hq,show i+(k+1)=i+1+k by omega,show c+(cA (l.take k)+1)=c+1+cA (l.take k) by omega]at this;exact this
section
variable {call:bM}{ops:Array Oper}{t0:Tr AV}{FT:List AD}{pl:List (Option Tmp×AV)}{Ms:List M}{ρ0:Env}{m0:M}{a0:Act}{w0:World}{L:Array Bool}{a:Act}{w:World}{ρ:Env}{k:Nat}{mk:M}
theorem JI (hq:pO o.op=true)(h:oneA P C call ops t0 pl o m=some (v,m')):m'=m:=by
 unfold oneA at h;split at h
 ·cases h
 ·injection h with h;injection h with e1 e2;exact e2.symm
 ·rw[ED]at h
  cases hop:U7 P C (x9 (gH pl (aP o) t0)) o m with
  |none=>rw[hop]at h;cases h
  |some n=>
   obtain⟨u,rfl⟩:=YK hq hop
   rw[hop]at h
   injection h with h;injection h with e1 e2;exact e2.symm
theorem YP (hq:pP o.op=true)(h:oneA P C call ops t0 pl o m=some (v,m')):oneA P C call ops t0 pl o m2=some (v,m2):=by
 unfold oneA at h⊢;split at h
 ·cases h
 ·injection h with h;injection h with e1 e2;subst e1;rfl
 ·rw[ED]at h⊢
  cases hop:U7 P C (x9 (gH pl (aP o) t0)) o m with
  |none=>rw[hop]at h;cases h
  |some n=>
   obtain⟨u,rfl,h2⟩:=JD hq hop
   rw[hop]at h
   injection h with h;injection h with e1 e2;subst e1
   simp only[h2 m2]
   rfl
theorem qV:∀{fs:List (Nat×jR)},fC b fs=none->∀x,(b,x)∉fs
 |[],_,x,h=>by cases h
 |p::fs,h,x,hx=>by
  unfold fC at h;split at h
  ·cases h
  ·rename_i hb;rcases aER.1 hx with rfl|hx
   ·exact hb rfl
   ·exact qV h x hx
theorem nO (hF:OI C ops t0 pl m FT)(h1:(b,x)∈fU FT L k)(h2:(b,y)∈fU FT L k):y=x:=by
 obtain⟨f,f1,_,_,f2,f3⟩:=cR.1 h1;obtain⟨g,g1,_,_,g2,g3⟩:=cR.1 h2;have:=hF.uid f f1 g g1 (by rw[f2,g2]);subst this;rw[<-f3,<-g3]
theorem ai3 (hF:OI C ops t0 pl m FT)(h1:(b,x)∈qU FT c)(h2:(b,y)∈qU FT c):y=x:=by
 obtain⟨f,f1,_,f2,f3⟩:=oI.1 h1;obtain⟨g,g1,_,g2,g3⟩:=oI.1 h2;have:=hF.uid f f1 g g1 (by rw[f2,g2]);subst this;rw[<-f3,<-g3]
theorem dT (hF:OI C ops t0 pl m FT):∀p∈fU FT L k,p.1<=1000000:=by
 intro p hp;obtain⟨f,f1,_,_,f2,_⟩:=cR.1 (show(p.1,p.2)∈fU FT L k from hp);rw[<-f2];exact hF.le f f1
theorem EJ (hF:OI C ops t0 pl m FT):∀p∈qU FT c,p.1<=1000000:=by
 intro p hp;obtain⟨f,f1,_,f2,_⟩:=oI.1 (show(p.1,p.2)∈qU FT c from hp);rw[<-f2];exact hF.le f f1
theorem Inv.late (hF:OI C ops t0 pl m0 FT)(I:Inv ops FT pl Ms ρ0 m0 a0 w0 L a w ρ k mk)(hK:Ms.length=cA ops.toList+1){f:AD}(hf:f∈FT)(hL:L.getD f.op false=false):k<=f.stage:=by
 rcases aEU f.stage k with h|h
 ·exfalso;have ha:k<Ms.length:=(aED.1 I.stage).1;obtain⟨j,o,g1,g2,g3⟩:=yE ops.toList f.stage (by omega);have hj:ops[j]?=some o:=by simpa using g1
  have hc:cnt ops j=f.stage:=g3;have hl:=(I.eff j o hj g2).2 (by omega);have:=I.closed j o hj hl _ (hF.stage f hf j o hj g2 hc);rw[hL]at this;cases this
 ·exact h
theorem Inv.now (hA:wO ops)(I:Inv ops FT pl Ms ρ0 m0 a0 w0 L a w ρ k mk){i:Nat}(hi:ops[i]?=some o)(hf:Fact P C call ops t0 FT pl Ms i (cnt ops i) o)(hL:L.getD i false=false)(hr:∀j∈aP o,L.getD j false=true)(hp:(YM ops).all (chkA P C call ops t0 pl Ms)=true)(hK:Ms.length=cA ops.toList+1):
  ∃v,pl[i]?=some (o.dst,v)/\((kZ o.op=true/\∃f∈FT,f.op=i/\v=.ptr f.id 0)∨(CT o.op=true/\∃f∈FT,f.op=i/\v=.mp f.id)∨(lL o.op=true/\v=.lit undef/\∃q,tL C.T (x9 (gH pl (aP o) t0)) o=some q)∨(nN o.op=false/\pO o.op=true/\oneA P C call ops t0 pl o mk=some (v,mk))∨
   (bL o.op=false/\cnt ops i=k/\∃m2,oneA P C call ops t0 pl o (addF mk (qU FT k))=some (v,m2)/\Ms[k+1]?=some m2)):=by
 obtain⟨v,f2,fa,fm,fi,fq,fe⟩:=hf
 have hF:k<Ms.length:=(aED.1 I.stage).1
 by_cases ht:kZ o.op=true
 ·exact⟨v,f2,.inl ⟨ht,fa ht⟩⟩
 by_cases hv:CT o.op=true
 ·exact⟨v,f2,.inr (.inl ⟨hv,fm hv⟩)⟩
 by_cases hx:lL o.op=true
 ·exact⟨v,f2,.inr (.inr (.inl ⟨hx,fi hx⟩))⟩
 have hh:nN o.op=false:=by
  cases hB:nN o.op with
  |false=>rfl
  |true=>rcases SK hB with h|h|h<;>contradiction
 by_cases hq:pO o.op=true
 ·obtain⟨mi,m',f1,f3⟩:=fq hh hq;have hb:bL o.op=true:=by unfold bL;rw[hq];rfl
  by_cases hk:k=cnt ops i
  ·have:mi=mk:=by
    have:=I.stage;rw[hk,f1]at this;injection this
   subst this;have:=JI hq f3;subst this;exact⟨v,f2,.inr (.inr (.inr (.inl ⟨hh,hq,f3⟩)))⟩
  ·by_cases hd:pP o.op=true
   ·exact⟨v,f2,.inr (.inr (.inr (.inl ⟨hh,hq,YP hd f3⟩)))⟩
   ·have hC:(pP o.op || nN o.op)=false:=by rw[hh];simpa using hd
    have hw:aoN ops i o k=true:=by
     refine VD fun j o' hj=>?_
     have hl:ops[j]?=some o':=by simpa using hj
     by_cases hz:bL o'.op=true
     ·rw[hz];rfl
     ·have hg:bL o'.op=false:=by simpa using hz
      rw[hg];simp only[aEV,aHD,aD3,aFQ,Bool.not_eq_true',aEP];refine⟨?_,?_⟩
      ·by_cases hc:reach ops 8 o j=true
       ·have:=(I.eff j o' hl hg).1 (yC I.closed 8 o j hc hr);exact .inr this
       ·exact .inl (by simpa using hc)
      ·by_cases hc:(aP o').contains i=true
       ·refine .inr ?_;rcases aEU (cnt ops j) k with h1|h1
        ·have:=I.closed j o' hl ((I.eff j o' hl hg).2 h1) i (by simpa using hc);rw[hL]at this;cases this
        ·exact h1
       ·exact .inl (by simpa using hc)
    have hs:(i,k)∈YM ops:=by
     have:=wR (ops:=ops) (K:=cA ops.toList) (l:=ops.toList) (i:=0) (c:=0) (j:=i) (o:=o) (by simpa using hi) hb hC (k:=k) (by omega) (by simpa [cnt]using hk) (by simpa using hw);unfold YM;simpa using this
    have ha:=aD7.1 hp _ hs;unfold chkA at ha;simp only[hi,I.stage,f2]at ha;split at ha
    ·rename_i v' m2 hone;have:=eF ha;subst this;have:=JI hq hone;subst this;exact⟨v',f2,.inr (.inr (.inr (.inl ⟨hh,hq,hone⟩)))⟩
    ·cases ha
 ·have hn:bL o.op=false:=by unfold bL;rw[hh];simpa using hq
  obtain⟨mi,m',f1,f3,f4⟩:=fe hn
  have h1:¬cnt ops i<k:=by
   intro h;have:=(I.eff i o hi hn).2 h;rw[hL]at this;cases this
  have ho:cnt ops i=k:=by
   rcases aEU k (cnt ops i)with h2|h2
   ·exfalso;have hle:cnt ops i<=cA ops.toList:=jH _ _;obtain⟨j,o',g1,g2,g3⟩:=yE ops.toList (cnt ops i-1) (by omega);have hl:ops[j]?=some o':=by simpa using g1
    have hG:cnt ops j=cnt ops i-1:=g3
    have hD:L.getD j false=true:=by
     rcases hA.chain i o j o' hi hl hn g2 (by omega)with h3|⟨m,hm,om,hE,h3⟩
     ·exact hr j h3
     ·exact I.closed m om hE (hr m hm) j h3
    have:=(I.eff j o' hl g2).1 hD;omega
   ·omega
  have:mi=mk:=by
   have:=I.stage;rw[<-ho,f1]at this;injection this
  subst this;refine⟨v,f2,.inr (.inr (.inr (.inr ⟨hn,ho,m',?_,?_⟩)))⟩
  ·rw[<-ho];exact f3
  ·rw[<-ho];exact f4
theorem Inv.exec (hC:kV P C)(hb:cH C.B P call)(hl:wO ops)(I:Inv ops FT pl Ms ρ0 m0 a0 w0 L a w ρ k mk)(h0:fL ρ0 t0 a0.tmps){i:Nat}(hi:ops[i]?=some o)(hL:L.getD i false=false)(hr:∀j∈aP o,L.getD j false=true)(hq:∀(j:Nat) (o':Oper),ops[j]?=some o'->∃v,pl[j]?=some (o'.dst,v))(hn:∀(j:Nat) p,pl[j]?=some p->∃o',ops[j]?=some o'/\p.1=o'.dst){m1:M}(hf:bK ρ m1 w)(ho:eM C.B ρ m1 w)(p2:oneA P C call ops t0 pl o m1=some (v,m2))(next:∀ρ' w' x,aO ρ' v=some x->aX ρ m1 w ρ' m2 w'->K (a.put o.dst x) w'):wpOp P ops Q i K a w:=by
 have hc:=I.wait hl hi hL hr hq (fun j p hp=>let ⟨o',h,_⟩:=hn j p hp;⟨o',h⟩);have hrel:=I.seenRel (o:=o) hr h0 hn;have hh:fL ρ (gH pl (aP o) t0) ({tmps:=seen pl (aP o) a0 a,defers:=a.defers}:Act).tmps:=hrel
 have hs:execOp a.eval o=execOp ({tmps:=seen pl (aP o) a0 a,defers:=a.defers}:Act).eval o:=by
  refine execOp_congr o (hl.sel i o hi) fun x hx=>?_
  cases x with
  |tmp t=>
   have ht:t∈o.looksAt ops:=aGK _ (List.mem_filterMap.2 ⟨.tmp t,by simpa using hx,rfl⟩)
   unfold Act.eval
   simp only[aFZ,hc t ht]
  |const c=>rfl
  |global g=>rfl
  |func f=>rfl
 have ha:Region.wanted o (yielded ops a.tmps)=Region.wanted o (yielded ops (seen pl (aP o) a0 a)):=by
  unfold Region.wanted
  cases hg:o.guard with
  |none=>rfl
  |some q=>
   obtain⟨g,want⟩:=q
   simp only
   unfold yielded
   cases hd:(ops[g]?).bind (·.dst)with
   |none=>rfl
   |some d=>
    have ht:d∈o.looksAt ops:=List.mem_append_right _ (by rw[hg];simp only;rw[hd];simp)
    simp only[aHA]
    rw[hc d ht]
 unfold wpOp;rw[hi];simp only;unfold oneA at p2;split at p2
 ·cases p2
 ·rename_i hw;have hj:=uL hh hw;rw[ha,aD4 (by rw[hj];simp)];injection p2 with p2;injection p2 with e1 e2;subst e1;subst e2
  exact next _ _ _ rfl (.refl hf)
 ·rename_i hw;have hj:=uL hh hw;rw[ha,aD6 hj];left;unfold Oper.wp;rw[hs];rw[ED]at p2
  cases hopa:U7 P C (x9 (gH pl (aP o) t0)) o m1 with
  |none=>rw[hopa]at p2;cases p2
  |some n=>
   rw[hopa]at p2
   have hk:=U8 (P:=P) hC ho hf (fL.ev (a:={tmps:=seen pl (aP o) a0 a,defers:=a.defers}) hh) hopa
   cases n with
   |val u m3=>
    injection p2 with p2;injection p2 with e1 e2;subst e1;subst e2
    obtain⟨ρ',w',x,h1,h2,h3⟩:=hk
    rw[h1]
    exact next _ _ _ h2 h3
   |skip m3=>
    injection p2 with p2;injection p2 with e1 e2;subst e1;subst e2
    obtain⟨ρ',w',h1,h3⟩:=hk
    rw[h1]
    exact next _ _ _ rfl h3
   |enter f args=>
    obtain⟨xs,h1,h2⟩:=hk
    rw[h1]
    refine(hb f args m1 v m2 p2 ρ w xs hf ho h2).mono ?_
    rintro e w' ⟨ρ',x,rfl,g1,g2⟩
    exact next _ _ _ g1 g2
theorem Inv.run (h7:eM C.B ρ0 m0 w0)(hC:kV P C)(hG:cH C.B P call)(hE:wO ops)(hF:OI C ops t0 pl m0 FT)(I:Inv ops FT pl Ms ρ0 m0 a0 w0 L a w ρ k mk)(h0:fL ρ0 t0 a0.tmps){i:Nat}(hi:ops[i]?=some o)(hL:L.getD i false=false)(hr:∀j∈aP o,L.getD j false=true)(hP:∀(j:Nat) (o':Oper),ops[j]?=some o'->Fact P C call ops t0 FT pl Ms j (cnt ops j) o')(hpn:pl.length=ops.size)(hwin:(YM ops).all (chkA P C call ops t0 pl Ms)=true)(hK:Ms.length=cA ops.toList+1)(next:∀ρ' a' w' k' m2,Inv ops FT pl Ms ρ0 m0 a0 w0 (L.setIfInBounds i true) a' w' ρ' k' m2->K a' w'):wpOp P ops Q i K a w:=by
 have hpl:∀(j:Nat) (o':Oper),ops[j]?=some o'->∃v,pl[j]?=some (o'.dst,v):=by
  intro j o' hj;obtain⟨v,h2,_⟩:=hP j o' hj;exact⟨v,h2⟩
 have hpo:∀(j:Nat) p,pl[j]?=some p->∃o',ops[j]?=some o'/\p.1=o'.dst:=by
  intro j p hp;have hlt:=(aED.1 hp).1;have hj:ops[j]?=some ops[j]:=by rw[aFA (by omega)]
  obtain⟨v,hv⟩:=hpl j _ hj;rw[hp]at hv;injection hv with hv
  exact⟨_,hj,by rw[hv]⟩
 have hlt:i<L.size:=by rw[I.size];exact(aD5.1 hi).1
 have hself:(L.setIfInBounds i true).getD i false=true:=by simp[hlt]
 have hc:∀j,j≠i->(L.setIfInBounds i true).getD j false=L.getD j false:=fun j hj=>getD_set_ne false (fun e=>hj e.symm)
 have fb:∀p∈fU FT L k,mk.H.get p.1=none:=by
  intro p hp;obtain⟨f,f1,f2,f3,f4,f5⟩:=cR.1 (show(p.1,p.2)∈fU FT L k from hp);rw[<-f4];exact I.free f f1 f3
 have na:kZ o.op=false->CT o.op=false->∀f∈FT,f.op≠i:=by
  intro ha hm f hf he;rcases hF.op f hf with⟨o',t,ti,h1,h2,_⟩|⟨o',t,h1,h2,_⟩
  ·rw[he,hi]at h1;injection h1 with h1;subst h1
   rw[h2]at ha;cases ha
  ·rw[he,hi]at h1;injection h1 with h1;subst h1
   rw[h2]at hm;cases hm
 have ht:lL o.op=false->∀f∈FT,f.blk (L.setIfInBounds i true)=f.blk L:=by
  intro hn f hf;rcases hF.op f hf with⟨o',t,ti,_,_,_,_,h⟩|⟨o',t,_,_,_,h⟩
  ·rw[h,h]
  ·rw[h,h];congr 1;refine(JG (i:=i) (fun j hj=>hc j hj) ?_ _).symm
   cases he:mE C.T ops t0 pl f.id i with
   |none=>rfl
   |some e=>
    obtain⟨o',hA,hq⟩:=wS he
    rw[hi]at hA;injection hA with hA;subst hA
    rw[AE hq]at hn;cases hn
 have hkF:=I.step.ctx h7
 have pa:∀(F F':List (Nat×jR)) (id:Nat) (blk:jR),(∀p∈F,p.1<=1000000)->(∀p∈F',p.1<=1000000)->id<=1000000->(∀b x y,(b,x)∈F->(b,y)∈F->y=x)->(∀b x y,(b,x)∈F'->(b,y)∈F'->y=x)->(id,blk)∈F'->(∀b x,b≠id->((b,x)∈F'↔(b,x)∈F))->
   ∀b,(iJ (addF mk F) id (some blk)).H.get b=(addF mk F').H.get b:=by
  intro F F' id blk s1 s2 hid u1 u2 hQ h8 b
  rw[eJ _ b _ s2]
  by_cases hb:b=id
  ·subst hb;rw[jU hid,lR hQ fun k' hX=>u2 _ _ _ hQ hX]
  ·rw[eD hb,eJ _ b _ s1]
   have hl:fC b F=fC b F':=by
    cases hl:fC b F with
    |some x=>
     have hx:=(h8 b x hb).2 (gG hl)
     rw[lR hx fun k' hX=>u2 _ _ _ hx hX]
    |none=>
     symm
     exact gP fun x hx=>qV hl x ((h8 b x hb).1 hx)
   rw[hl]
 have aa:∀f∈FT,f.op=i->lL o.op=false->∀(b:Nat) (x:jR),b≠f.id->((b,x)∈fU FT (L.setIfInBounds i true) k↔(b,x)∈fU FT L k):=by
  intro f hf hfi hn b x hb;constructor
  ·intro hx;obtain⟨g,g1,g2,g3,g4,g5⟩:=cR.1 hx
   have h9:g.op≠i:=by
    intro e;have:=hF.uop g g1 f hf (by rw[e,hfi]);subst this;exact hb g4.symm
   rw[hc _ h9]at g2;rw[ht hn g g1]at g5;exact cR.2 ⟨g,g1,g2,g3,g4,g5⟩
  ·intro hx;obtain⟨g,g1,g2,g3,g4,g5⟩:=cR.1 hx;exact cR.2 ⟨g,g1,getD_set_true g2,g3,g4,by rw[ht hn g g1];exact g5⟩
 have hR:∀f∈FT,f.op=i->lL o.op=false->∀(q:Nat×Nat×Nat×Nat) (g:AD),g∈FT->(L.setIfInBounds i true).getD g.op false=false->(ρ.addB f.id q).blk g.id=none:=by
  intro f hf hfi hn q g hg hY;by_cases h9:g.op=i
  ·rw[h9,hself]at hY;cases hY
  ·rw[hc _ h9]at hY
   have hne:g.id≠f.id:=by
    intro e;have:=hF.uid g hg f hf e;subst this;exact h9 hfi
   rw[Env.addB_old _ hne];exact I.un g hg hY
 obtain⟨v,p1,hcase⟩:=I.now hE hi (hP i o hi) hL hr hwin hK;rcases hcase with⟨ha,f,hf,hfi,rfl⟩|⟨ha,f,hf,hfi,rfl⟩|⟨ha,rfl,q,hq⟩|⟨ha,hq,hone⟩|⟨hs,hck,m2,hone,hm2⟩
 ·
  have ho:lL o.op=false:=by cases hN:o.op<;>rw[hN]at ha<;>first|rfl|cases ha
  obtain⟨t,ti,h2,h3,h4⟩:∃t ti,o.op=.alloc t/\C.T t=some ti/\∀L,f.blk L=.cells t (ti.zero.map .lit) true:=by
   rcases hF.op f hf with⟨o',t,ti,h1,h2,h3,_,h4⟩|⟨o',t,h1,h2,_⟩
   ·rw[hfi,hi]at h1;injection h1 with h1;subst h1
    exact⟨t,ti,h2,h3,h4⟩
   ·rw[hfi,hi]at h1;injection h1 with h1;subst h1
    rw[h2]at ha;cases ha
  have hB:L.getD f.op false=false:=by rw[hfi];exact hL
  have hk:=I.late hF hK hf hB
  have hh:bL o.op=true:=by unfold bL;rw[wN ha];simp
  have hH:Region.wanted o (yielded ops a.tmps)=true:=by
   unfold Region.wanted;rw[hE.guard i o hi (wN ha)]
  obtain⟨z,hz,hzc⟩:=abZ hC.hT h3 w
  obtain⟨inf,zz,_,_,_,_,k5,k6,k7⟩:=(hC.hT t ti h3).info
  unfold wpOp
  rw[hi]
  simp only
  rw[aD6 hH]
  left
  have h5:(execOp a.eval o).run P w=.ok (.value (.pointer (some ⟨w.heap.size,0,none⟩))) (w.alloc (.cells z.cells t)):=by
   unfold execOp;rw[h2];simp[Instr.alloc,hz,newVar,newRow]
  unfold Oper.wp
  rw[h5]
  have h6:∀x,(f.id,x)∉fU FT L k:=by
   intro x hx;obtain⟨g,g1,g2,g3,g4,g5⟩:=cR.1 hx;have:=hF.uid g g1 f hf g4;subst this;rw[hB]at g2;cases g2
  have S1:aX ρ0 m0 w0 (ρ.addB f.id (w.heap.size,0,ti.zero.length,(ti.zero.map AV.lit).length)) (iJ (addF mk (fU FT L k)) f.id (some (f.blk (L.setIfInBounds i true)))) (w.alloc (.cells z.cells t)):=by
   refine JE I.step (I.un f hf hB) (hF.ge f hf) (by rw[cV];exact I.bnd f hf) ?_ (aD1 _) ?_ (fun g hg=>heap_alloc_old _ _ _ hg) (by simp) rfl rfl rfl
   ·rw[eJ _ _ _ (dT hF),gP h6];exact I.free f hf hk
   ·rw[h4];refine⟨w.heap.size,0,ti.zero.length,z.cells,ti.zero,Env.addB_new _ _ _,heap_alloc_new w _,?_,by simp,dA _,k7,fun j hj=>?_,fun _=>⟨rfl,by simp⟩⟩
    ·rw[<-hzc];simp
    ·rw[aEV,<-hzc];simp
  have S2:aX ρ0 m0 w0 (ρ.addB f.id (w.heap.size,0,ti.zero.length,(ti.zero.map AV.lit).length)) (addF mk (fU FT (L.setIfInBounds i true) k)) (w.alloc (.cells z.cells t)):=by
   refine S1.ext (pa _ _ _ _ (dT hF) (dT hF) (hF.le f hf) (fun b x y=>nO hF) (fun b x y=>nO hF) (cR.2 ⟨f,hf,by rw[hfi];exact hself,hk,rfl,rfl⟩) (fun b x hb=>?_)) (by show(addF mk _).nb=_;rw[cV,cV]) (by show(addF mk _).nc=_;rw[eQ,eQ]);exact aa f hf hfi ho b x hb
  have hle:ρ.le (ρ.addB f.id (w.heap.size,0,ti.zero.length,(ti.zero.map AV.lit).length)):=Env.le_addB _ (I.un f hf hB)
  refine next _ _ _ k mk (I.next hE hi hL hr p1 (x:= .pointer (some ⟨w.heap.size,0,none⟩)) ?_ hle (by rw[aD6 hh]) (fun h=>by rw[hh]at h;cases h) I.stage S2 (hR f hf hfi ho _) I.free I.bnd)
  unfold aO;rw[Env.addB_new]
 ·
  have ho:lL o.op=false:=by cases hN:o.op<;>rw[hN]at ha<;>first|rfl|cases ha
  obtain⟨t,h2,hfs,h4⟩:∃t,o.op=.makeMap t none/\f.stage=cA ops.toList+1/\∀L,f.blk L=.map (kJ C.T ops t0 pl f.id (fun i=>L.getD i false) ops.size):=by
   rcases hF.op f hf with⟨o',t,ti,h1,h2,h3,_,h4⟩|⟨o',t,h1,h2,h3,h4⟩
   ·rw[hfi,hi]at h1;injection h1 with h1;subst h1
    rw[h2]at ha;cases ha
   ·rw[hfi,hi]at h1;injection h1 with h1;subst h1
    exact⟨t,h2,h3,h4⟩
  have hB:L.getD f.op false=false:=by rw[hfi];exact hL
  have hk:=I.late hF hK hf hB
  have hh:bL o.op=true:=by unfold bL;rw[LX ha];simp
  have hH:Region.wanted o (yielded ops a.tmps)=true:=by
   unfold Region.wanted;rw[hE.guard i o hi (LX ha)]
  have hnil:f.blk (L.setIfInBounds i true)=.map []:=by
   rw[h4,acU];intro j hj
   cases he:mE C.T ops t0 pl f.id j with
   |none=>rfl
   |some e=>
    exfalso
    obtain⟨o',hA,hq⟩:=wS he
    obtain⟨g,g1,g2,g3,g4⟩:=hF.ins j o' hA _ hq
    have:=hF.uid g g1 f hf g2
    subst this
    by_cases hji:j=i
    ·subst hji;rw[hi]at hA;injection hA with hA;subst hA
     rw[AE hq]at ho;cases ho
    ·rw[hc j hji]at hj;have:=I.closed j o' hA hj _ g4;rw[hB]at this;cases this
  unfold wpOp
  rw[hi]
  simp only
  rw[aD6 hH]
  left
  have h5:(execOp a.eval o).run P w=.ok (.value (.map (some w.heap.size))) (w.alloc (.map #[] 0)):=by
   unfold execOp;rw[h2];rfl
  unfold Oper.wp
  rw[h5]
  have h6:∀x,(f.id,x)∉fU FT L k:=by
   intro x hx;obtain⟨g,g1,g2,g3,g4,g5⟩:=cR.1 hx;have:=hF.uid g g1 f hf g4;subst this;rw[hB]at g2;cases g2
  have S1:aX ρ0 m0 w0 (ρ.addB f.id (w.heap.size,0,0,0)) (iJ (addF mk (fU FT L k)) f.id (some (f.blk (L.setIfInBounds i true)))) (w.alloc (.map #[] 0)):=by
   refine JE I.step (I.un f hf hB) (hF.ge f hf) (by rw[cV];exact I.bnd f hf) ?_ (aD1 _) ?_ (fun g hg=>heap_alloc_old _ _ _ hg) (by simp) rfl rfl rfl
   ·rw[eJ _ _ _ (dT hF),gP h6];exact I.free f hf hk
   ·rw[hnil];exact⟨w.heap.size,#[],0,[],Env.addB_new _ _ _,heap_alloc_new w _,rfl,by simp,by simp⟩
  have S2:aX ρ0 m0 w0 (ρ.addB f.id (w.heap.size,0,0,0)) (addF mk (fU FT (L.setIfInBounds i true) k)) (w.alloc (.map #[] 0)):=by
   refine S1.ext (pa _ _ _ _ (dT hF) (dT hF) (hF.le f hf) (fun b x y=>nO hF) (fun b x y=>nO hF) (cR.2 ⟨f,hf,by rw[hfi];exact hself,hk,rfl,rfl⟩) (fun b x hb=>?_)) (by show(addF mk _).nb=_;rw[cV,cV]) (by show(addF mk _).nc=_;rw[eQ,eQ]);exact aa f hf hfi ho b x hb
  have hle:ρ.le (ρ.addB f.id (w.heap.size,0,0,0)):=Env.le_addB _ (I.un f hf hB)
  refine next _ _ _ k mk (I.next hE hi hL hr p1 (x:= .map (some w.heap.size)) ?_ hle (by rw[aD6 hh]) (fun h=>by rw[hh]at h;cases h) I.stage S2 (hR f hf hfi ho _) I.free I.bnd)
  unfold aO;rw[Env.addB_new]
 ·
  have hal0:kZ o.op=false:=by cases hN:o.op<;>rw[hN]at ha<;>first|rfl|cases ha
  have hI:CT o.op=false:=by cases hN:o.op<;>rw[hN]at ha<;>first|rfl|cases ha
  have hh:bL o.op=true:=by unfold bL;rw[EE ha];simp
  obtain⟨f,hf,f2,f3,f4⟩:=hF.ins i o hi q hq
  have hB:L.getD f.op false=true:=hr _ f4
  have hkl:k<Ms.length:=(aED.1 I.stage).1
  have hk:k<=f.stage:=by omega
  have h4:∀L,f.blk L=.map (kJ C.T ops t0 pl f.id (fun i=>L.getD i false) ops.size):=by
   rcases hF.op f hf with⟨o',t,ti,h1,h2,h3,hs,h4⟩|⟨o',t,h1,h2,h3,h4⟩
   ·omega
   ·exact h4
  have hent:mE C.T ops t0 pl f.id i=some q.2:=by
   unfold mE;rw[hi];simp only[hq];rw[f2,aG6];rfl
  have hS:=OJ (T:=C.T) (ops:=ops) (t0:=t0) (pl:=pl) (id:=f.id) (i:=i) (p:=fun j=>L.getD j false) (p':=fun j=>(L.setIfInBounds i true).getD j false) hself hL (fun j hj=>hc j hj) hent ops.size (by rw[<-I.size];exact hlt)
  have hkeys:=yD (hF.keys f hf f3)
  have hJ:nA q.2.1 (kJ C.T ops t0 pl f.id (fun j=>L.getD j false) ops.size)=none:=by
   refine vQ fun hm=>?_
   have hsub:=((OK (T:=C.T) (ops:=ops) (t0:=t0) (pl:=pl) (id:=f.id) (p:=fun j=>(L.setIfInBounds i true).getD j false) ops.size).map (·.1)).nodup hkeys;have hn2:=((hS.map (·.1)).nodup_iff).2 hsub;rw[aGU,List.nodup_append]at hn2;exact hn2.2.2 _ hm _ (by simp) rfl
  have hV:(addF mk (fU FT L k)).H.get f.id=some (.map (kJ C.T ops t0 pl f.id (fun j=>L.getD j false) ops.size)):=by
   have hQ:(f.id,f.blk L)∈fU FT L k:=cR.2 ⟨f,hf,hB,hk,rfl,rfl⟩;rw[eJ _ _ _ (dT hF),lR hQ fun k' hX=>nO hF hQ hX,h4]
  have hone:oneA P C call ops t0 pl o (addF mk (fU FT L k))=some (.lit undef,iJ (addF mk (fU FT L k)) f.id (some (.map (kJ C.T ops t0 pl f.id (fun j=>L.getD j false) ops.size++[q.2])))):=by
   unfold oneA
   have hw:nM ops (gH pl (aP o) t0) o=some true:=by
    unfold nM;rw[hE.guard i o hi (EE ha)]
   rw[hw];simp only;rw[ED];unfold tL at hq;unfold U7;split at hq
   case h_2=>cases hq
   rename_i t mp kk xx hN;split at hq
   case h_2=>cases hq
   rename_i it b key hit hmp hkey;split at hq
   case h_2=>cases hq
   rename_i kt e hd;split at hq
   case h_2=>cases hq
   rename_i ik hik;split at hq
   case h_2=>cases hq
   rename_i hkd;injection hq with hq
   subst hq;simp only at f2 hJ hV⊢
   have hins:rY C.T (addF mk (fU FT L k)) t (x9 (gH pl (aP o) t0) mp) (x9 (gH pl (aP o) t0) kk) (x9 (gH pl (aP o) t0) xx)=some (iJ (addF mk (fU FT L k)) f.id (some (.map (kJ C.T ops t0 pl f.id (fun j=>L.getD j false) ops.size++[(key,x9 (gH pl (aP o) t0) xx)])))):=by
    unfold rY;rw[hit,hmp,hkey];simp only;rw[hd,<-f2,hV];simp only;rw[hik];simp only;rw[hkd,hJ]
   rw[hN];simp only;rw[hins];rfl
  refine I.exec hC hG hE h0 hi hL hr hpl hpo I.step.rel hkF hone fun ρ' w' x hx hD=>?_
  have S1:=I.step.trans hD
  have S2:=S1.reblk (b:=f.id) (k':= .map (kJ C.T ops t0 pl f.id (fun j=>(L.setIfInBounds i true).getD j false) ops.size)) (jU (hF.le f hf)) (gE.perm hS)
  have S3:aX ρ0 m0 w0 ρ' (addF mk (fU FT (L.setIfInBounds i true) k)) w':=by
   refine S2.ext (fun b=>?_) (by show(addF mk _).nb=_;rw[cV,cV]) (by show(addF mk _).nc=_;rw[eQ,eQ]);rw[<-pa (fU FT L k) (fU FT (L.setIfInBounds i true) k) f.id (.map (kJ C.T ops t0 pl f.id (fun j=>(L.setIfInBounds i true).getD j false) ops.size)) (dT hF) (dT hF) (hF.le f hf) (fun b x y=>nO hF) (fun b x y=>nO hF) (cR.2 ⟨f,hf,getD_set_true hB,hk,rfl,h4 _⟩) (fun b x hb=>?_) b]
   ·by_cases hb:b=f.id
    ·subst hb;rw[jU (hF.le f hf),jU (hF.le f hf)]
    ·rw[eD hb,eD hb,eD hb]
   ·have hW:∀g∈FT,g.id≠f.id->g.blk (L.setIfInBounds i true)=g.blk L:=by
     intro g hg hne;rcases hF.op g hg with⟨o',t,ti,_,_,_,_,h⟩|⟨o',t,_,_,_,h⟩
     ·rw[h,h]
     ·rw[h,h];congr 1;refine(JG (i:=i) (fun j hj=>hc j hj) ?_ _).symm
      cases he:mE C.T ops t0 pl g.id i with
      |none=>rfl
      |some e=>
       exfalso
       obtain⟨o',hA,hq'⟩:=wS he
       rw[hi]at hA;injection hA with hA;subst hA
       rw[hq]at hq';injection hq' with hq'
       rw[hq']at f2
       exact hne f2.symm
    constructor
    ·intro hx;obtain⟨g,g1,g2,g3,g4,g5⟩:=cR.1 hx;rw[hc _ (na hal0 hI g g1)]at g2;rw[hW g g1 (by rw[g4];exact hb)]at g5;exact cR.2 ⟨g,g1,g2,g3,g4,g5⟩
    ·intro hx;obtain⟨g,g1,g2,g3,g4,g5⟩:=cR.1 hx;exact cR.2 ⟨g,g1,getD_set_true g2,g3,g4,by rw[hW g g1 (by rw[g4];exact hb)];exact g5⟩
  refine next _ _ _ k mk (I.next hE hi hL hr p1 hx hD.le (by rw[aD6 hh]) (fun h=>by rw[hh]at h;cases h) I.stage S3 (fun g hg hY=>?_) I.free I.bnd)
  rw[hc _ (na hal0 hI g hg)]at hY
  rw[hD.fix _ (by rw[cV];exact I.bnd g hg)]
  exact I.un g hg hY
 ·
  have hm1:bK ρ mk w:=I.step.rel.drop (dT hF) fb
  have hk1:=hkF.drop (dT hF) fb
  have hh:bL o.op=true:=by unfold bL;rw[hq];rfl
  refine I.exec hC hG hE h0 hi hL hr hpl hpo hm1 hk1 hone fun ρ' w' x hx hD=>?_
  have hfr:=frame I.step.rel hD (dT hF) fb (fun p hp=>by
   obtain⟨f,f1,_,_,f4,_⟩:=cR.1 (show(p.1,p.2)∈fU FT L k from hp);rw[<-f4];exact I.bnd f f1)
  have hfs:fU FT (L.setIfInBounds i true) k=fU FT L k:=by
   unfold fU
   have hfil:(FT.filter fun f=>(L.setIfInBounds i true).getD f.op false&&decide (k<=f.stage))=FT.filter fun f=>L.getD f.op false&&decide (k<=f.stage):=by
    refine List.filter_congr fun f hf=>?_
    rw[hc _ (na (AB ha).1 (AB ha).2.1 f hf)]
   rw[hfil];refine List.map_congr_left fun f hf=>?_
   rw[ht (AB ha).2.2 f (aFJ.1 hf).1]
  refine next _ _ _ k mk (I.next hE hi hL hr p1 hx hD.le (by rw[aD6 hh]) (fun h=>by rw[hh]at h;cases h) I.stage (by rw[hfs];exact I.step.trans hfr) (fun f hf hfl=>?_) I.free I.bnd)
  rw[hc _ (na (AB ha).1 (AB ha).2.1 f hf)]at hfl
  rw[hD.fix _ (I.bnd f hf)]
  exact I.un f hf hfl
 ·
  have ha0:nN o.op=false:=by
   unfold bL at hs;simp at hs;exact hs.2
  obtain⟨ha,hI,ho⟩:=AB ha0
  have hkK:k<=cA ops.toList:=by
   rw[<-hck];exact jH _ _
  have ba:∀f∈FT,f.stage<=cA ops.toList->∀L L',f.blk L=f.blk L':=by
   intro f hf hs L L';rcases hF.op f hf with⟨o',t,ti,_,_,_,_,h⟩|⟨o',t,_,_,h3,h⟩
   ·rw[h,h]
   ·omega
  have hO:∀(b:Nat) (x:jR),(b,x)∈fU FT L k↔((b,x)∈fU FT (L.setIfInBounds i true) (k+1)∨(b,x)∈qU FT k):=by
   intro b x;rw[cR,cR,oI];constructor
   ·rintro⟨f,f1,f2,f3,f4,f5⟩;rcases aEU k f.stage with h|h
    ·exact .inl ⟨f,f1,getD_set_true f2,h,f4,by rw[ht ho f f1];exact f5⟩
    ·exact .inr ⟨f,f1,by omega,f4,by rw[<-f5];exact ba f f1 (by omega) _ _⟩
   ·rintro(⟨f,f1,f2,f3,f4,f5⟩|⟨f,f1,f2,f4,f5⟩)
    ·rw[hc _ (na ha hI f f1)]at f2;rw[ht ho f f1]at f5;exact⟨f,f1,f2,by omega,f4,f5⟩
    ·exact⟨f,f1,hr _ (hF.stage f f1 i o hi hs (by omega)),by omega,f4,by rw[<-f5];exact ba f f1 (by omega) _ _⟩
  have hM:aX ρ0 m0 w0 ρ (addF (addF mk (qU FT k)) (fU FT (L.setIfInBounds i true) (k+1))) w:=by
   refine I.step.ext (fun b=>?_) (by rw[cV,cV,cV]) (by rw[eQ,eQ,eQ]);rw[eJ _ b _ (dT hF),eJ _ b _ (dT hF),eJ _ b _ (EJ hF)]
   cases hl:fC b (fU FT L k)with
   |some x=>
    have hQ:=gG hl
    cases hl1:fC b (fU FT (L.setIfInBounds i true) (k+1))with
    |some y=>
     have:=nO hF hQ ((hO b y).2 (.inl (gG hl1)))
     rw[this]
    |none=>
     rcases(hO b x).1 hQ with h|h
     ·exact absurd h (qV hl1 x)
     ·rw[lR h fun k' hX=>ai3 hF h hX]
   |none=>
    have hno:=qV hl
    rw[gP fun x hx=>hno x ((hO b x).2 (.inl hx)),gP fun x hx=>hno x ((hO b x).2 (.inr hx))]
  have fa:∀p∈fU FT (L.setIfInBounds i true) (k+1),(addF mk (qU FT k)).H.get p.1=none:=by
   intro p hp;obtain⟨f,f1,f2,f3,f4,f5⟩:=cR.1 (show(p.1,p.2)∈fU FT (L.setIfInBounds i true) (k+1)from hp);rw[eJ _ _ _ (EJ hF),gP fun x hx=>?_]
   ·rw[<-f4];exact I.free f f1 (by omega)
   ·obtain⟨g,g1,g2,g4,g5⟩:=oI.1 hx;have:=hF.uid g g1 f f1 (by rw[g4,f4]);subst this;omega
  have hm1:bK ρ (addF mk (qU FT k)) w:=hM.rel.drop (dT hF) fa
  have hk1:=(hM.ctx h7).drop (dT hF) fa
  refine I.exec hC hG hE h0 hi hL hr hpl hpo hm1 hk1 hone fun ρ' w' x hx hD=>?_
  have hfr:=frame hM.rel hD (dT hF) fa (fun p hp=>by
   obtain⟨f,f1,_,_,f4,_⟩:=cR.1 (show(p.1,p.2)∈fU FT (L.setIfInBounds i true) (k+1)from hp);rw[<-f4,cV];exact I.bnd f f1)
  have hnb:mk.nb<=m2.nb:=by have:=hD.nbm;rw[cV]at this;exact this
  refine next _ _ _ (k+1) m2 (I.next hE hi hL hr p1 hx hD.le (by rw[aD4 (by rw[hs];simp)]) (fun _=>hck) hm2 (hM.trans hfr) (fun f hf hfl=>?_) (fun f hf hfk=>?_) (fun f hf=>aEL (I.bnd f hf) hnb))
  ·rw[hc _ (na ha hI f hf)]at hfl;rw[hD.fix _ (by rw[cV];exact I.bnd f hf)];exact I.un f hf hfl
  ·cases hg:m2.H.get f.id with
   |none=>rfl
   |some kk=>
    exfalso
    rcases hD.ids _ _ hg with⟨k0,h7⟩|h
    ·rw[eJ _ _ _ (EJ hF),gP fun x hx=>?_]at h7
     ·rw[I.free f hf (by omega)]at h7;cases h7
     ·obtain⟨g,g1,g2,g4,g5⟩:=oI.1 hx;have:=hF.uid g g1 f hf g4;subst this;omega
    ·rw[cV]at h;have:=I.bnd f hf;omega
theorem filter_lt {p q:Nat->Bool}:∀{l:List Nat},(∀x∈l,q x=true->p x=true)->∀i∈l,p i=true->q i=false->(l.filter q).length<(l.filter p).length
 |[],_,i,hi,_,_=>by cases hi
 |x::l,h,i,hi,hp,hq=>by
  have hle:∀{l:List Nat},(∀x∈l,q x=true->p x=true)->(l.filter q).length<=(l.filter p).length:=by
   intro l h;induction l with
   |nil=>exact aD1 _
   |cons x l ih=>
    have ih:=ih fun y hy=>h y (aEM _ hy)
    have hx:=h x aEH
    rw[List.filter_cons,List.filter_cons]
    cases hq:q x<;>cases hp:p x
    ·simpa using ih
    ·simp;omega
    ·exact absurd (hx hq) (by rw[hp];simp)
    ·simpa using ih
  have hl:=hle fun y hy=>h y (aEM _ hy)
  have hx:=h x aEH;rw[List.filter_cons,List.filter_cons];rcases aER.1 hi with rfl|hi
  ·rw[hp,hq];simp;omega
  ·have ih:=filter_lt (fun y hy=>h y (aEM _ hy)) i hi hp hq
   cases hq':q x<;>cases hp':p x
   ·simpa using ih
   ·simp;omega
   ·exact absurd (hx hq') (by rw[hp'];simp)
   ·simpa using ih
def left (ops:Array Oper)(L:Array Bool):Nat:=((List.range ops.size).filter fun i=>!L.getD i false).length
theorem Inv.any (hz:eM C.B ρ0 m0 w0)(hC:kV P C)(hg:cH C.B P call)(ht:wO ops)(hF:OI C ops t0 pl m0 FT)(h0:fL ρ0 t0 a0.tmps)(hh:∀(j:Nat) (o':Oper),ops[j]?=some o'->Fact P C call ops t0 FT pl Ms j (cnt ops j) o')(hA:pl.length=ops.size)(hp:(YM ops).all (chkA P C call ops t0 pl Ms)=true)(hK:Ms.length=cA ops.toList+1)(hk:∀L a w ρ k mk,Inv ops FT pl Ms ρ0 m0 a0 w0 L a w ρ k mk->(∀i,i<ops.size->L.getD i false=true)->Q .normal a w):
  ∀(fuel:Nat) {L:Array Bool} {a:Act} {w:World} {ρ:Env} {k:Nat} {mk:M},Inv ops FT pl Ms ρ0 m0 a0 w0 L a w ρ k mk->left ops L<=fuel->wpAny P .any ops Q fuel L a w:=by
 have hd:∀{L:Array Bool} {a:Act} {w:World} {ρ:Env} {k:Nat} {mk:M},Inv ops FT pl Ms ρ0 m0 a0 w0 L a w ρ k mk->Region.ready .any ops L=[]->∀i,i<ops.size->L.getD i false=true:=by
  intro L a w ρ k mk I hf i;induction i using Nat.strongRecOn with
  |_ i ih=>
   intro hi
   by_cases hl:L.getD i false=true
   ·exact hl
   ·exfalso;have hq:L.getD i false=false:=by simpa using hl
    have ho:ops[i]?=some ops[i]:=aFA hi
    have:i∈Region.ready .any ops L:=by
     rw[mem_ready];refine⟨by rw[AH (by rw[I.size];exact hi)];exact hq,ops[i],ho,fun e he hb=>?_⟩;have hs:e.on∈aP ops[i]:=aEZ.2 ⟨e,aFJ.2 ⟨by simpa using he,hb⟩,rfl⟩;have ha:=ht.lt i _ ho _ hs;exact ih e.on ha (by omega)
    rw[hf]at this;cases this
 intro fuel
 induction fuel with
 |zero=>
  intro L a w ρ k mk I hc
  have hn:∀i,i<ops.size->L.getD i false=true:=by
   intro i hi;by_cases hl:L.getD i false=true
   ·exact hl
   ·exfalso;have hq:L.getD i false=false:=by simpa using hl
    have:i∈(List.range ops.size).filter fun i=>!L.getD i false:=aFJ.2 ⟨aEE.2 hi,by rw[hq];rfl⟩
    have hlen:=List.length_pos_of_mem this;unfold left at hc;omega
  refine⟨?_,hk _ _ _ _ _ _ I hn⟩
  cases hr:Region.ready .any ops L with
  |nil=>rfl
  |cons x l=>
   exfalso
   have hx:x∈Region.ready .any ops L:=by rw[hr];exact aEH
   rw[mem_ready]at hx
   obtain⟨h1,o,ho,_⟩:=hx
   have ha:=(aD5.1 ho).1
   rw[AH (by rw[I.size];exact ha),hn x ha]at h1
   cases h1
 |succ fuel ih=>
  intro L a w ρ k mk I hc
  refine⟨fun hf=>hk _ _ _ _ _ _ I (hd I hf),fun i hi=>?_⟩
  rw[mem_ready]at hi
  obtain⟨h1,o,ho,h2⟩:=hi
  have ha:=(aD5.1 ho).1
  have hL:L.getD i false=false:=by rw[<-AH (by rw[I.size];exact ha)];exact h1
  have hr:∀j∈aP o,L.getD j false=true:=by
   intro j hj;obtain⟨e,he,rfl⟩:=aEZ.1 hj;obtain⟨hB,hD⟩:=aFJ.1 he;exact h2 e (by simpa using hB) hD
  refine I.run hz hC hg ht hF h0 ho hL hr hh hA hp hK fun ρ' a' w' k' m2 I'=>ih I' ?_
  have:left ops (L.setIfInBounds i true)<left ops L:=by
   unfold left;refine filter_lt (fun x _ hx=>?_) i (aEE.2 ha) (by rw[hL];rfl) ?_
   ·by_cases hv:x=i
    ·subst hv;rw[hL];rfl
    ·rw[getD_set_ne false (fun e=>hv e.symm)]at hx;exact hx
   ·simp[show i<L.size by rw[I.size];exact ha]
  omega
end
theorem C8 (hm:P.follows .mixedOrders=true)(hC:kV P C)(call:bM)(hV:cH C.B P call):tH C.B P (EH P C call):=by
 intro ops s s' hs id ρ w a Q h hk ht hQ;unfold EH at hs;split at hs
 case isFalse=>cases hs
 rename_i hW;have hst:=YL hW;unfold acT at hs;split at hs
 case isFalse=>cases hs
 rename_i hv;generalize hJ:lS C.T ops.toList ops.toList 0 s.m.nb=FT at hs hv;unfold VC at hs;split at hs
 case h_2=>cases hs
 rename_i pl Ms hD;split at hs
 case isFalse=>cases hs
 rename_i hwm;obtain⟨h4,hE⟩:=(aD3 _ _).mp hwm;unfold acS at hE;obtain⟨hX,hM⟩:=(aD3 _ _).mp hE;split at hs
 case h_2=>cases hs
 rename_i mK hmK;injection hs with hs;subst hs
 have fb:∀f:AD,(lM C.T ops s.ts pl f).op=f.op:=fun f=>by unfold lM;split<;>rfl
 have fa:∀f:AD,(lM C.T ops s.ts pl f).id=f.id:=fun f=>by unfold lM;split<;>rfl
 have fst:∀f:AD,(lM C.T ops s.ts pl f).stage=f.stage:=fun f=>by unfold lM;split<;>rfl
 have fc:∀f:AD,f.stage<=cA ops.toList->lM C.T ops s.ts pl f=f:=fun f h=>by
  unfold lM;rw[show Nat.beq f.stage (cA ops.toList+1)=false from beq_false (by omega)];rfl
 have fe:∀f:AD,f.stage=cA ops.toList+1->∀L,(lM C.T ops s.ts pl f).blk L=.map (kJ C.T ops s.ts pl f.id (fun i=>L.getD i false) ops.size):=fun f h L=>by
  unfold lM;rw[h,aG6];rfl
 have hY:=fun f (hf:f∈FT)=>nU (T:=C.T) (all:=ops.toList) (l:=ops.toList) (i:=0) (nb:=s.m.nb) f (by rw[hJ];exact hf)
 have hh:∀f∈FT,(∃o t i,ops[f.op]?=some o/\o.op=.alloc t/\C.T t=some i/\f.stage<=cA ops.toList/\f.stage=kC f.op ops.toList 0/\∀L,f.blk L=.cells t (i.zero.map .lit) true)∨(∃o t,ops[f.op]?=some o/\o.op=.makeMap t none/\f.stage=cA ops.toList+1):=by
  intro f hf;obtain⟨_,_,_,o,h5,h6⟩:=hY f hf;rcases h6 with⟨t,k1,k2,k3⟩|⟨t,k1,k2⟩
  ·have hle:=wQ f.op ops.toList 0;have hc:=aD7.1 hv.2 f hf;rw[show Nat.beq f.stage (cA ops.toList+1)=false from beq_false (by omega),aHD,k3]at hc;unfold SL at hc k3
   cases hT:C.T t with
   |none=>rw[hT]at hc;cases hc
   |some i=>
    rw[hT]at k3
    exact .inl ⟨o,t,i,by simpa using h5,k1,hT,by omega,k2,fun L=>by rw[k3]⟩
  ·exact .inr ⟨o,t,by simpa using h5,k1,k2⟩
 generalize hN:FT.map (lM C.T ops s.ts pl)=FT';have ha:∀f',f'∈FT'↔∃f∈FT,lM C.T ops s.ts pl f=f':=fun f'=>by rw[<-hN,aEZ]
 have hlen':FT'.length=FT.length:=by rw[<-hN,aFV]
 have hF:OI C ops s.ts pl s.m FT':=by
  refine⟨fun f' hn=>?_,fun f' hn=>?_,fun f' hn g' h7 he=>?_,fun f' hn g' h7 he=>?_,fun f' hn=>?_,fun f' hn j o hj hq hc=>?_,fun i o hi q hq=>?_,fun f' hn hs=>?_⟩
  ·obtain⟨f,hf,rfl⟩:=(ha f').1 hn;rw[fa];exact(hY f hf).2.1
  ·obtain⟨f,hf,rfl⟩:=(ha f').1 hn;have:=(hY f hf).2.2.1;rw[hJ]at this;rw[fa];omega
  ·obtain⟨f,hf,rfl⟩:=(ha f').1 hn;obtain⟨g,hg,rfl⟩:=(ha g').1 h7;rw[fa,fa]at he;rw[(qT (T:=C.T) (all:=ops.toList) (l:=ops.toList) (i:=0) (nb:=s.m.nb) f (by rw[hJ];exact hf) g (by rw[hJ];exact hg)).1 he]
  ·obtain⟨f,hf,rfl⟩:=(ha f').1 hn;obtain⟨g,hg,rfl⟩:=(ha g').1 h7;rw[fb,fb]at he;rw[(qT (T:=C.T) (all:=ops.toList) (l:=ops.toList) (i:=0) (nb:=s.m.nb) f (by rw[hJ];exact hf) g (by rw[hJ];exact hg)).2 he]
  ·obtain⟨f,hf,rfl⟩:=(ha f').1 hn;rcases hh f hf with⟨o,t,i,k1,k2,k3,k4,k5,k6⟩|⟨o,t,k1,k2,k3⟩
   ·rw[fc f k4];exact .inl ⟨o,t,i,k1,k2,k3,k4,k6⟩
   ·refine .inr ⟨o,t,by rw[fb];exact k1,k2,by rw[fst];exact k3,fun L=>?_⟩;rw[fa];exact fe f k3 L
  ·obtain⟨f,hf,rfl⟩:=(ha f').1 hn;rw[fst]at hc;rw[fb];rcases hh f hf with⟨o',t,i,k1,k2,k3,k4,k5,k6⟩|⟨o',t,k1,k2,k3⟩
   ·refine sC f.op ops.toList 0 (j:=j) (by simpa using hj) hq ?_;rw[aEV,<-k5];exact hc
   ·have:cnt ops j<=cA ops.toList:=jH _ _;omega
  ·have h8:=(aD5.1 hi).1;have hR:=aD7.1 hX i (aEE.2 h8);unfold anI at hR;rw[hi]at hR;simp only at hR;rw[AE hq,hq]at hR;simp only[Bool.not_true,aHD]at hR;obtain⟨f,hf,hb⟩:=aG2.1 hR;simp only[aD3,aGW]at hb;exact⟨lM C.T ops s.ts pl f,(ha _).2 ⟨f,hf,rfl⟩,by rw[fa];exact aEA hb.1,by rw[fst];exact aEA hb.2.1,by rw[fb];exact hb.2.2⟩
  ·obtain⟨f,hf,rfl⟩:=(ha f').1 hn;rw[fst]at hs;have:=aD7.1 hM f hf;rw[hs,aG6]at this;rw[fa];simpa using this
 generalize h0:({s.m with nb:=s.m.nb+FT.length}:M)=M0 at hD
 obtain⟨⟨x,hx⟩,⟨y,hy⟩,hlen,hmlen,hO⟩:=nV ops.toList [] [M0] M0 0 hD rfl rfl (fun k o hk j hj=>by
  have:=hst.lt k o (by simpa using hk) j hj;simpa using this)
 have h9:∀c,c<=cA ops.toList->qU FT' c=qU FT c:=by
  intro c hc;unfold qU;rw[<-hN,List.filter_map,List.map_map]
  have hfil:FT.filter ((fun f=>Nat.beq f.stage c) ∘ lM C.T ops s.ts pl)=FT.filter fun f=>Nat.beq f.stage c:=by
   refine List.filter_congr fun f _=>?_
   simp only[Function.comp_apply,fst]
  rw[hfil];refine List.map_congr_left fun f hf=>?_
  have:=aEA (aFJ.1 hf).2;simp only[Function.comp_apply];rw[fc f (by omega)]
 have hz:∀(j:Nat) (o':Oper),ops[j]?=some o'->Fact P C call ops s.ts FT' pl Ms j (cnt ops j) o':=by
  intro j o' hj;have:=hO j o' (by simpa using hj);obtain⟨v,f1,f2,f3,f4,f5,f6⟩:Fact P C call ops s.ts FT pl Ms j (cnt ops j) o':=by simpa [cnt]using this
  refine⟨v,f1,fun h=>?_,fun h=>?_,f4,f5,fun h=>?_⟩
  ·obtain⟨f,hf,g1,g2⟩:=f2 h;exact⟨lM C.T ops s.ts pl f,(ha _).2 ⟨f,hf,rfl⟩,by rw[fb];exact g1,by rw[fa];exact g2⟩
  ·obtain⟨f,hf,g1,g2⟩:=f3 h;exact⟨lM C.T ops s.ts pl f,(ha _).2 ⟨f,hf,rfl⟩,by rw[fb];exact g1,by rw[fa];exact g2⟩
  ·rw[h9 (cnt ops j) (jH _ _)];exact f6 h
 have hpn:pl.length=ops.size:=by simpa using hlen
 have hK:Ms.length=cA ops.toList+1:=by omega
 have hd:=aX.drew1 h;have hG:M0.nb=s.m.nb+FT.length:=by rw[<-h0]
 have ho:∀b,M0.H.get b=s.m.H.get b:=fun b=>by rw[<-h0]
 have S0:aX ρ s.m w.drew ρ M0 w.drew:=by
  have hr:=hd.rel;refine⟨.refl _,⟨fun i hi=>hr.nb i (by omega),fun i hi=>hr.nc i (by rw[<-h0]at hi;exact hi),fun b k hb=>hr.live b k (by rw[<-ho];exact hb),fun b b' k k' q q' h1 h2=>hr.inj b b' k k' q q' (by rw[<-ho];exact h1) (by rw[<-ho];exact h2),by rw[hG];exact hv.1⟩,fun _ _ _=>rfl,fun g hg=> .inr (hg.ext fun b=>(ho b).symm),aD1 _,rfl,rfl,rfl,by omega,fun _ _=>rfl,fun b k hb=> .inl ⟨k,by rw[<-ho];exact hb⟩,by rw[<-h0];exact aD1 _,fun _ _ h=> .inl h,fun _ _ _ _ _ _ _=> .same rfl⟩
 refine wp_region_any hm ?_;show wpAny P .any ops Q ops.size (Array.replicate ops.size false) a w.drew
 have h3:∀i:Nat,(Array.replicate ops.size false).getD i false=false:=by
  intro i;by_cases hi:i<ops.size
  ·simp[hi]
  ·simp[hi]
 have hfs0:fU FT' (Array.replicate ops.size false) 0=[]:=by
  unfold fU;rw[List.map_eq_nil_iff,List.filter_eq_nil_iff];intro f hf;rw[h3];simp
 have I0:Inv ops FT' pl Ms ρ s.m a w.drew (Array.replicate ops.size false) a w.drew ρ 0 M0:=by
  refine⟨by simp,(fun i o hi hL=>by rw[h3]at hL;cases hL),fun i o hi hq=>?_,by rw[hy];rfl,by rw[hfs0];exact S0,fun f hf _=>hd.rel.nb _ (hF.ge f hf),fun f hf _=>?_,fun f hf=>?_,fun d _=>rfl,(fun i o d v hi hL=>by rw[h3]at hL;cases hL),rfl,rfl⟩
  ·rw[h3];simp
  ·rw[ho]
   cases hg:s.m.H.get f.id with
   |none=>rfl
   |some k=>
    have:=h.lt hg
    have:=hF.ge f hf
    omega
  ·obtain⟨f0,hf0,rfl⟩:=(ha f).1 hf;have:=(hY f0 hf0).2.2.1;rw[hJ]at this;rw[hG,fa];exact this
 refine Inv.any (hd.ctx hk) hC hV hst hF (ht.ts) hz hpn h4 hK ?_ ops.size I0 ?_
 ·intro L a' w' ρ' k mk I hA
  have hkK:k=cA ops.toList:=by
   have hk1:k<Ms.length:=(aED.1 I.stage).1;rcases aEU k (cA ops.toList)with h1|h1
   ·exfalso;obtain⟨j,o,g1,g2,g3⟩:=yE ops.toList k h1;have hj:ops[j]?=some o:=by simpa using g1
    have:=(I.eff j o hj g2).1 (hA j (aD5.1 hj).1);have hc:cnt ops j=k:=g3;omega
   ·omega
  have hmk:mk=mK:=by
   have:=I.stage;rw[hkK,hmK]at this;injection this with this;exact this.symm
  subst hmk
  have hB:∀(b:Nat) (x:jR),(b,x)∈fU FT' L k↔(b,x)∈qU FT (cA ops.toList)++OH C.T ops s.ts pl FT:=by
   intro b x;rw[cR,aEQ,oI];unfold OH;rw[aEZ]
   have hH:∀f∈FT,L.getD f.op false=true:=by
    intro f hf;rcases hh f hf with⟨o,t,i,k1,_⟩|⟨o,t,k1,_⟩
    ·exact hA _ (aD5.1 k1).1
    ·exact hA _ (aD5.1 k1).1
   have hI:∀id,kJ C.T ops s.ts pl id (fun i=>L.getD i false) ops.size=kJ C.T ops s.ts pl id (fun _=>true) ops.size:=fun id=>acV hA
   constructor
   ·rintro⟨f',f1,f2,f3,f4,f5⟩;obtain⟨f,hf,rfl⟩:=(ha f').1 f1;rw[fst]at f3;rw[fa]at f4;rcases hh f hf with⟨o,t,i,k1,k2,k3,k4,k5,k6⟩|⟨o,t,k1,k2,k3⟩
    ·rw[fc f k4]at f5;exact .inl ⟨f,hf,by omega,f4,by rw[<-f5,k6,k6]⟩
    ·rw[fe f k3,hI]at f5;exact .inr ⟨f,aFJ.2 ⟨hf,by rw[k3];exact aG6 _⟩,by rw[<-f5,f4]⟩
   ·rintro(⟨f,f1,f2,f4,f5⟩|⟨f,f1,f2⟩)
    ·refine⟨lM C.T ops s.ts pl f,(ha _).2 ⟨f,f1,rfl⟩,by rw[fb];exact hH f f1,by rw[fst];omega,by rw[fa];exact f4,?_⟩;rcases hh f f1 with⟨o,t,i,k1,k2,k3,k4,k5,k6⟩|⟨o,t,k1,k2,k3⟩
     ·rw[fc f k4,<-f5,k6,k6]
     ·omega
    ·obtain⟨g1,g2⟩:=aFJ.1 f1;have g3:=aEA g2;injection f2 with e1 e2
     exact⟨lM C.T ops s.ts pl f,(ha _).2 ⟨f,g1,rfl⟩,by rw[fb];exact hH f g1,by rw[fst,g3];omega,by rw[fa];exact e1,by rw[fe f g3,hI];exact e2⟩
  have sa:∀p∈qU FT (cA ops.toList)++OH C.T ops s.ts pl FT,p.1<=1000000:=by
   intro p hp;exact dT hF p ((hB p.1 p.2).2 hp)
  have Sfin:aX ρ s.m w.drew ρ' (addF mk (qU FT (cA ops.toList)++OH C.T ops s.ts pl FT)) w':=by
   refine I.step.ext (fun b=>?_) (by rw[cV,cV]) (by rw[eQ,eQ]);rw[eJ _ b _ (dT hF),eJ _ b _ sa]
   cases hl:fC b (fU FT' L k)with
   |some x=>
    have h1:=(hB b x).1 (gG hl)
    rw[lR h1 fun k' hk'=>nO hF (gG hl) ((hB b k').2 hk')]
   |none=>
    rw[gP fun x hx=>qV hl x ((hB b x).2 hx)]
  refine hQ ρ' a' w' (hd.trans Sfin) ⟨?_,?_⟩
  ·intro d;show(match gA (YN pl s.ts) d with|some v=>∃y,a'.tmps[d]?=some y/\aO ρ' v=some y|none=>a'.tmps[d]?=none);rcases OG pl s.ts d with⟨j,v,h1,h2⟩|⟨h1,h2⟩
   ·rw[h2]
    cases htd:gA s.ts d with
    |none=>
     show a'.tmps[d]?=none
     have:=ht.ts.no htd
     rw[aFL]at this⊢
     rw[I.tsz];exact this
    |some u=>
     obtain⟨y0,hy0,_⟩:=ht.ts.at_ htd
     have h8:=(aD5.1 hy0).1
     have hjl:=(aED.1 h1).1
     have hj:ops[j]?=some ops[j]:=aFA (by omega)
     obtain⟨v',hS,_⟩:=hz j _ hj
     have hP:(ops[j]'(by omega)).dst=some d:=by
      rw[h1]at hS;injection hS with hS;injection hS with e1 e2;exact e1.symm
     exact I.new j _ d v hj (hA j (by omega)) hP h1 h8
   ·rw[h2]
    have hold:a'.tmps[d]?=a.tmps[d]?:=by
     refine I.old d fun j o hj hL hP=>?_
     obtain⟨v',hS,_⟩:=hz j o hj;exact h1 j v' (by rw[hS,hP])
    rw[hold];exact(ht.ts.mono I.step.le) d
  ·rw[I.defs];exact ht.ds.mono I.step.le
 ·have:left ops (Array.replicate ops.size false)<=(List.range ops.size).length:=List.length_filter_le _ _;simpa using this
end
section
variable {P:Program}
def aoO (P:Program)(d:TypeDesc):Option (List (Nat×Nat×TypeId)):=
 match d with
 |.struct fs=>fs.toList.mapM fun f=>(P.info? f.type).map fun i=>(f.offset,i.size,f.type)
 |_=>some []
def SN (P:Program)(t:TypeId):Option cZ:=
 match P.info? t,P.underlying t with
 |some inf,some d=>match inf.zero,aoO P d with
  |some z,some fl=>if z.cells.toList.length=inf.size/\z.cells.toList.all Value.oneCell'=true then some {desc:=d,agg:=auE d,size:=inf.size,bytes:=inf.bytes,zero:=z.cells.toList,zv:=z,flds:=fl}else none
  |_,_=>none
 |_,_=>none
theorem JJ:∀{l:List Field} {fl:List (Nat×Nat×TypeId)},(l.mapM fun f=>(P.info? f.type).map fun i=>(f.offset,i.size,f.type))=some fl->
  (l.mapM fun f=>(P.info? f.type).map fun i=>(f.offset,i.size))=some (fl.map fun q=>(q.1,q.2.1))/\l.map (·.type)=fl.map (·.2.2)
 |[],fl,h=>by
  simp at h;subst h;exact⟨rfl,rfl⟩
 |f::l,fl,h=>by
  simp only[List.mapM_cons,Option.bind_eq_bind,Option.pure_def]at h
  cases hi:P.info? f.type with
  |none=>simp[hi]at h
  |some i=>
   cases hr:l.mapM (fun f=>(P.info? f.type).map fun i=>(f.offset,i.size,f.type))with
   |none=>simp[hi,hr]at h
   |some r=>
    simp[hi,hr]at h
    subst h
    obtain⟨h1,h2⟩:=JJ hr
    refine⟨?_,by simp[h2]⟩
    simp only[List.mapM_cons,Option.bind_eq_bind,Option.pure_def,hi,h1]
    rfl
theorem ai4:tA P (SN P):=by
 intro t i h;unfold SN at h;split at h
 case h_2=>cases h
 rename_i inf d ha hd;split at h
 case h_2=>cases h
 rename_i z fl hz hf;split at h
 case isFalse=>cases h
 rename_i hc;injection h with h;subst h
 refine⟨hd,rfl,⟨inf,z,ha,rfl,rfl,hz,rfl,hc.1,fun x hx=>aD7.1 hc.2 x hx⟩,by simp[ha,hz],fun fs hb=>?_⟩;simp only at hb;subst hb;exact JJ hf
def VE (P:Program)(f:FuncId):Option Func:=
 match P.funcs[f]? with
 |some fn=>if fn.name == "runtime.NumGoroutine" then none else some fn
 |none=>none
theorem aoP:∀f fn,VE P f=some fn->P.funcs[f]?=some fn/\(fn.name == "runtime.NumGoroutine")=false:=by
 intro f fn h;unfold VE at h;split at h
 ·rename_i g hg;split at h
  ·cases h
  ·rename_i hn;injection h with h;subst h
   exact⟨hg,by simpa using hn⟩
 ·cases h
def SO (P:Program)(t:TypeId)(name:String):Option FuncId:=
 match P.info? t,P.underlying t with
 |some inf,some d=>match inf.methods.find? (·.name ==name)with
  |some mth=>match mth.path.toList,mth.func with
   |[],some (g,p)=>if D4 d p then some g else none
   |_,_=>none
  |none=>none
 |_,_=>none
theorem ai5:∀t name g,SO P t name=some g->∃inf mth p d,P.info? t=some inf/\inf.methods.find? (·.name ==name)=some mth/\mth.path=#[]/\mth.func=some (g,p)/\P.underlying t=some d/\D4 d p=true:=by
 intro t name g h;unfold SO at h;split at h
 case h_2=>cases h
 rename_i inf d ha hd;split at h
 case h_2=>cases h
 rename_i mth hm;split at h
 case h_2=>cases h
 rename_i g' p hp hf;split at h
 case isFalse=>cases h
 rename_i hr;injection h with h;subst h
 exact⟨inf,mth,p,d,ha,hm,by rw[<-Array.toList_inj,hp],hf,hd,hr⟩
end
section
variable {B:aE}
variable {P:Program}
def Entry (P:Program)(f:FuncId)(e:Array Value->Sem Value):Prop:=
 ∃fn,P.funcs[f]?=some fn/\(fn.name == "runtime.NumGoroutine")=false/\fn.body.isNone=true/\Extern.findNext fn=none/\Extern.find fn=some e
theorem Entry.run {f:FuncId}{e:Array Value->Sem Value}(h:Entry P f e)(xs:Array Value)(w:World):(callFunc f xs).run P w=((e xs).run P w).andThen fun v w'=> .ok (.value v) w':=by
 obtain⟨fn,h1,h2,h3,h4,h5⟩:=h;exact run_callFunc_extern h1 h2 h3 h4 h5 xs w
structure YQ where
 esc:FuncId
 mkz:FuncId
 idx:FuncId
 cnt:FuncId
 ps:Array TypeId
 t:TypeId
 e:TypeId
structure SP (P:Program) (X:YQ):Prop where
 esc:Entry P X.esc Extern.AbiNoEscape.same
 mkz:Entry P X.mkz (Extern.BytealgMakeNoZero.makeNoZero X.ps #[X.t])
 und:P.underlying X.t=some (.slice X.e)
 idx:Entry P X.idx Extern.BytealgIndexByte.indexByte
 cnt:Entry P X.cnt Extern.BytealgCount.count
def anJ (m:M):Option Value->Option (AV×M)
 |some v=>some (.lit v,m)
 |none=>none
def aoQ (P:Program)(X:YQ):FuncId->List AV->M->Option (AV×M):=fun f args m=>
 if f=X.esc then(match args with
  |[x]=>some (x,m)
  |_=>none)
 else if f=X.mkz then(match args with
  |[.lit (.int .i64 (.ofNat n))]=>if n<=16777216 then(match qQ m (.cells X.e [] false)with
   |some m'=>some (.slc m.nb 0 n 1 (.lo m.nc 0),{m' with nc:=m.nc+1})
   |none=>none)else none
  |_=>none)
 else if f=X.idx then(match args with
  |[.lit x,.lit c]=>anJ m (cC P (Extern.BytealgIndexByte.indexByte #[x,c]))
  |_=>none)
 else if f=X.cnt then(match args with
  |[.lit x,.lit c]=>anJ m (cC P (Extern.BytealgCount.count #[x,c]))
  |_=>none)
 else none
theorem aoR {X:YQ}(hX:SP P X):∀f args m r m',aoQ P X f args m=some (r,m')->∀ρ w xs,bK ρ m w->aT ρ args=some xs->∃ρ' w' x,(callFunc f xs.toArray).run P w=.ok (.value x) w'/\aO ρ' r=some x/\aX ρ m w ρ' m' w':=by
 intro f args m r m' hs ρ w xs h hx
 have two:∀(x c:Value),args=[.lit x,.lit c]->xs=[x,c]:=by
  rintro x c rfl;obtain⟨p,q,h1,h2,rfl⟩:=aG.1 hx;obtain⟨p2,q2,k1,k2,rfl⟩:=aG.1 h2;rw[aT]at k2;injection k2 with k2;subst k2
  simp only[aO]at h1 k1;injection h1 with h1;injection k1 with k1
  rw[h1,k1]
 unfold aoQ at hs;split at hs
 ·rename_i hf;subst hf;split at hs
  case h_2=>cases hs
  rename_i x;injection hs with hs;injection hs with e1 e2;subst e1;subst e2
  obtain⟨p,q,h1,h2,rfl⟩:=aG.1 hx;rw[aT]at h2;injection h2 with h2;subst h2
  refine⟨ρ,w,p,?_,h1,.refl h⟩;rw[hX.esc.run];rfl
 split at hs
 ·rename_i hf;subst hf;split at hs
  case h_2=>cases hs
  rename_i n;split at hs
  case isFalse=>cases hs
  rename_i hn;split at hs
  case h_2=>cases hs
  rename_i m1 hm;injection hs with hs;injection hs with e1 e2;subst e1;subst e2
  obtain⟨p,q,h1,h2,rfl⟩:=aG.1 hx;rw[aT]at h2;injection h2 with h2;subst h2
  simp only[aO]at h1;injection h1 with h1;subst h1
  obtain⟨cs,ha,hle,hb,_⟩:=Lib.run_makeNoZero_cap (P:=P) w X.ps X.t X.e hX.und n (by omega);have hd:=(aX.drew1 h).trans (aX.drew1 (aX.drew1 h).rel);have hs:=new_row hd.rel X.e (cs:=[]) (xs:=[]) rfl (fun x hx=>by cases hx) hm cs.toList (some cs.size) (fun h=>by cases h);rw[aF4,aFP]at hs;refine⟨_,_,.slice (some ⟨w.heap.size,0,none⟩) n cs.size,?_,?_,hd.trans hs⟩
  ·rw[hX.mkz.run];have:(Extern.BytealgMakeNoZero.makeNoZero X.ps #[X.t] #[.int .i64 (Int.ofNat n)]).run P w=_:=ha;rw[show([Value.int IntKind.i64 (Int.ofNat n)]:List Value).toArray=#[.int .i64 (Int.ofNat n)]from rfl,this];rfl
  ·exact rU ρ m _ _ _ _ n 1 cs.size _ _ rfl rfl hle (by simp) (by simp) (hb (by unfold maxLen;omega))
 split at hs
 ·rename_i hf;subst hf;split at hs
  case h_2=>cases hs
  rename_i x c;obtain rfl:=two x c rfl
  cases hp:cC P (Extern.BytealgIndexByte.indexByte #[x,c])with
  |none=>rw[hp]at hs;cases hs
  |some v=>
   rw[hp]at hs
   injection hs with hs;injection hs with e1 e2;subst e1;subst e2
   refine⟨ρ,w,v,?_,rfl,.refl h⟩
   rw[hX.idx.run]
   rw[show([x,c]:List Value).toArray=#[x,c]from rfl,gJ hp w]
   rfl
 split at hs
 ·rename_i hf;subst hf;split at hs
  case h_2=>cases hs
  rename_i x c;obtain rfl:=two x c rfl
  cases hp:cC P (Extern.BytealgCount.count #[x,c])with
  |none=>rw[hp]at hs;cases hs
  |some v=>
   rw[hp]at hs
   injection hs with hs;injection hs with e1 e2;subst e1;subst e2
   refine⟨ρ,w,v,?_,rfl,.refl h⟩
   rw[hX.cnt.run]
   rw[show([x,c]:List Value).toArray=#[x,c]from rfl,gJ hp w]
   rfl
 ·cases hs
def auS (P:Program)(X:YQ)(B:aE)(q:Tb):Cx:={T:=SN P,F:=VE P,Mth:=SO P,ext:=aoQ P X,B:=B,tb:=q}
def aAX:Tb:=⟨fun _ _ _=>none,fun _ _=>none,fun _=>none,fun _=>none,fun _ _=>none,fun _=>none⟩
theorem ai6:kY P B aAX:=⟨(fun _ _ _ _ h=>nomatch h),(fun _ _ _ h=>nomatch h),(fun _ _ h=>nomatch h),(fun _ _ h=>nomatch h),(fun _ _ _ h=>nomatch h),fun _ _ h=>(by cases h)⟩
theorem VF {X:YQ}(hX:SP P X){q:Tb}(hq:kY P B q):kV P (auS P X B q):=⟨ai4,aoP,ai5,aoR hX,hq⟩
end
section
open Go Go.RowKit
variable {B:aE}
variable {P:Program}{ρ:Env}{m m':M}{w w':World}
theorem aX.of_below (h:bK ρ m w)(hb:Below w.heap.size w w'):aX ρ m w ρ m w':=by
 refine⟨.refl _,⟨h.nb,h.nc,fun b k hk=>(h.live b k hk).mono (.refl _) fun q hq=>?_,h.inj,h.small⟩,fun g hg _=>hb.block g hg,fun g hg=> .inr hg,hb.size,hb.os,hb.tape,hb.output,aD1 _,fun _ _=>rfl,fun _ k hk=> .inl ⟨k,hk⟩,aD1 _,fun _ _ h=> .inl h,fun b k _ q hk _ hq=> .same (by
  obtain⟨q0,ha,hc⟩:=(h.live b k hk).at_;rw[ha]at hq;injection hq with hq;subst hq
  exact hb.block _ hc)⟩
 obtain⟨q0,ha,hc⟩:=(h.live b k hk).at_;rw[ha]at hq;injection hq with hq;subst hq
 exact hb.block _ hc
structure eN (B:aE) (w:World):Prop where
 size:∀g,B.K g->g<w.heap.size
 old:∀g,B.K g->w.heap[g]?=B.W.heap[g]?
theorem eM.under {ρ:Env}{m:M}{w:World}(h:eM B ρ m w):eN B w:=⟨h.size,h.old⟩
def OM (a b:bM):bM:=fun f args m=>
 match a f args m with
 |some r=>some r
 |none=>b f args m
theorem EK {a b:bM}(ha:cH B P a)(hb:cH B P b):cH B P (OM a b):=by
 intro f args m r m' hs;unfold OM at hs;split at hs
 ·rename_i q hq;injection hs with hs;subst hs
  exact ha f args m r m' hq
 ·exact hb f args m r m' hs
end
end Go.Sym
