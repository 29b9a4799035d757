/- TopShell, part 3 of 36. -/
import Derived.Test.YtoeiaflkdcbkdaaGreatDoorK02
set_option linter.unusedVariables false
set_option linter.unusedSimpArgs false
namespace Go.Sym
open Go
section
variable {P:Program}
def VG:List (ByteArray×AV)->List (ByteArray×AV)->Bool
 |[],[]=>true
 |a::x,b::y=>decide (a.1.data.toList=b.1.data.toList)&&jV a.2 b.2&&VG x y
 |_,_=>false
theorem ON:∀{a b:List (ByteArray×AV)},VG a b=true->a=b
 |[],[],_=>rfl
 |[],_::_,h=>by cases h
 |_::_,[],h=>by cases h
 |a::x,b::y,h=>by
  unfold VG at h;simp only[aD3,aEP]at h;rw[ON h.2,show a=b from Prod.ext (jF h.1.1) (eF h.1.2)]
def acW:jR->jR->Bool
 |.cells e a t,.cells f b u=>Nat.beq e f&&tK a b&&(t ==u)
 |.map a,.map b=>VG a b
 |.iter s p,.iter t q=>decide (s.data.toList=t.data.toList)&&Nat.beq p q
 |_,_=>false
theorem acX {a b:jR}(h:acW a b=true):a=b:=by
 unfold acW at h;split at h
 ·simp only[aD3,beq_iff_eq]at h;rw[aEA h.1.1,oH h.1.2,h.2]
 ·rw[ON h]
 ·simp only[aD3,aEP]at h;rw[jF h.1,aEA h.2]
 ·cases h
def tN:Option jR->Option jR->Bool
 |none,none=>true
 |some a,some b=>acW a b
 |_,_=>false
theorem pQ {a b:Option jR}(h:tN a b=true):a=b:=by
 cases a<;>cases b
 ·rfl
 ·cases h
 ·cases h
 ·rw[acX h]
structure Ran where
 f:FuncId
 args:List AV
 m:M
 r:AV
 m':M
end
section
open Go Go.RowKit
variable {B:aE}
variable {P:Program}
def Env.none:Env:=⟨fun _=>Option.none,fun _=>Option.none,fun _=>Option.none⟩
theorem pR (b:Nat):({}:M).H.get b=none:=rfl
theorem LZ (w:World):bK Env.none {} w:=
 ⟨fun _ _=>rfl,fun _ _=>rfl,(fun b k h=>by rw[pR]at h;cases h),(fun b _ k _ _ _ h=>by rw[pR]at h;cases h),by show 0<=1000000;omega⟩
theorem OO (hA:∀i,B.A i=Option.none){w:World}(hw:eN B w):eM B Env.none {} w:=
 ⟨hw.size,hw.old,(fun g h=>by obtain⟨b,k,q,h,_⟩:=h;rw[pR]at h;cases h),(fun i x h=>by rw[hA]at h;cases h),(fun n v h=>nomatch(show Option.none=some v from h)),fun i x h=>by rw[hA]at h;cases h⟩
theorem whole (hA:∀i,B.A i=Option.none){call:bM}(ha:cH B P call){f:FuncId}{xs:List Value}{v:Value}{m':M}(h:call f (xs.map .lit) {}=some (.lit v,m'))(w:World)(hw:eN B w):
  Calls P f xs.toArray w fun e w'=>e=.returned v/\Below w.heap.size w w':=by
 refine(ha f _ _ _ _ h Env.none w xs.toArray (LZ w) (OO hA hw) (by simpa using dA xs)).mono ?_
 rintro e w' ⟨ρ',x,rfl,hx,S⟩
 simp only[aO]at hx;injection hx with hx;subst hx
 refine⟨rfl,S.os,S.tape,S.output,S.size,fun k hk=>S.keep k hk ?_⟩
 rintro⟨b,kk,q,hb,_⟩
 rw[pR]at hb;cases hb
end
section
variable {P:Program}{ρ ρ':Env}{m m' m1 m2:M}{w w':World}
structure Sub (m1 m:M):Prop where
 get:∀b k,m1.H.get b=some k->m.H.get b=some k
 nb:m1.nb=m.nb
 nc:m1.nc=m.nc
theorem Sub.live (h:Sub m1 m){g:Nat}(hl:dD ρ m1 g):dD ρ m g:=by
 obtain⟨b,k,q,h1,h2,h3⟩:=hl;exact⟨b,k,q,h.get b k h1,h2,h3⟩
theorem bK.sub (h:bK ρ m w)(hs:Sub m1 m):bK ρ m1 w:=
 ⟨fun i hi=>h.nb i (by rw[<-hs.nb];exact hi),fun i hi=>h.nc i (by rw[<-hs.nc];exact hi),fun b k hb=>h.live b k (hs.get b k hb),fun b b' k k' q q' h1 h2=>h.inj b b' k k' q q' (hs.get b k h1) (hs.get b' k' h2),by rw[hs.nb];exact h.small⟩
theorem aX.gc {ρ0:Env}{m0:M}{w0:World}(S:aX ρ0 m0 w0 ρ m w)(hs:Sub m1 m):aX ρ0 m0 w0 ρ m1 w:=
 ⟨S.le,S.rel.sub hs,S.keep,fun g hg=>S.fresh g (hs.live hg),S.size,S.os,S.tape,S.output,by rw[hs.nb];exact S.nbm,S.fix,fun b k hb=>S.ids b k (hs.get b k hb),by rw[hs.nc];exact S.ncm,fun n v hn=>by
   rcases S.ats n v hn with hx|⟨h1,h2,h3,gh,h4,h5⟩
   ·exact .inl hx
   ·exact .inr ⟨h1,h2,by rw[hs.nc];exact h3,gh,h4,h5.mono fun g hg _=>⟨rfl,hg.1,fun hl=>hg.2 (hs.live hl)⟩⟩,fun b k k' q h1 h2 hq=>S.out b k k' q h1 (hs.get b k' h2) hq⟩
def YR (nb nc:Nat)(l:List (Nat×jR)):M:=addF {H:= .nil,nb:=nb,nc:=nc} l
def auT (m:M)(l:List (Nat×jR)):Bool:=l.all fun p=>Nat.ble p.1 1000000&&tN (m.H.get p.1) (some p.2)
theorem aoS {nb nc:Nat}{l:List (Nat×jR)}(h:auT m l=true)(h1:Nat.beq nb m.nb=true)(h2:Nat.beq nc m.nc=true):Sub (YR nb nc l) m:=by
 have ha:=fun p (hp:p∈l)=>aD7.1 h p hp
 refine⟨fun b k hb=>?_,by unfold YR;rw[cV];exact aEA h1,by unfold YR;rw[eQ];exact aEA h2⟩;unfold YR at hb;rw[eJ _ b l (fun p hp=>by have:=ha p hp;simp only[aD3]at this;exact aEJ this.1)]at hb
 cases hl:fC b l with
 |none=>rw[hl]at hb;cases hb
 |some x=>
  rw[hl]at hb
  injection hb with hb;subst hb
  have:=ha _ (gG hl)
  simp only[aD3]at this
  exact pQ this.2
structure Told where
 f:FuncId
 args:List AV
 nb:Nat
 nc:Nat
 L:List (Nat×jR)
 r:AV
 nb':Nat
 nc':Nat
 L':List (Nat×jR)
def SQ (B:aE)(P:Program)(T:Told):Prop:=
 ∀ρ w (xs:Array Value),bK ρ (YR T.nb T.nc T.L) w->eM B ρ (YR T.nb T.nc T.L) w->aT ρ T.args=some xs.toList->Calls P T.f xs w fun e w'=>∃ρ' x,e=.returned x/\aO ρ' T.r=some x/\aX ρ (YR T.nb T.nc T.L) w ρ' (YR T.nb' T.nc' T.L') w'
def VH (T:Told):Option (AV×M)->Bool
 |some (r,m)=>jV r T.r&&(Nat.beq T.nb' m.nb&&(Nat.beq T.nc' m.nc&&auT m T.L'))
 |none=>false
theorem ai7 {B:aE}{call:bM}(ha:cH B P call){T:Told}(h:VH T (call T.f T.args (YR T.nb T.nc T.L))=true):SQ B P T:=by
 intro ρ w xs hm hk hx
 cases hr:call T.f T.args (YR T.nb T.nc T.L)with
 |none=>rw[hr]at h;cases h
 |some q=>
  obtain⟨r,m⟩:=q
  rw[hr]at h
  simp only[VH,aD3]at h
  obtain⟨h1,h2,h3,h4⟩:=h
  refine(ha _ _ _ r m hr ρ w xs hm hk hx).mono ?_
  rintro e w' ⟨ρ',x,rfl,g1,g2⟩
  refine⟨ρ',x,rfl,?_,g2.gc (aoS h4 h2 h3)⟩
  rw[<-eF h1];exact g1
end
section
variable {P:Program}{ρ ρ':Env}{m m' m1 m2:M}{w w':World}
def anK (k:Nat):Cap->Cap
 |.ex c=> .ex c
 |.lo i n=> .lo (k+i) n
def shN (k n:Nat):Nat:=if n%2=1 then n+2048*k else n
mutual
def shV (a k:Nat):AV->AV
 |.lit v=> .lit v
 |.atom n=> .atom (shN k n)
 |.ptr b o=> .ptr (a+b) o
 |.slc b o n sz c=> .slc (a+b) o n sz (anK k c)
 |.mp b=> .mp (a+b)
 |.cut b o n sz c=> .cut (a+b) o n sz (anK k c)
 |.elp n j=> .elp (shN k n) j
 |.fn f x y=> .fn f (YS a k x) (YS a k y)
 |.ifc t v=> .ifc t (shV a k v)
 |.agg l=> .agg (YS a k l)
 |.tup l=> .tup (YS a k l)
def YS (a k:Nat):List AV->List AV
 |[]=>[]
 |v::l=>shV a k v::YS a k l
end
def shE (a k:Nat):List (ByteArray×AV)->List (ByteArray×AV)
 |[]=>[]
 |e::l=>(e.1,shV a k e.2)::shE a k l
def shB (a k:Nat):jR->jR
 |.cells e cs tg=> .cells e (YS a k cs) tg
 |.map es=> .map (shE a k es)
 |.iter s p=> .iter s p
end
section
open Go Go.RowKit
variable {P:Program}
structure Ent where
 f:FuncId
 xs:List Value
 r:AV
end
section
open Go Go.RowKit
variable {c d:Nat}{B:aE}
variable {P:Program}{ρ ρ':Env}{m m':M}{w w':World}
inductive eG where
 |val (v:Value)
 |at_ (i:Nat)
 |ls (k:Nat)
 |agg (l:List eG)
 |tup (l:List eG)
mutual
def fG (B:aE)(G:Nat->Prop)(w:World):eG->Value->Prop
 |.val v,x=>x=v
 |.at_ i,x=>B.A i=some x/\x.oneCell'=true
 |.ls k,x=>k<1024/\x.oneCell'=true/\∃gh,B.A (gid k)=some gh/\Sp G w x gh
 |.agg l,x=>∃ys,x=.agg ys.toArray/\kW B G w l ys
 |.tup l,x=>∃ys,x=.tuple ys.toArray/\kW B G w l ys
def kW (B:aE)(G:Nat->Prop)(w:World):List eG->List Value->Prop
 |[],ys=>ys=[]
 |p::l,ys=>∃y r,ys=y::r/\fG B G w p y/\kW B G w l r
end
mutual
def qC (B:aE):eG->Prop
 |.val _=>True
 |.at_ i=>∃v,B.A i=some v
 |.ls k=>k<1024/\∃v,B.A (gid k)=some v
 |.agg l=>lJ B l
 |.tup l=>lJ B l
def lJ (B:aE):List eG->Prop
 |[]=>True
 |p::l=>qC B p/\lJ B l
end
mutual
def fN (c:Nat):eG->AV->Bool
 |.val v,a=>jV a (.lit v)
 |.at_ i,.atom n=>Nat.beq n i
 |.ls k,.atom n=>Nat.beq (n%2) 1&&(Nat.beq (keyOf n) k&&Nat.ble c (n/2048))
 |.agg l,.agg xs=>EL c l xs
 |.tup l,.tup xs=>EL c l xs
 |_,_=>false
def EL (c:Nat):List eG->List AV->Bool
 |[],[]=>true
 |p::l,a::r=>fN c p a&&EL c l r
 |_,_=>false
end
def NR (c k:Nat):Nat:=2*(1024*c+k)+1
theorem VJ (c k:Nat):NR c k%2=1:=by unfold NR;omega
theorem ai8 (c k:Nat)(h:k<1024):keyOf (NR c k)=k:=by unfold keyOf NR;omega
theorem L5 (c k:Nat)(h:k<1024):NR c k/2048=c:=by unfold NR;omega
mutual
def SS (c:Nat):eG->AV×Nat
 |.val v=>(.lit v,c)
 |.at_ i=>(.atom i,c)
 |.ls k=>(.atom (NR c k),c+1)
 |.agg l=>match eW c l with
  |(xs,d)=>(.agg xs,d)
 |.tup l=>match eW c l with
  |(xs,d)=>(.tup xs,d)
def eW (c:Nat):List eG->List AV×Nat
 |[]=>([],c)
 |p::l=>match SS c p with
  |(x,d)=>match eW d l with
   |(xs,e)=>(x::xs,e)
end
mutual
theorem SU {B:aE}{c:Nat}{G:Nat->Prop}(hat:∀i x,B.A i=some x->ρ.atom i=some x)(hrd:∀n v,ρ.atom n=some v->n%2=1->c<=n/2048->∃gh,ρ.atom (gid (keyOf n))=some gh/\Sp G w v gh):
  ∀(p:eG) (a:AV) (x:Value),fN c p a=true->qC B p->aO ρ a=some x->fG B G w p x
 |.val v,a,x,h,_,hx=>by
  unfold fN at h;have:=eF h;subst this;unfold aO at hx;injection hx with hx
  exact hx.symm
 |.at_ i,a,x,h,hw,hx=>by
  cases a<;>simp only[fN,aE0]at h
  rename_i n;have:=aEA h;subst this;obtain⟨v,hv⟩:=hw;have:=hat n v hv;unfold aO at hx;rw[this]at hx;simp only at hx;split at hx
  ·rename_i h1;injection hx with hx
   subst hx;exact⟨hv,h1⟩
  ·cases hx
 |.ls k,a,x,h,hw,hx=>by
  cases a<;>simp only[fN,aE0]at h
  rename_i n;simp only[aD3]at h;obtain⟨h1,h2,h3⟩:=h;have h1:=aEA h1;have h2:=aEA h2;have h3:=aEJ h3;obtain⟨hk,v,hv⟩:=hw;unfold aO at hx
  cases hn:ρ.atom n with
  |none=>rw[hn]at hx;cases hx
  |some y=>
   rw[hn]at hx
   simp only at hx
   split at hx
   case isFalse=>cases hx
   rename_i hone
   injection hx with hx
   subst hx
   obtain⟨gh,g1,g2⟩:=hrd n y hn h1 h3
   rw[h2]at g1
   refine⟨hk,hone,gh,?_,g2⟩
   have:=hat _ _ hv
   rw[g1]at this
   injection this with this
   rw[hv,this]
 |.agg l,a,x,h,hw,hx=>by
  cases a<;>simp only[fN,aE0]at h
  rename_i xs;unfold aO at hx
  cases hl:aT ρ xs with
  |none=>rw[hl]at hx;cases hx
  |some ys=>
   rw[hl]at hx
   injection hx with hx
   exact⟨ys,hx.symm,yF hat hrd l xs ys h hw hl⟩
 |.tup l,a,x,h,hw,hx=>by
  cases a<;>simp only[fN,aE0]at h
  rename_i xs;unfold aO at hx
  cases hl:aT ρ xs with
  |none=>rw[hl]at hx;cases hx
  |some ys=>
   rw[hl]at hx
   injection hx with hx
   exact⟨ys,hx.symm,yF hat hrd l xs ys h hw hl⟩
theorem yF {B:aE}{c:Nat}{G:Nat->Prop}(hat:∀i x,B.A i=some x->ρ.atom i=some x)(hrd:∀n v,ρ.atom n=some v->n%2=1->c<=n/2048->∃gh,ρ.atom (gid (keyOf n))=some gh/\Sp G w v gh):
  ∀(p:List eG) (a:List AV) (x:List Value),EL c p a=true->lJ B p->aT ρ a=some x->kW B G w p x
 |[],[],x,_,_,hx=>by
  unfold aT at hx;injection hx with hx
  exact hx.symm
 |[],_::_,_,h,_,_=>by cases h
 |_::_,[],_,h,_,_=>by cases h
 |p::l,a::r,x,h,hw,hx=>by
  unfold EL at h;rw[aD3]at h;obtain⟨y,ys,h1,h2,rfl⟩:=aG.1 hx;exact⟨y,ys,rfl,SU hat hrd p a y h.1 hw.1 h1,yF hat hrd l r ys h.2 hw.2 h2⟩
end
structure yG (G:Nat->Prop) (w:World) (c d:Nat) (ρ ρ':Env):Prop where
 le:ρ.le ρ'
 blk:ρ'.blk=ρ.blk
 cap:ρ'.cap=ρ.cap
 cd:c<=d
 new:∀n v,ρ'.atom n=some v->ρ.atom n=some v∨(n%2=1/\c<=n/2048/\n/2048<d/\∃gh,ρ'.atom (gid (keyOf n))=some gh/\Sp G w v gh)
theorem yG.refl (G:Nat->Prop)(w:World)(c:Nat)(ρ:Env):yG G w c c ρ ρ:=⟨.refl _,rfl,rfl,aD1 _,fun _ _ h=> .inl h⟩
theorem yG.trans {G:Nat->Prop}{w:World}{e:Nat}{ρ ρ1 ρ2:Env}(h:yG G w c d ρ ρ1)(k:yG G w d e ρ1 ρ2):yG G w c e ρ ρ2:=
 ⟨h.le.trans k.le,k.blk.trans h.blk,k.cap.trans h.cap,aEI h.cd k.cd,fun n v hn=>by
   rcases k.new n v hn with hx|⟨a1,a2,a3,gh,a4,a5⟩
   ·rcases h.new n v hx with hy|⟨a1,a2,a3,gh,a4,a5⟩
    ·exact .inl hy
    ·exact .inr ⟨a1,a2,aEL a3 k.cd,gh,k.le.a a4,a5⟩
   ·exact .inr ⟨a1,aEI h.cd a2,a3,gh,a4,a5⟩⟩
def Env.addA (ρ:Env)(n:Nat)(v:Value):Env:={ρ with atom:=fun k=>if k=n then some v else ρ.atom k}
mutual
theorem SV {B:aE}{G:Nat->Prop}:∀(p:eG) (c:Nat) (x:Value) (ρ:Env),fG B G w p x->(∀i y,B.A i=some y->ρ.atom i=some y)->(∀n,n%2=1->c<=n/2048->ρ.atom n=none)->
  ∃ρ',yG G w c (SS c p).2 ρ ρ'/\aO ρ' (SS c p).1=some x
 |.val v,c,x,ρ,h,_,_=>by
  have:x=v:=h;subst this;exact⟨ρ,.refl _ _ _ _,rfl⟩
 |.at_ i,c,x,ρ,h,hat,_=>by
  obtain⟨h1,h2⟩:=h;refine⟨ρ,.refl _ _ _ _,?_⟩;show aO ρ (.atom i)=some x;unfold aO;rw[hat i x h1];exact aD6 h2
 |.ls k,c,x,ρ,h,hat,hfr=>by
  obtain⟨hk,hone,gh,h1,h2⟩:=h;have hnew:ρ.atom (NR c k)=none:=hfr _ (VJ c k) (by rw[L5 c k hk];exact aD1 _)
  have hle:ρ.le (ρ.addA (NR c k) x):=⟨id,id,fun {i y} hi=>by
   show(if i=NR c k then some x else ρ.atom i)=some y;rw[aD4 (fun e=>by rw[e,hnew]at hi;cases hi)];exact hi⟩
  have hself:(ρ.addA (NR c k) x).atom (NR c k)=some x:=aD6 rfl;refine⟨ρ.addA (NR c k) x,⟨hle,rfl,rfl,aHH _,fun n v hn=>?_⟩,?_⟩
  ·by_cases he:n=NR c k
   ·subst he;rw[hself]at hn;injection hn with hn
    subst hn;refine .inr ⟨VJ c k,by rw[L5 c k hk];exact aD1 _,by rw[L5 c k hk];exact Nat.lt_succ_self _,gh,?_,h2⟩;rw[ai8 c k hk];exact hle.a (hat _ _ h1)
   ·exact .inl ((aD4 he).symm.trans hn)
  ·show aO (ρ.addA (NR c k) x) (.atom (NR c k))=some x;unfold aO;rw[hself];exact aD6 hone
 |.agg l,c,x,ρ,h,hat,hfr=>by
  obtain⟨ys,rfl,h⟩:=h;obtain⟨ρ',h1,h2⟩:=yH l c ys ρ h hat hfr;refine⟨ρ',h1,?_⟩;show aO ρ' (.agg (eW c l).1)=_;unfold aO;rw[h2]
 |.tup l,c,x,ρ,h,hat,hfr=>by
  obtain⟨ys,rfl,h⟩:=h;obtain⟨ρ',h1,h2⟩:=yH l c ys ρ h hat hfr;refine⟨ρ',h1,?_⟩;show aO ρ' (.tup (eW c l).1)=_;unfold aO;rw[h2]
theorem yH {B:aE}{G:Nat->Prop}:∀(p:List eG) (c:Nat) (x:List Value) (ρ:Env),kW B G w p x->(∀i y,B.A i=some y->ρ.atom i=some y)->(∀n,n%2=1->c<=n/2048->ρ.atom n=none)->
  ∃ρ',yG G w c (eW c p).2 ρ ρ'/\aT ρ' (eW c p).1=some x
 |[],c,x,ρ,h,_,_=>by
  have:x=[]:=h;subst this;exact⟨ρ,.refl _ _ _ _,rfl⟩
 |p::l,c,x,ρ,h,hat,hfr=>by
  obtain⟨y,r,rfl,h1,h2⟩:=h;obtain⟨ρ1,a1,a2⟩:=SV p c y ρ h1 hat hfr
  obtain⟨ρ2,b1,b2⟩:=yH l (SS c p).2 r ρ1 h2 (fun i y hi=>a1.le.a (hat i y hi)) (fun n ho hn=>by
   cases hv:ρ1.atom n with
   |none=>rfl
   |some v=>
    rcases a1.new n v hv with hx|⟨_,_,h3,_⟩
    ·rw[hfr n ho (aEI a1.cd hn)]at hx;cases hx
    ·omega)
  exact⟨ρ2,a1.trans b1,aG.2 ⟨y,r,jS b1.le _ a2,b2,rfl⟩⟩
end
structure dO where
 f:FuncId
 ps:List eG
 r:eG
def aK (B:aE)(P:Program)(E:dO):Prop:=
 lJ B E.ps/\∀w,eN B w->∀xs,kW B (fun _=>True) w E.ps xs->Calls P E.f xs.toArray w fun e w'=>∃x,e=.returned x/\fG B (fun g=>w.heap.size<=g) w' E.r x/\Below w.heap.size w w'
def bT (l:List dO):bM:=fun f args m=>match l.find? fun E=>Nat.beq f E.f&&EL 0 E.ps args with
 |some E=>match SS m.nc E.r with
  |(r,d)=>some (r,{m with nc:=d})
 |none=>none
theorem aX.of_more (h:bK ρ m w)(hb:Below w.heap.size w w')(hm:yG (fun g=>w.heap.size<=g) w' m.nc d ρ ρ'):aX ρ m w ρ' {m with nc:=d} w':=by
 have ha:∀g,dD ρ' {m with nc:=d} g->dD ρ m g:=by
  rintro g ⟨b,k,q,h1,h2,h3⟩;rw[hm.blk]at h2;exact⟨b,k,q,h1,h2,h3⟩
 have hold:∀g,dD ρ m g->g<w.heap.size:=by
  rintro g ⟨b,k,q,h1,h2,rfl⟩;obtain⟨q0,hc,hd⟩:=(h.live b k h1).at_;rw[hc]at h2;injection h2 with h2;subst h2
  exact hd
 refine⟨hm.le,⟨fun i hi=>by rw[hm.blk];exact h.nb i hi,fun i hi=>by rw[hm.cap];exact h.nc i (aEI hm.cd hi),fun b k hk=>(h.live b k hk).mono hm.le fun q hq=>?_,fun b b' k k' q q' h1 h2 h3 h4=>by rw[hm.blk]at h3 h4;exact h.inj b b' k k' q q' h1 h2 h3 h4,h.small⟩,
  fun g hg _=>hb.block g hg,fun g hg=> .inr (ha g hg),hb.size,hb.os,hb.tape,hb.output,aD1 _,fun i _=>by rw[hm.blk],fun _ k hk=> .inl ⟨k,hk⟩,hm.cd,fun n v hn=>?_,fun b k _ q hk _ hq=> .same (hb.block _ (hold _ ⟨b,k,q,hk,hq,rfl⟩))⟩
 ·exact hb.block _ (hold _ ⟨b,k,q,hk,hq,rfl⟩)
 ·rcases hm.new n v hn with hx|⟨h1,h2,h3,gh,h4,h5⟩
  ·exact .inl hx
  ·exact .inr ⟨h1,h2,h3,gh,h4,h5.mono fun g hg _=>⟨rfl,hg,fun hl=>by have:=hold g (ha g hl);omega⟩⟩
theorem bB {l:List dO}(h:∀E∈l,aK B P E):cH B P (bT l):=by
 intro f args m r m' hs ρ w xs hm hk hx;unfold bT at hs;split at hs
 case h_2=>cases hs
 rename_i E hf;obtain⟨hd,hE⟩:=h E (aE7 hf);have hc:=aFW hf;simp only[aD3]at hc;have:=aEA hc.1;subst this
 have hg:=yF (B:=B) (w:=w) (G:=fun _=>True) hk.at_ (fun n v hn ho _=>by
  obtain⟨_,gh,h1,h2⟩:=hk.rd n v hn ho;exact⟨gh,h1,h2.mono fun b _ _=>⟨rfl,trivial⟩⟩) E.ps args xs.toList hc.2 hd hx
 have ha:=hE w hk.under xs.toList hg;rw[aFP]at ha;injection hs with hs
 injection hs with e1 e2
 subst e1;subst e2;refine ha.mono ?_;rintro e w' ⟨x,rfl,hh,hb⟩
 obtain⟨ρ',h1,h2⟩:=SV (w:=w') E.r m.nc x ρ hh hk.at_ (fun n ho hn=>by
  cases hv:ρ.atom n with
  |none=>rfl
  |some v=>have:=(hk.rd n v hv ho).1;omega)
 exact⟨ρ',x,rfl,h2,.of_more hm hb h1⟩
def Env.base (B:aE):Env:=⟨fun _=>Option.none,fun _=>Option.none,B.A⟩
theorem sD (hh:∀i x,B.A i=some x->i%2≠1){call:bM}(hf:cH B P call){E:dO}{a:List AV}(ha:eW 0 E.ps=(a,c))(hw:lJ B E.ps)(hp:qC B E.r)(h:(match call E.f a {nc:=c}with
  |some (r,_)=>fN c E.r r
  |none=>false)=true):aK B P E:=by
 refine⟨hw,fun w hu xs hq=>?_⟩
 obtain⟨ρ1,a1,a2⟩:=yH (w:=w) E.ps 0 xs (Env.base B) hq (fun _ _ h=>h) (fun n ho _=>by
  cases hv:(Env.base B).atom n with
  |none=>rfl
  |some v=>exact absurd ho (hh n v hv))
 rw[ha]at a1 a2
 simp only at a1 a2
 split at h
 case h_2=>cases h
 rename_i r m' hr
 have hd:∀b,({nc:=c}:M).H.get b=none:=fun b=>rfl
 have hm:bK ρ1 {nc:=c} w:=⟨fun i _=>by rw[a1.blk];rfl,fun i _=>by rw[a1.cap];rfl,(fun b k hb=>by rw[hd]at hb;cases hb),(fun b _ k _ _ _ hb=>by rw[hd]at hb;cases hb),by show 0<=1000000;omega⟩
 have hj:∀g,¬dD ρ1 {nc:=c} g:=by
  rintro g ⟨b,k,q,hb,_⟩;rw[hd]at hb;cases hb
 have hk:eM B ρ1 {nc:=c} w:=⟨hu.size,hu.old,(fun g hl=>absurd hl (hj g)),(fun i x hi=>a1.le.a hi),(fun n v hn ho=>by
  rcases a1.new n v hn with hx|⟨_,_,h3,gh,h4,h5⟩
  ·exact absurd ho (hh n v hx)
  ·exact⟨h3,gh,h4,h5.mono fun g _ _=>⟨rfl,hj g⟩⟩),hh⟩
 refine(hf E.f a _ r m' hr ρ1 w xs.toArray hm hk (by simpa using a2)).mono ?_
 rintro e w' ⟨ρ',x,rfl,hx,S⟩
 refine⟨x,rfl,?_,S.os,S.tape,S.output,S.size,fun k hs=>S.keep k hs (hj k)⟩
 refine SU (c:=c) (fun i y hi=>S.le.a (a1.le.a hi)) (fun n v hn ho hc=>?_) E.r r x h hp hx
 rcases S.ats n v hn with hy|⟨_,_,_,gh,h4,h5⟩
 ·rcases a1.new n v hy with hz|⟨_,_,h3,_⟩
  ·exact absurd ho (hh n v hz)
  ·omega
 ·exact⟨gh,h4,h5.mono fun g hg _=>⟨rfl,hg.1⟩⟩
end
section
open Go Go.RowKit
variable {B:aE}{a b:Int}{r:Bool}
variable {P:Program}
def OP (l:List (Nat×Value)):Nat->Option Value:=fun i=>match l with
 |[]=>none
 |p::r=>if Nat.beq p.1 i then some p.2 else OP r i
def bU (w:World)(l:List (Nat×Value)):aE:=⟨fun _=>False,w,OP l⟩
theorem bG (w W:World)(l:List (Nat×Value)):eN (bU w l) W:=⟨fun _ h=>False.elim h,fun _ h=>False.elim h⟩
def vG (K:Nat->Prop)(w:World)(l:List (Nat×Value)):aE:=⟨K,w,OP l⟩
def VK (l:List (Nat×Value)):Bool:=l.all fun p=>!Nat.beq (p.1%2) 1
theorem L6:∀{l:List (Nat×Value)} {i:Nat} {x:Value},OP l i=some x->(i,x)∈l
 |[],_,_,h=>by cases h
 |p::r,i,x,h=>by
  unfold OP at h;by_cases hp:Nat.beq p.1 i=true
  ·simp only[hp,if_true]at h;injection h with h
   have:=aEA hp;subst this;subst h;exact aEH
  ·simp only[hp]at h;exact aEM _ (L6 h)
theorem qY {l:List (Nat×Value)}(h:VK l=true):∀i x,OP l i=some x->i%2≠1:=by
 intro i x hx e;have:=aD7.1 h _ (L6 hx);simp only[e]at this
 cases this
def sv (B:aE):AV->Option Value
 |.lit v=>some v
 |.atom n=>match B.A n with
  |some v=>if v.oneCell'=true then some v else none
  |none=>none
 |_=>none
theorem lT {ρ:Env}(h:Has B ρ):∀{a:AV} {x:Value},sv B a=some x->aO ρ a=some x
 |.lit v,x,hx=>hx
 |.atom n,x,hx=>by
  unfold sv at hx;simp only at hx
  cases hb:B.A n with
  |none=>rw[hb]at hx;cases hx
  |some v=>
   rw[hb]at hx
   unfold aO
   rw[h n v hb]
   exact hx
 |.ptr _ _,_,hx=>by cases hx
 |.slc _ _ _ _ _,_,hx=>by cases hx
 |.cut _ _ _ _ _,_,hx=>by cases hx
 |.elp _ _,_,hx=>by cases hx
 |.mp _,_,hx=>by cases hx
 |.fn _ _ _,_,hx=>by cases hx
 |.ifc _ _,_,hx=>by cases hx
 |.agg _,_,hx=>by cases hx
 |.tup _,_,hx=>by cases hx
structure YT where
 op:BinOp
 a:AV
 b:AV
 r:AV
structure UnF where
 op:UnOp
 a:AV
 r:AV
structure MxF where
 a:AV
 b:AV
 r:AV
structure LnF where
 k:Nat
 r:AV
def wT (P:Program)(B:aE)(F:YT):Prop:=∃x y v,sv B F.a=some x/\sv B F.b=some y/\sv B F.r=some v/\∀t ox oy w,(do eqGuard F.op t ox oy x y;binOp F.op t x y).run P w=.ok v w
def auW (P:Program)(B:aE)(F:UnF):Prop:=∃x v,sv B F.a=some x/\sv B F.r=some v/\∀w,(Op.unary F.op x).run P w=.ok v w
def auX (B:aE)(F:MxF):Prop:=∃x y:Int,sv B F.a=some (.int .i64 x)/\sv B F.b=some (.int .i64 y)/\sv B F.r=some (.int .i64 (max x y))
def VL (B:aE)(F:LnF):Prop:=∃xs:Array Value,B.A (gid F.k)=some (.agg xs)/\sv B F.r=some (.int .i64 xs.size)
def VM:BinOp->BinOp->Bool
 |.add,.add|.sub,.sub|.mul,.mul|.eql,.eql|.neq,.neq|.lss,.lss|.leq,.leq|.gtr,.gtr|.geq,.geq|.rem,.rem=>true
 |_,_=>false
theorem SW {a b:BinOp}(h:VM a b=true):a=b:=by
 cases a<;>cases b<;>first|rfl|cases h
def acY:UnOp->UnOp->Bool
 |.neg,.neg|.not,.not=>true
 |_,_=>false
theorem YU {a b:UnOp}(h:acY a b=true):a=b:=by
 cases a<;>cases b<;>first|rfl|cases h
def mR (b:List YT)(u:List UnF)(m:List MxF)(l:List LnF):Tb where
 bin:=fun op x y=>match b.find? fun F=>VM op F.op&&(jV x F.a&&jV y F.b)with
  |some F=>some F.r
  |none=>none
 un:=fun op x=>match u.find? fun F=>acY op F.op&&jV x F.a with
  |some F=>some F.r
  |none=>none
 mx:=fun xs=>match xs with
  |[x,y]=>match m.find? fun F=>jV x F.a&&jV y F.b with
   |some F=>some F.r
   |none=>none
  |_=>none
 ln:=fun k=>match l.find? fun F=>Nat.beq k F.k with
  |some F=>some F.r
  |none=>none
theorem bD {b:List YT}{u:List UnF}{m:List MxF}{l:List LnF}(hb:∀F∈b,wT P B F)(hu:∀F∈u,auW P B F)(hm:∀F∈m,auX B F)(hl:∀F∈l,VL B F):kY P B (mR b u m l):=by
 refine⟨fun op x y r h ρ hA X Y hx hy=>?_,fun op x r h ρ hA X hx=>?_,fun xs r h ρ hA ys hy=>?_,fun k r h=>?_,fun _ _ _ h=>(by cases h),fun _ _ h=>(by cases h)⟩
 ·simp only[mR]at h;split at h
  case h_2=>cases h
  rename_i F hf;injection h with h;subst h
  have hc:=aFW hf;simp only[aD3]at hc;obtain⟨h1,h2,h3⟩:=hc;have:=SW h1;subst this;have:=eF h2;subst this;have:=eF h3;subst this;obtain⟨a,c,v,k1,k2,k3,k4⟩:=hb F (aE7 hf);have e1:=lT hA k1;have e2:=lT hA k2;rw[hx]at e1;injection e1 with e1;subst e1
  rw[hy]at e2;injection e2 with e2;subst e2
  exact⟨v,lT hA k3,k4⟩
 ·simp only[mR]at h;split at h
  case h_2=>cases h
  rename_i F hf;injection h with h;subst h
  have hc:=aFW hf;simp only[aD3]at hc;obtain⟨h1,h2⟩:=hc;have:=YU h1;subst this;have:=eF h2;subst this;obtain⟨a,v,k1,k3,k4⟩:=hu F (aE7 hf);have e1:=lT hA k1;rw[hx]at e1;injection e1 with e1;subst e1
  exact⟨v,lT hA k3,k4⟩
 ·simp only[mR]at h;split at h
  case h_2=>cases h
  split at h
  case h_2=>cases h
  rename_i x y F hf;injection h with h;subst h
  have hc:=aFW hf;simp only[aD3]at hc;obtain⟨h2,h3⟩:=hc;have:=eF h2;subst this;have:=eF h3;subst this;obtain⟨a,c,k1,k2,k3⟩:=hm F (aE7 hf);obtain⟨p,q,e1,e2,rfl⟩:=aG.1 hy;obtain⟨p2,q2,e3,e4,rfl⟩:=aG.1 e2;rw[aT]at e4;injection e4 with e4;subst e4
  rw[lT hA k1]at e1;injection e1 with e1;subst e1
  rw[lT hA k2]at e3;injection e3 with e3;subst e3
  refine⟨_,lT hA k3,fun ts ty w=>?_⟩
  have:(if c>a then c else a)=max a c:=by
   by_cases ha:c>a
   ·rw[aD6 ha];omega
   ·rw[aD4 ha];omega
  simp[Builtin.max_,Builtin.max2,this]
 ·simp only[mR]at h;split at h
  case h_2=>cases h
  rename_i F hf;injection h with h;subst h
  have hc:=aFW hf;have:=aEA hc;subst this;obtain⟨xs,k1,k2⟩:=hl F (aE7 hf);exact⟨xs,k1,fun ρ hA=>lT hA k2⟩
structure ElF where
 k:Nat
 j:Nat
 r:AV
def auY (B:aE)(F:ElF):Prop:=∃(xs:Array Value) (v:Value),B.A (gid F.k)=some (.agg xs)/\xs.toList[F.j]?=some v/\sv B F.r=some v
def tbE (t:Tb)(l:List ElF):Tb:={t with el:=fun k j=>match l.find? fun F=>Nat.beq k F.k&&Nat.beq j F.j with
    |some F=>some F.r
    |none=>none}
theorem acZ {t:Tb}{l:List ElF}(ht:kY P B t)(hl:∀F∈l,auY B F):kY P B (tbE t l):=by
 refine⟨ht.bin,ht.un,ht.mx,ht.ln,fun k j r h=>?_,ht.mn⟩;simp only[tbE]at h;split at h
 case h_2=>cases h
 rename_i F hf;injection h with h;subst h
 have hc:=aFW hf;rw[aD3]at hc;have:=aEA hc.1;subst this;have:=aEA hc.2;subst this;obtain⟨xs,v,k1,k2,k3⟩:=hl F (aE7 hf);exact⟨xs,v,k1,k2,fun ρ hA=>lT hA k3⟩
def auZ (B:aE)(F:MxF):Prop:=∃x y:Int,sv B F.a=some (.int .i64 x)/\sv B F.b=some (.int .i64 y)/\sv B F.r=some (.int .i64 (min x y))
def tbM (t:Tb)(m:List MxF):Tb:={t with mn:=fun xs=>match xs with
    |[x,y]=>match m.find? fun F=>jV x F.a&&jV y F.b with
     |some F=>some F.r
     |none=>none
    |_=>none}
theorem EM {t:Tb}{m:List MxF}(ht:kY P B t)(hm:∀F∈m,auZ B F):kY P B (tbM t m):=by
 refine⟨ht.bin,ht.un,ht.mx,ht.ln,ht.el,fun xs r h ρ hA ys hy=>?_⟩;simp only[tbM]at h;split at h
 case h_2=>cases h
 split at h
 case h_2=>cases h
 rename_i x y F hf;injection h with h;subst h
 have hc:=aFW hf;simp only[aD3]at hc;obtain⟨h2,h3⟩:=hc;have:=eF h2;subst this;have:=eF h3;subst this;obtain⟨a,c,k1,k2,k3⟩:=hm F (aE7 hf);obtain⟨p,q,e1,e2,rfl⟩:=aG.1 hy;obtain⟨p2,q2,e3,e4,rfl⟩:=aG.1 e2;rw[aT]at e4;injection e4 with e4;subst e4
 rw[lT hA k1]at e1;injection e1 with e1;subst e1
 rw[lT hA k2]at e3;injection e3 with e3;subst e3
 refine⟨_,lT hA k3,fun ts ty w=>?_⟩
 have:(if c<a then c else a)=min a c:=by
  by_cases ha:c<a
  ·rw[aD6 ha];omega
  ·rw[aD4 ha];omega
 simp[Builtin.min_,Builtin.min2,this]
theorem ac0 {r:Int}(hb:b≠0)(h:a.tmod b=r)(t:TypeId)(ox oy:Operand)(w:World):(do eqGuard .rem t ox oy (.int .i64 a) (.int .i64 b);binOp .rem t (.int .i64 a) (.int .i64 b)).run P w=.ok (.int .i64 r) w:=by
 subst h;simp[eqGuard,binOp,Op.intDiv,hb]
theorem fO {r:Int}(h:IntKind.i64.wrap (a-b)=r)(t:TypeId)(ox oy:Operand)(w:World):(do eqGuard .sub t ox oy (.int .i64 a) (.int .i64 b);binOp .sub t (.int .i64 a) (.int .i64 b)).run P w=.ok (.int .i64 r) w:=by
 subst h;simp[eqGuard,binOp,Op.intArith]
theorem OQ {r:Int}(h:IntKind.i64.wrap (a+b)=r)(t:TypeId)(ox oy:Operand)(w:World):(do eqGuard .add t ox oy (.int .i64 a) (.int .i64 b);binOp .add t (.int .i64 a) (.int .i64 b)).run P w=.ok (.int .i64 r) w:=by
 subst h;simp[eqGuard,binOp,Op.intArith]
theorem qZ (h:decide (a<b)=r)(t:TypeId)(ox oy:Operand)(w:World):(do eqGuard .lss t ox oy (.int .i64 a) (.int .i64 b);binOp .lss t (.int .i64 a) (.int .i64 b)).run P w=.ok (.bool r) w:=by
 subst h;simp[eqGuard,binOp,Op.intCmp]
theorem tO (h:decide (a<=b)=r)(t:TypeId)(ox oy:Operand)(w:World):(do eqGuard .leq t ox oy (.int .i64 a) (.int .i64 b);binOp .leq t (.int .i64 a) (.int .i64 b)).run P w=.ok (.bool r) w:=by
 subst h;simp[eqGuard,binOp,Op.intCmp]
theorem fP (h:decide (b<a)=r)(t:TypeId)(ox oy:Operand)(w:World):(do eqGuard .gtr t ox oy (.int .i64 a) (.int .i64 b);binOp .gtr t (.int .i64 a) (.int .i64 b)).run P w=.ok (.bool r) w:=by
 subst h;simp[eqGuard,binOp,Op.intCmp]
theorem EN (h:decide (b<=a)=r)(t:TypeId)(ox oy:Operand)(w:World):(do eqGuard .geq t ox oy (.int .i64 a) (.int .i64 b);binOp .geq t (.int .i64 a) (.int .i64 b)).run P w=.ok (.bool r) w:=by
 subst h;simp[eqGuard,binOp,Op.intCmp]
theorem lA (h:(a ==b)=r)(t:TypeId)(ox oy:Operand)(w:World):(do eqGuard .eql t ox oy (.int .i64 a) (.int .i64 b);binOp .eql t (.int .i64 a) (.int .i64 b)).run P w=.ok (.bool r) w:=by
 subst h;simp[eqGuard,binOp,Op.intCmp]
theorem ac1 {r:Int}(h:IntKind.i64.wrap (0-a)=r)(w:World):(Op.unary .neg (.int .i64 a)).run P w=.ok (.int .i64 r) w:=by
 subst h;simp[Op.unary,Op.intArith]
theorem wrap64 (x:Int)(h0:-9223372036854775808<=x)(h1:x<=9223372036854775807):IntKind.i64.wrap x=x:=by
 simp[IntKind.wrap,IntKind.bits,IntKind.signed];omega
end
section
open Go Go.RowKit
variable {P:Program}
def sB (l:List UInt8):Value:= .string ⟨l.toArray⟩
theorem ac2 (a b:ByteArray)(t:TypeId)(ox oy:Operand)(w:World):(do eqGuard .eql t ox oy (.string a) (.string b);binOp .eql t (.string a) (.string b)).run P w=.ok (.bool (decide (a=b))) w:=by
 have hb:(a.toList ==b.toList)=decide (a=b):=by
  rw[ByteArray.toList_eq,ByteArray.toList_eq];by_cases h:a=b
  ·subst h;simp
  ·rw[aEC h,aFS];intro e;apply h
   cases a;cases b;congr;exact Array.toList_inj.1 e
 simp[eqGuard,binOp,Op.stringOp,hb]
end
section
open Go Go.RowKit
variable {B:aE}{call:bM}{f:FuncId}{nc0 c1 c2 b:Nat}{bs:List jR}{a:List AV}{chk:AV->M->Bool}{G:Nat->Prop}
variable {P:Program}
inductive PC where
 |p (p:eG)
 |ptr (b:Nat)
 |row (b n sz ci:Nat)
 |rox (b n sz:Nat)
 |any
def adS (c:Nat):PC->AV×Nat
 |.p p=>SS c p
 |.ptr b=>(.ptr b 0,c)
 |.row b n sz ci=>(.slc b 0 n sz (.lo ci 0),c)
 |.rox _ _ _=>(.lit (.bool false),c)
 |.any=>(.lit (.bool false),c)
def bX (c:Nat):List PC->List AV×Nat
 |[]=>([],c)
 |x::l=>match adS c x with
  |(a,d)=>match bX d l with
   |(as,e)=>(a::as,e)
structure IB where
 t:TypeId
 cs:List PC
 tg:Bool
def bQ (c:Nat):List IB->List jR×Nat
 |[]=>([],c)
 |x::l=>match bX c x.cs with
  |(as,d)=>match bQ d l with
   |(bs,e)=>(.cells x.t as x.tg::bs,e)
def IsC (ρ0:Env)(B:aE)(G:Nat->Prop)(w:World):PC->Value->Prop
 |.p p,x=>fG B G w p x
 |.ptr b,x=>aO ρ0 (.ptr b 0)=some x
 |.row b n sz ci,x=>aO ρ0 (.slc b 0 n sz (.lo ci 0))=some x
 |.rox _ _ _,_=>False
 |.any,_=>False
def lY (ρ0:Env)(B:aE)(G:Nat->Prop)(w:World):List PC->List Value->Prop
 |[],ys=>ys=[]
 |p::l,ys=>∃y r,ys=y::r/\IsC ρ0 B G w p y/\lY ρ0 B G w l r
section
variable {B:aE}{G:Nat->Prop}{w:World}{ρ0:Env}
theorem ajQ:∀(p:PC) (c:Nat) (x:Value) (ρ:Env),IsC ρ0 B G w p x->ρ0.le ρ->(∀i y,B.A i=some y->ρ.atom i=some y)->(∀n,n%2=1->c<=n/2048->ρ.atom n=none)->
  ∃ρ',yG G w c (adS c p).2 ρ ρ'/\aO ρ' (adS c p).1=some x
 |.p p,c,x,ρ,h,_,hat,hfr=>SV p c x ρ h hat hfr
 |.ptr b,c,x,ρ,h,hle,_,_=>⟨ρ,.refl _ _ _ _,jS hle _ h⟩
 |.row b n sz ci,c,x,ρ,h,hle,_,_=>⟨ρ,.refl _ _ _ _,jS hle _ h⟩
 |.rox _ _ _,_,_,_,h,_,_,_=>False.elim h
 |.any,_,_,_,h,_,_,_=>False.elim h
theorem yG.fr {c d:Nat}{ρ ρ':Env}(a1:yG G w c d ρ ρ')(hfr:∀n,n%2=1->c<=n/2048->ρ.atom n=none):∀n,n%2=1->d<=n/2048->ρ'.atom n=none:=fun n ho hn=>by
 cases hv:ρ'.atom n with
 |none=>rfl
 |some v=>
  rcases a1.new n v hv with hx|⟨_,_,h3,_⟩
  ·rw[hfr n ho (aEI a1.cd hn)]at hx;cases hx
  ·omega
theorem yQ:∀(p:List PC) (c:Nat) (x:List Value) (ρ:Env),lY ρ0 B G w p x->ρ0.le ρ->(∀i y,B.A i=some y->ρ.atom i=some y)->(∀n,n%2=1->c<=n/2048->ρ.atom n=none)->
  ∃ρ',yG G w c (bX c p).2 ρ ρ'/\aT ρ' (bX c p).1=some x
 |[],c,x,ρ,h,_,_,_=>by
  have:x=[]:=h;subst this;exact⟨ρ,.refl _ _ _ _,rfl⟩
 |p::l,c,x,ρ,h,hle,hat,hfr=>by
  obtain⟨y,r,rfl,h1,h2⟩:=h;obtain⟨ρ1,a1,a2⟩:=ajQ p c y ρ h1 hle hat hfr;obtain⟨ρ2,b1,b2⟩:=yQ l (adS c p).2 r ρ1 h2 (hle.trans a1.le) (fun i y hi=>a1.le.a (hat i y hi)) (a1.fr hfr);exact⟨ρ2,a1.trans b1,aG.2 ⟨y,r,jS b1.le _ a2,b2,rfl⟩⟩
structure MG (ρ0:Env) (B:aE) (G:Nat->Prop) (w:World) (j:Nat) (x:IB):Prop where
 ex:∃g o z arr vs,ρ0.blk j=some (g,o,z,x.cs.length)/\w.heap[g]?=some (.cells arr x.t (0,0))/\arr.size=z/\o+x.cs.length<=z/\lY ρ0 B G w x.cs vs/\(∀v∈vs,v.oneCell'=true)/\(∀i,i<x.cs.length->arr[o+i]?=vs[i]?)/\(x.tg=true->o=0/\z=x.cs.length)
theorem JY:∀(l:List PC) (c:Nat),(bX c l).1.length=l.length
 |[],_=>rfl
 |p::l,c=>by show(_::(bX (adS c p).2 l).1).length=_;simp[JY l]
theorem yR:∀(l:List IB) (c:Nat),(bQ c l).1.length=l.length
 |[],_=>rfl
 |p::l,c=>by show(_::(bQ (bX c p.cs).2 l).1).length=_;simp[yR l]
theorem MH:∀(l:List IB) (s c:Nat) (ρ:Env),(∀j x,l[j]?=some x->MG ρ0 B G w (s+j) x)->ρ0.le ρ->(∀i y,B.A i=some y->ρ.atom i=some y)->(∀n,n%2=1->c<=n/2048->ρ.atom n=none)->
  ∃ρ',yG G w c (bQ c l).2 ρ ρ'/\∀j k,(bQ c l).1[j]?=some k->gE ρ' w (s+j) k
 |[],s,c,ρ,_,_,_,_=>⟨ρ,.refl _ _ _ _,fun j k h=>by simp[bQ]at h⟩
 |p::l,s,c,ρ,h,hle,hat,hfr=>by
  obtain⟨g,o,z,arr,vs,e1,e2,e3,e4,e5,e6,e7,e8⟩:=(h 0 p rfl).ex;obtain⟨ρ1,a1,a2⟩:=yQ p.cs c vs ρ e5 hle hat hfr;obtain⟨ρ2,b1,b2⟩:=MH l (s+1) (bX c p.cs).2 ρ1 (fun j x hj=>by have:=h (j+1) x hj;rwa[show s+1+j=s+(j+1) by omega]) (hle.trans a1.le) (fun i y hi=>a1.le.a (hat i y hi)) (a1.fr hfr);refine⟨ρ2,a1.trans b1,fun j k hj=>?_⟩
  cases j with
  |zero=>
   have hk:some (jR.cells p.t (bX c p.cs).1 p.tg)=some k:=hj
   injection hk with hk
   subst hk
   have hl:=JY p.cs c
   exact⟨g,o,z,arr,vs,by rw[hl];exact(hle.trans (a1.trans b1).le).b e1,e2,e3,by rw[hl];exact e4,dN b1.le _ a2,e6,fun i hi=>e7 i (by rw[<-hl];exact hi),fun ht=>by rw[hl];exact e8 ht⟩
  |succ j=>
   have:=b2 j k hj
   rwa[show s+1+j=s+(j+1) by omega]at this
end
def tB (l:List jR):Tr jR:= .node (.node (.node .nil (l[3]?) .nil) (l[1]?) (.node .nil (l[5]?) .nil)) (l[0]?) (.node (.node .nil (l[4]?) .nil) (l[2]?) (.node .nil (l[6]?) .nil))
theorem VX (l:List jR)(b:Nat)(k:jR)(h:(tB l).get b=some k):l[b]?=some k:=by
 have hn:∀n,(Tr.nil:Tr jR).get n=none:=fun _=>rfl
 unfold tB at h;simp only[Tr.get_node,hn]at h
 repeat' split at h
 all_goals first
  |(cases h;done)
  |(have hb:b=0:=by omega
    subst hb;exact h)
  |(have hb:b=1:=by omega
    subst hb;exact h)
  |(have hb:b=2:=by omega
    subst hb;exact h)
  |(have hb:b=3:=by omega
    subst hb;exact h)
  |(have hb:b=4:=by omega
    subst hb;exact h)
  |(have hb:b=5:=by omega
    subst hb;exact h)
  |(have hb:b=6:=by omega
    subst hb;exact h)
theorem adT (l:List jR)(b:Nat)(h:b<7):(tB l).get b=l[b]?:=by
 have hn:∀n,(Tr.nil:Tr jR).get n=none:=fun _=>rfl
 unfold tB
 match b,h with
 |0,_=>simp[Tr.get_node,hn]
 |1,_=>simp[Tr.get_node,hn]
 |2,_=>simp[Tr.get_node,hn]
 |3,_=>simp[Tr.get_node,hn]
 |4,_=>simp[Tr.get_node,hn]
 |5,_=>simp[Tr.get_node,hn]
 |6,_=>simp[Tr.get_node,hn]
structure Out (B:aE) (G:Nat->Prop) (ρ0:Env) (w:World) (ρ':Env) (m':M) (w':World):Prop where
 rel:bK ρ' m' w'
 has:Has B ρ'
 fix:∀i q,ρ0.blk i=some q->ρ'.blk i=some q
 ats:∀n v,ρ'.atom n=some v->n%2=1->∃gh,ρ'.atom (gid (keyOf n))=some gh/\Sp (fun g=>(G g∨w.heap.size<=g)/\¬dD ρ' m' g) w' v gh
 os:w'.os=w.os
 tape:w'.tape=w.tape
 output:w'.output=w.output
 size:w.heap.size<=w'.heap.size
 keep:∀k,k<w.heap.size->(∀j q,ρ0.blk j=some q->q.1≠k)->w'.heap[k]?=w.heap[k]?
 live:∀g,dD ρ' m' g->w.heap.size<=g∨∃j q,ρ0.blk j=some q/\q.1=g
 capf:∀i c,ρ0.cap i=some c->ρ'.cap i=some c
def Env.ini (B:aE)(blk:Nat->Option (Nat×Nat×Nat×Nat))(cap:Nat->Option Nat):Env:=⟨blk,cap,B.A⟩
theorem ajR (ht:∀i x,B.A i=some x->i%2≠1)(hf:cH B P call){ib:List IB}{ps:List PC}(hq:bQ nc0 ib=(bs,c1))(hp:bX c1 ps=(a,c2))(h:(match call f a {H:=tB bs,nb:=ib.length,nc:=c2}with
   |some (r,m')=>chk r m'
   |none=>false)=true) (hlen:ib.length<=7) (blk:Nat->Option (Nat×Nat×Nat×Nat)) (cap:Nat->Option Nat) (hb:∀i,ib.length<=i->blk i=none) (hc:∀i,nc0<=i->cap i=none) (hA:∀b b' q q',blk b=some q->blk b'=some q'->b≠b'->q.1≠q'.1) (w:World) (hu:eN B w) (hK:∀b q,blk b=some q->¬B.K q.1) (hG:∀b q,blk b=some q->¬G q.1) (hH:∀j x,ib[j]?=some x->MG (Env.ini B blk cap) B G w j x) (xs:List Value) (hI:lY (Env.ini B blk cap) B G w ps xs):
  Calls P f xs.toArray w fun e w'=>∃x ρ' r m',e=.returned x/\chk r m'=true/\aO ρ' r=some x/\Out B G (Env.ini B blk cap) w ρ' m' w'/\∀j q e cs tg,blk j=some q->bs[j]?=some (.cells e cs tg)->m'.H.get j=some (.cells e cs tg)->w'.heap[q.1]?=w.heap[q.1]?:=by
 have hh:∀n,n%2=1->nc0<=n/2048->(Env.ini B blk cap).atom n=none:=fun n ho _=>by
  cases hv:(Env.ini B blk cap).atom n with
  |none=>rfl
  |some v=>exact absurd ho (ht n v hv)
 obtain⟨ρ1,a1,a2⟩:=MH (B:=B) (G:=G) (w:=w) (ρ0:=Env.ini B blk cap) ib 0 nc0 _ (fun j x hj=>by rw[aEV];exact hH j x hj) (.refl _) (fun _ _ h=>h) hh
 have hl:=yR ib nc0
 rw[hq]at a1 a2 hl
 simp only at a1 a2 hl
 obtain⟨ρ2,b1,b2⟩:=yQ (B:=B) (G:=G) (w:=w) (ρ0:=Env.ini B blk cap) ps c1 xs ρ1 hI a1.le (fun i y hi=>a1.le.a hi) (a1.fr hh)
 rw[hp]at b1 b2
 simp only at b1 b2
 have ab:=a1.trans b1
 have hd:ρ2.blk=blk:=ab.blk
 have hs:ρ2.cap=cap:=ab.cap
 let m0:M:={H:=tB bs,nb:=ib.length,nc:=c2}
 have hm:bK ρ2 m0 w:=by
  refine⟨fun i hi=>by rw[hd];exact hb i hi,fun i hi=>by rw[hs];exact hc i (aEI ab.cd hi),fun b k hk=>?_,fun b b' k k' q q' _ _ h3 h4 hJ=>by rw[hd]at h3 h4;exact hA b b' q q' h3 h4 hJ,by show ib.length<=1000000;omega⟩;have:=a2 b k (VX bs b k hk);rw[aEV]at this;exact this.mono b1.le fun _ _=>rfl
 have ha:∀g,dD ρ2 m0 g->∃b q,blk b=some q/\q.1=g:=by
  rintro g ⟨b,k,q,h1,h2,rfl⟩;rw[hd]at h2;exact⟨b,q,h2,rfl⟩
 have hB:∀g,G g->¬dD ρ2 m0 g:=fun g hg hl=>by
  obtain⟨b,q,h1,rfl⟩:=ha g hl;exact hG b q h1 hg
 have hk:eM B ρ2 m0 w:=⟨hu.size,hu.old,fun g hl=>by
   obtain⟨b,q,h1,rfl⟩:=ha g hl;exact hK b q h1,fun i x hi=>ab.le.a hi,fun n v hn ho=>by
  rcases ab.new n v hn with hx|⟨_,_,h3,gh,h4,h5⟩
  ·exact absurd ho (ht n v hx)
  ·exact⟨h3,gh,h4,h5.mono fun g hg _=>⟨rfl,hB g hg⟩⟩,ht⟩
 split at h
 case h_2=>cases h
 rename_i r m' hr
 refine(hf f a m0 r m' hr ρ2 w xs.toArray hm hk (by rw[aF3];exact b2)).mono ?_
 rintro e w' ⟨ρ',x,rfl,hx,S⟩
 refine⟨x,ρ',r,m',rfl,h,hx,⟨S.rel,fun i y hi=>S.le.a (ab.le.a hi),fun i q hi=>?_,fun n v hn ho=>?_,S.os,S.tape,S.output,S.size,fun k hL hM=>S.keep k hL (fun hl=>?_),fun g hg=>?_,fun i c hi=>S.le.c (by rw[hs];exact hi)⟩,fun j q e cs tg hq hj hD=>?_⟩
 ·exact S.le.b (by rw[hd];exact hi)
 ·rcases S.ats n v hn with hy|⟨_,_,_,gh,h4,h5⟩
  ·rcases ab.new n v hy with hz|⟨_,_,h3,gh,h4,h5⟩
   ·exact absurd ho (ht n v hz)
   ·refine⟨gh,S.le.a h4,h5.mono fun g hg hN=>⟨S.keep g hN (hB g hg),.inl hg,fun hl=>?_⟩⟩;rcases S.fresh g hl with hy|hy
    ·omega
    ·exact hB g hg hy
  ·exact⟨gh,h4,h5.mono fun g hg _=>⟨rfl,.inr hg.1,hg.2⟩⟩
 ·obtain⟨b,q,h1,h2⟩:=ha k hl;exact hM b q h1 h2
 ·rcases S.fresh g hg with hy|hy
  ·exact .inl hy
  ·exact .inr (ha g hy)
 ·have hP:j<ib.length:=by
   rcases aEU j ib.length with hx|hx
   ·exact hx
   ·rw[hb j hx]at hq;cases hq
  have hE:(tB bs).get j=some (.cells e cs tg):=by rw[adT bs j (by omega)];exact hj
  have hC:ρ2.blk j=some q:=by rw[hd];exact hq
  obtain⟨g,o,z,arr,ys,e1,e2,e3,e4,e5,e6,e7,_⟩:=hm.live j _ hE;obtain⟨g',o',z',aa,ya,k1,k2,k3,k4,k5,k6,k7,_⟩:=S.rel.live j _ hD;rw[hC]at e1;injection e1 with e1
  rw[S.le.b hC]at k1;injection k1 with k1
  subst e1;injection k1 with ka k1
  injection k1 with kb k1
  injection k1 with kc kd
  subst ka kb kc;have hO:=dN S.le _ e5;rw[hO]at k5;injection k5 with k5
  subst k5;obtain⟨ad,j1,j2,j3⟩:=S.out j _ _ _ hE hD hC arr e e2;rw[k2]at j1;injection j1 with j1
  injection j1 with j1
  subst j1;show w'.heap[g]?=w.heap[g]?;rw[k2,e2];congr 2;refine aGQ (aF1 fun i=>?_);rw[aFK,aFK];rcases aEU i o with hi|hi
  ·exact j3 i (.inl hi)
  ·rcases aEU i (o+cs.length)with hF|hF
   ·have:=(k7 (i-o) (by omega)).trans (e7 (i-o) (by omega)).symm;rwa[show o+(i-o)=i by omega]at this
   ·exact j3 i (.inr hF)
theorem BA (hf:∀i x,B.A i=some x->i%2≠1)(ha:cH B P call){ib:List IB}{ps:List PC}(hq:bQ nc0 ib=(bs,c1))(hp:bX c1 ps=(a,c2))(h:(match call f a {H:=tB bs,nb:=ib.length,nc:=c2}with
   |some (r,m')=>chk r m'
   |none=>false)=true) (hlen:ib.length<=7) (blk:Nat->Option (Nat×Nat×Nat×Nat)) (cap:Nat->Option Nat) (hb:∀i,ib.length<=i->blk i=none) (hc:∀i,nc0<=i->cap i=none) (hd:∀b b' q q',blk b=some q->blk b'=some q'->b≠b'->q.1≠q'.1) (w:World) (hu:eN B w) (hK:∀b q,blk b=some q->¬B.K q.1) (hG:∀b q,blk b=some q->¬G q.1) (hg:∀j x,ib[j]?=some x->MG (Env.ini B blk cap) B G w j x) (xs:List Value) (hh:lY (Env.ini B blk cap) B G w ps xs):
  Calls P f xs.toArray w fun e w'=>∃x ρ' r m',e=.returned x/\chk r m'=true/\aO ρ' r=some x/\Out B G (Env.ini B blk cap) w ρ' m' w':=
 (ajR hf ha hq hp h hlen blk cap hb hc hd w hu hK hG hg xs hh).mono fun e w' ⟨x,ρ',r,m',h1,h2,h3,h4,_⟩=>⟨x,ρ',r,m',h1,h2,h3,h4⟩
def CV:PC->AV->Bool
 |.p p,a=>fN 0 p a
 |.ptr b,.ptr b' o=>Nat.beq b b'&&Nat.beq o 0
 |.row b n sz _,.slc b' o n' sz' (.lo _ _)=>Nat.beq b b'&&(Nat.beq n n'&&(Nat.beq sz sz'&&Nat.beq o 0))
 |.rox b n sz,.slc b' o n' sz' c=>Nat.beq b b'&&(Nat.beq n n'&&(Nat.beq sz sz'&&(Nat.beq o 0&&(match c with|.ex c=>Nat.ble c 9223372036854775807|_=>true))))
 |.any,_=>true
 |_,_=>false
def yS:List PC->List AV->Bool
 |[],_=>true
 |p::l,a::r=>CV p a&&yS l r
 |_,_=>false
def WfC (B:aE):PC->Prop
 |.p p=>qC B p
 |_=>True
def hU (B:aE):List PC->Prop
 |[]=>True
 |p::l=>WfC B p/\hU B l
def dE (m:M)(b:Nat)(t:TypeId)(qs:List PC):Bool:=match m.H.get b with
 |some (.cells t' cs _)=>Nat.beq t' t&&yS qs cs
 |_=>false
def PJ (ρ:Env)(B:aE)(G:Nat->Prop)(w:World):PC->Value->Prop
 |.p p,x=>fG B G w p x
 |.ptr b,x=>∃g o z m,ρ.blk b=some (g,o,z,m)/\x=.pointer (some ⟨g,o,none⟩)
 |.row b n sz _,x=>∃g o z m c,ρ.blk b=some (g,o,z,m)/\x=.slice (some ⟨g,o,none⟩) n c/\(n<=c/\c<=9223372036854775807)/\m<=c*sz/\o+c*sz<=z
 |.rox b n sz,x=>∃g o z m c,ρ.blk b=some (g,o,z,m)/\x=.slice (some ⟨g,o,none⟩) n c/\(n<=c/\c<=9223372036854775807)/\(o+c*sz<=z∨c*sz<=m)
 |.any,_=>True
def gT (ρ:Env)(B:aE)(G:Nat->Prop)(w:World):List PC->List Value->Prop
 |[],_=>True
 |p::l,ys=>∃y r,ys=y::r/\PJ ρ B G w p y/\gT ρ B G w l r
section
variable {B:aE}{G:Nat->Prop}{w w':World}{ρ0 ρ':Env}{m':M}
theorem Out.mat (h:Out B G ρ0 w ρ' m' w'):∀(p:PC) (a:AV) (x:Value),CV p a=true->WfC B p->aO ρ' a=some x->PJ ρ' B (fun g=>(G g∨w.heap.size<=g)/\¬dD ρ' m' g) w' p x
 |.p p,a,x,hm,hw,hx=>SU (B:=B) h.has (fun n v hn ho _=>h.ats n v hn ho) p a x hm hw hx
 |.ptr b,a,x,hm,_,hx=>by
  cases a<;>simp only[CV,aE0,aD3]at hm
  rename_i b' o;have e1:=aEA hm.1;have e2:=aEA hm.2;subst e1 e2;unfold aO at hx
  cases hb:ρ'.blk b with
  |none=>rw[hb]at hx;cases hx
  |some q=>
   obtain⟨g,o,z,m⟩:=q
   rw[hb]at hx
   injection hx with hx
   exact⟨g,o,z,m,hb,hx.symm⟩
 |.row b n sz ci,a,x,hm,_,hx=>by
  cases a<;>simp only[CV,aE0]at hm
  rename_i b' o n' sa c
  cases c with
  |ex c=>simp only[CV,aE0]at hm
  |lo i k=>
   simp only[CV,aD3]at hm
   have e1:=aEA hm.1
   have e2:=aEA hm.2.1
   have e3:=aEA hm.2.2.1
   have e4:=aEA hm.2.2.2
   subst e1 e2 e3 e4
   unfold aO fT at hx
   simp only at hx
   split at hx
   ·rename_i g o0 z m κ hb hc;split at hx
    ·rename_i hh;injection hx with hx
     exact⟨g,o0,z,m,κ-k,hb,by rw[<-hx,aE2],by omega,by have:=hh.2.1;omega,by have:=hh.2.2;omega⟩
    ·cases hx
   ·cases hx
 |.rox b n sz,a,x,hm,_,hx=>by
  cases a<;>simp only[CV,aE0]at hm
  rename_i b' o n' sa c;simp only[aD3]at hm;have e1:=aEA hm.1;have e2:=aEA hm.2.1;have e3:=aEA hm.2.2.1;have e4:=aEA hm.2.2.2.1;have e5:=hm.2.2.2.2;subst e1 e2 e3 e4;unfold aO fT at hx
  cases c with
  |ex c=>
   simp only at hx
   split at hx
   ·rename_i g o0 z m hb;split at hx
    ·rename_i hh;injection hx with hx
     exact⟨g,o0,z,m,c,hb,by rw[<-hx,aE2],⟨hh.1,aEJ e5⟩,.inr (by have:=hh.2;omega)⟩
    ·cases hx
   ·cases hx
  |lo i k=>
   simp only at hx
   split at hx
   ·rename_i g o0 z m κ hb hc;split at hx
    ·rename_i hh;injection hx with hx
     exact⟨g,o0,z,m,κ-k,hb,by rw[<-hx,aE2],by omega,.inl (by have:=hh.2.2;omega)⟩
    ·cases hx
   ·cases hx
 |.any,_,_,_,_,_=>trivial
theorem Out.mats (h:Out B G ρ0 w ρ' m' w'):∀(p:List PC) (a:List AV) (x:List Value),yS p a=true->hU B p->aT ρ' a=some x->gT ρ' B (fun g=>(G g∨w.heap.size<=g)/\¬dD ρ' m' g) w' p x/\p.length<=x.length
 |[],_,_,_,_,_=>⟨trivial,aES _⟩
 |_::_,[],_,hm,_,_=>by cases hm
 |p::l,a::r,x,hm,hw,hx=>by
  unfold yS at hm;rw[aD3]at hm;obtain⟨y,ys,h1,h2,rfl⟩:=aG.1 hx;obtain⟨k1,k2⟩:=h.mats l r ys hm.2 hw.2 h2;exact⟨⟨y,ys,rfl,h.mat p a y hm.1 hw.1 h1,k1⟩,by simp;omega⟩
theorem Out.block (h:Out B G ρ0 w ρ' m' w'){t:TypeId}{qs:List PC}(hb:dE m' b t qs=true)(hw:hU B qs):
  ∃g o z m arr vs,ρ'.blk b=some (g,o,z,m)/\dD ρ' m' g/\w'.heap[g]?=some (.cells arr t (0,0))/\arr.size=z/\o+m<=z/\qs.length<=m/\gT ρ' B (fun g=>(G g∨w.heap.size<=g)/\¬dD ρ' m' g) w' qs vs/\qs.length<=vs.length/\(∀v∈vs,v.oneCell'=true)/\∀j,j<qs.length->arr[o+j]?=vs[j]?:=by
 unfold dE at hb
 cases hg:m'.H.get b with
 |none=>rw[hg]at hb;cases hb
 |some k=>
  rw[hg]at hb
  cases k with
  |map es=>cases hb
  |iter s p=>cases hb
  |cells t' cs tg=>
   simp only[aD3]at hb
   have:=aEA hb.1
   subst this
   obtain⟨g,o,z,arr,xs,k1,k2,k3,k4,k5,k6,k7,k8⟩:=h.rel.live b _ hg
   obtain⟨j1,j2⟩:=h.mats qs cs xs hb.2 hw k5
   have hl:=bN k5
   exact⟨g,o,z,cs.length,arr,xs,k1,⟨b,_,_,hg,k1,rfl⟩,k2,k3,k4,by omega,j1,j2,k6,fun j hj=>k7 j (by omega)⟩
theorem Out.ne (h:Out B G ρ0 w ρ' m' w'){b':Nat}{t t':TypeId}{qs qa:List PC}(h1:dE m' b t qs=true)(h2:dE m' b' t' qa=true)(ha:b≠b'){q q':Nat×Nat×Nat×Nat}(e1:ρ'.blk b=some q)(e2:ρ'.blk b'=some q'):q.1≠q'.1:=by
 unfold dE at h1 h2
 cases g1:m'.H.get b with
 |none=>rw[g1]at h1;cases h1
 |some k=>
  cases g2:m'.H.get b' with
  |none=>rw[g2]at h2;cases h2
  |some k'=>exact h.rel.inj b b' k k' q q' g1 g2 e1 e2 ha
end
end
section
open Go Go.RowKit
variable {ρ:Env}{n nc0 c1 c2:Nat}{tmps:Array Value}{B:aE}{ib:List IB}{ps:List PC}{bs:List jR}{a:List AV}{G:Nat->Prop}{call:bM}
variable {P:Program}
noncomputable def vS (n:Nat)(J:Nat->Value):Nat->Nat->Nat->Tr AV
 |0,_,_=> .nil
 |f+1,a,b=>if b<n then .node (vS n J f (2*a) (a+b)) (some (.lit (J b))) (vS n J f (2*a) (2*a+b))else .nil
theorem uT (n:Nat)(J:Nat->Value):∀(f a b i:Nat),(∀i,a*i+b<n->i+1<2^f)->gA (vS n J f a b) i=if a*i+b<n then some (.lit (J (a*i+b)))else none
 |0,a,b,i,h=>by
  unfold vS;rw[tF,aD4 (fun hx=>by have:=h i hx;simp at this)]
 |f+1,a,b,i,h=>by
  unfold vS;by_cases hb:b<n
  ·rw[aD6 hb,fJ];by_cases i0:i=0
   ·subst i0;rw[aD6 rfl,aD6 (by omega)];simp
   ·rw[aD4 i0];by_cases i1:i%2=1
    ·obtain⟨j,rfl⟩:∃j,i=2*j+1:=⟨i/2,by omega⟩;rw[aD6 i1,show(2*j+1)/2=j by omega,uT n J f (2*a) (a+b) j (fun q hq=>?_)]
     ·have e:2*a*j+(a+b)=a*(2*j+1)+b:=by rw[Nat.mul_add,aHI,<-aFU,aF0 a 2];omega
      rw[e]
     ·have e:2*a*q+(a+b)=a*(2*q+1)+b:=by rw[Nat.mul_add,aHI,<-aFU,aF0 a 2];omega
      have:=h (2*q+1) (by omega);rw[aGC]at this;omega
    ·obtain⟨j,rfl⟩:∃j,i=2*j+2:=⟨i/2-1,by omega⟩;rw[aD4 i1,show(2*j+2)/2-1=j by omega,uT n J f (2*a) (2*a+b) j (fun q hq=>?_)]
     ·have e:2*a*j+(2*a+b)=a*(2*j+2)+b:=by rw[Nat.mul_add,<-aFU,aF0 a 2];omega
      rw[e]
     ·have e:2*a*q+(2*a+b)=a*(2*q+2)+b:=by rw[Nat.mul_add,<-aFU,aF0 a 2];omega
      have:=h (2*q+2) (by omega);rw[aGC]at this;omega
  ·rw[aD4 hb,tF,aD4 (by omega)]
noncomputable def TR (n:Nat)(t:Tr AV):Nat->Nat->Bool:=
 Tr.rec (motive:=fun _=>Nat->Nat->Bool) (fun _ b=>Nat.ble n b) (fun _ v _ ia ic a b=>Nat.blt b n&&(v.isSome&&(ia (2*a) (a+b)&&ic (2*a) (2*a+b)))) t
theorem MU (n:Nat):∀(t:Tr AV) (a b i:Nat),TR n t a b=true->(gA t i).isSome=decide (a*i+b<n)
 |.nil,a,b,i,h=>by
  have:=aEJ (show Nat.ble n b=true from h);rw[tF,aEC (by omega)];rfl
 |.node l v r,a,b,i,h=>by
  have h:(Nat.blt b n&&(v.isSome&&(TR n l (2*a) (a+b)&&TR n r (2*a) (2*a+b))))=true:=h;simp only[aD3]at h;obtain⟨h1,h2,h3,h4⟩:=h;have h1:b<n:=aEJ h1;rw[fJ];by_cases i0:i=0
  ·subst i0;rw[aD6 rfl,h2,aE8 (by simpa using h1)]
  ·rw[aD4 i0];by_cases i1:i%2=1
   ·obtain⟨j,rfl⟩:∃j,i=2*j+1:=⟨i/2,by omega⟩;rw[aD6 i1,show(2*j+1)/2=j by omega,MU n l _ _ j h3];have e:2*a*j+(a+b)=a*(2*j+1)+b:=by rw[Nat.mul_add,aHI,<-aFU,aF0 a 2];omega
    rw[e]
   ·obtain⟨j,rfl⟩:∃j,i=2*j+2:=⟨i/2-1,by omega⟩;rw[aD4 i1,show(2*j+2)/2-1=j by omega,MU n r _ _ j h4];have e:2*a*j+(2*a+b)=a*(2*j+2)+b:=by rw[Nat.mul_add,<-aFU,aF0 a 2];omega
    rw[e]
theorem PZ {t:Tr AV}(h:TR n t 1 0=true)(hr:fL ρ t tmps):tmps.size=n:=by
 have key:∀i,(i<n)↔i<tmps.size:=fun i=>by
  have h1:=MU n t 1 0 i h;have h2:=hr i
  cases hg:gA t i with
  |none=>
   rw[hg]at h1 h2
   have h3:=aFL.1 h2
   have h4:=aGG h1.symm
   omega
  |some v=>
   rw[hg]at h1 h2
   obtain⟨y,h3,_⟩:=h2
   have h3:=(aD5.1 h3).1
   have h4:=aE3 h1.symm
   omega
 have h1:=key n;have h2:=key tmps.size;omega
noncomputable def FW:List Nat->List AV->Tr AV->Tr AV
 |k::ks,v::vs,t=>FW ks vs (AA v t k)
 |_,_,t=>t
theorem BC:∀(ks:List Nat) (vs:List AV) (xs:List Value) (t:Tr AV),aT ρ vs=some xs->(∀(j k:Nat),ks[j]?=some k->∃x,xs[j]?=some x/\tmps[k]?=some x)->fL ρ t tmps->fL ρ (FW ks vs t) tmps
 |[],_,_,_,_,_,h=>h
 |_::_,[],_,_,_,_,h=>h
 |k::ks,v::vs,xs,t,hg,hs,h=>by
  obtain⟨y,ys,h1,h2,rfl⟩:=aG.1 hg;refine BC ks vs ys (AA v t k) h2 (fun j k' hj=>hs (j+1) k' hj) ?_;obtain⟨x,hx,hk⟩:=hs 0 k rfl;injection hx with hx
  subst hx;have:=h.set k h1
  have e:tmps.setIfInBounds k y=tmps:=by
   refine aGQ (aF1 fun i=>?_);rw[aFK,aFK,aGA];by_cases ha:k=i
   ·subst ha;rw[aD6 rfl,aD6 (aD5.1 hk).1,hk]
   ·rw[aD4 ha]
  rwa[e]at this
theorem FX (hr:∀i x,B.A i=some x->i%2≠1)(hq:bQ nc0 ib=(bs,c1))(hp:bX c1 ps=(a,c2))(hlen:ib.length<=7)(blk:Nat->Option (Nat×Nat×Nat×Nat))(cap:Nat->Option Nat)(hb:∀i,ib.length<=i->blk i=none)(hc:∀i,nc0<=i->cap i=none)(hs:∀b b' q q',blk b=some q->blk b'=some q'->b≠b'->q.1≠q'.1)(w:World)(hu:eN B w)(hK:∀b q,blk b=some q->¬B.K q.1)(hG:∀b q,blk b=some q->¬G q.1)(hE:∀j x,ib[j]?=some x->MG (Env.ini B blk cap) B G w j x)(xs:List Value)(hF:lY (Env.ini B blk cap) B G w ps xs):
  ∃ρ2,bK ρ2 {H:=tB bs,nb:=ib.length,nc:=c2} w/\eM B ρ2 {H:=tB bs,nb:=ib.length,nc:=c2} w/\aT ρ2 a=some xs/\
   ∀ρ' m' w',aX ρ2 {H:=tB bs,nb:=ib.length,nc:=c2} w ρ' m' w'->Out B G (Env.ini B blk cap) w ρ' m' w'/\∀j q e cs tg,blk j=some q->bs[j]?=some (.cells e cs tg)->m'.H.get j=some (.cells e cs tg)->w'.heap[q.1]?=w.heap[q.1]?:=by
 have hf:∀n,n%2=1->nc0<=n/2048->(Env.ini B blk cap).atom n=none:=fun n ho _=>by
  cases hv:(Env.ini B blk cap).atom n with
  |none=>rfl
  |some v=>exact absurd ho (hr n v hv)
 obtain⟨ρ1,a1,a2⟩:=MH (B:=B) (G:=G) (w:=w) (ρ0:=Env.ini B blk cap) ib 0 nc0 _ (fun j x hj=>by rw[aEV];exact hE j x hj) (.refl _) (fun _ _ h=>h) hf
 have hl:=yR ib nc0
 rw[hq]at a1 a2 hl
 simp only at a1 a2 hl
 obtain⟨ρ2,b1,b2⟩:=yQ (B:=B) (G:=G) (w:=w) (ρ0:=Env.ini B blk cap) ps c1 xs ρ1 hF a1.le (fun i y hi=>a1.le.a hi) (a1.fr hf)
 rw[hp]at b1 b2
 simp only at b1 b2
 have ab:=a1.trans b1
 have hd:ρ2.blk=blk:=ab.blk
 have hh:ρ2.cap=cap:=ab.cap
 let m0:M:={H:=tB bs,nb:=ib.length,nc:=c2}
 have hm:bK ρ2 m0 w:=by
  refine⟨fun i hi=>by rw[hd];exact hb i hi,fun i hi=>by rw[hh];exact hc i (aEI ab.cd hi),fun b k hk=>?_,fun b b' k k' q q' _ _ h3 h4 hH=>by rw[hd]at h3 h4;exact hs b b' q q' h3 h4 hH,by show ib.length<=1000000;omega⟩;have:=a2 b k (VX bs b k hk);rw[aEV]at this;exact this.mono b1.le fun _ _=>rfl
 have ha:∀g,dD ρ2 m0 g->∃b q,blk b=some q/\q.1=g:=by
  rintro g ⟨b,k,q,h1,h2,rfl⟩;rw[hd]at h2;exact⟨b,q,h2,rfl⟩
 have ht:∀g,G g->¬dD ρ2 m0 g:=fun g hg hl=>by
  obtain⟨b,q,h1,rfl⟩:=ha g hl;exact hG b q h1 hg
 have hk:eM B ρ2 m0 w:=⟨hu.size,hu.old,fun g hl=>by
   obtain⟨b,q,h1,rfl⟩:=ha g hl;exact hK b q h1,fun i x hi=>ab.le.a hi,fun n v hn ho=>by
  rcases ab.new n v hn with hx|⟨_,_,h3,gh,h4,h5⟩
  ·exact absurd ho (hr n v hx)
  ·exact⟨h3,gh,h4,h5.mono fun g hg _=>⟨rfl,ht g hg⟩⟩,hr⟩
 refine⟨ρ2,hm,hk,b2,fun ρ' m' w' S=>⟨⟨S.rel,fun i y hi=>S.le.a (ab.le.a hi),fun i q hi=>?_,fun n v hn ho=>?_,S.os,S.tape,S.output,S.size,fun k hI hJ=>S.keep k hI (fun hl=>?_),fun g hg=>?_,fun i c hi=>S.le.c (by rw[hh];exact hi)⟩,fun j q e cs tg hq hj hB=>?_⟩⟩
 ·exact S.le.b (by rw[hd];exact hi)
 ·rcases S.ats n v hn with hy|⟨_,_,_,gh,h4,h5⟩
  ·rcases ab.new n v hy with hz|⟨_,_,h3,gh,h4,h5⟩
   ·exact absurd ho (hr n v hz)
   ·refine⟨gh,S.le.a h4,h5.mono fun g hg hL=>⟨S.keep g hL (ht g hg),.inl hg,fun hl=>?_⟩⟩;rcases S.fresh g hl with hy|hy
    ·omega
    ·exact ht g hg hy
  ·exact⟨gh,h4,h5.mono fun g hg _=>⟨rfl,.inr hg.1,hg.2⟩⟩
 ·obtain⟨b,q,h1,h2⟩:=ha k hl;exact hJ b q h1 h2
 ·rcases S.fresh g hg with hy|hy
  ·exact .inl hy
  ·exact .inr (ha g hy)
 ·have hN:j<ib.length:=by
   rcases aEU j ib.length with hx|hx
   ·exact hx
   ·rw[hb j hx]at hq;cases hq
  have hC:(tB bs).get j=some (.cells e cs tg):=by rw[adT bs j (by omega)];exact hj
  have hA:ρ2.blk j=some q:=by rw[hd];exact hq
  obtain⟨g,o,z,arr,ys,e1,e2,e3,e4,e5,e6,e7,_⟩:=hm.live j _ hC;obtain⟨g',o',z',aa,ya,k1,k2,k3,k4,k5,k6,k7,_⟩:=S.rel.live j _ hB;rw[hA]at e1;injection e1 with e1
  rw[S.le.b hA]at k1;injection k1 with k1
  subst e1;injection k1 with ka k1
  injection k1 with kb k1
  injection k1 with kc kd
  subst ka kb kc;have hM:=dN S.le _ e5;rw[hM]at k5;injection k5 with k5
  subst k5;obtain⟨ad,j1,j2,j3⟩:=S.out j _ _ _ hC hB hA arr e e2;rw[k2]at j1;injection j1 with j1
  injection j1 with j1
  subst j1;show w'.heap[g]?=w.heap[g]?;rw[k2,e2];congr 2;refine aGQ (aF1 fun i=>?_);rw[aFK,aFK];rcases aEU i o with hi|hi
  ·exact j3 i (.inl hi)
  ·rcases aEU i (o+cs.length)with hD|hD
   ·have:=(k7 (i-o) (by omega)).trans (e7 (i-o) (by omega)).symm;rwa[show o+(i-o)=i by omega]at this
   ·exact j3 i (.inr hD)
def zE (bs:List jR)(m:M):Bool:=(List.range bs.length).all fun j=>match bs[j]? with
 |some (.cells e cs tg)=>tN (m.H.get j) (some (.cells e cs tg))
 |_=>false
theorem mL (hn:∀i x,B.A i=some x->i%2≠1)(ha:cH B P call){f:FuncId}{sh:List AV->List AV}{sv:List Value->List Value}(ho:∀ρ a xs,aT ρ a=some xs->aT ρ (sh a)=some (sv xs)){chk:AV->M->Bool}(h:(match call f (sh (bX (bQ nc0 ib).2 ps).1) {H:=tB (bQ nc0 ib).1,nb:=ib.length,nc:=(bX (bQ nc0 ib).2 ps).2}with
   |some (r,m')=>chk r m'&&zE (bQ nc0 ib).1 m'
   |none=>false)=true) (hlen:ib.length<=7) (blk:Nat->Option (Nat×Nat×Nat×Nat)) (cap:Nat->Option Nat) (hb:∀i,ib.length<=i->blk i=none) (hc:∀i,nc0<=i->cap i=none) (hd:∀b b' q q',blk b=some q->blk b'=some q'->b≠b'->q.1≠q'.1) (w:World) (hu:eN B w) (hK:∀b q,blk b=some q->¬B.K q.1) (hG:∀b q,blk b=some q->¬G q.1) (hp:∀j x,ib[j]?=some x->MG (Env.ini B blk cap) B G w j x) (xs:List Value) (ht:lY (Env.ini B blk cap) B G w ps xs):
  Calls P f (sv xs).toArray w fun e w'=>∃x ρ' r m',e=.returned x/\chk r m'=true/\aO ρ' r=some x/\Out B G (Env.ini B blk cap) w ρ' m' w'/\Below w.heap.size w w'/\aT ρ' (bX (bQ nc0 ib).2 ps).1=some xs/\∀b k q,ib.length<=b->m'.H.get b=some k->ρ'.blk b=some q->w.heap.size<=q.1:=by
 obtain⟨ρ2,hm,hk,hg,hf⟩:=FX hn (Prod.ext rfl rfl) (Prod.ext rfl rfl) hlen blk cap hb hc hd w hu hK hG hp xs ht
 split at h
 case h_2=>cases h
 rename_i r m' hr
 refine(ha f _ _ r m' hr ρ2 w (sv xs).toArray hm hk (by rw[aF3];exact ho _ _ _ hg)).mono ?_
 rintro e w' ⟨ρ',x,rfl,hx,S⟩
 obtain⟨O,hs⟩:=hf ρ' m' w' S
 rw[aD3]at h
 have hi:∀j q,blk j=some q->∃e cs tg,(bQ nc0 ib).1[j]?=some (.cells e cs tg)/\m'.H.get j=some (.cells e cs tg):=fun j q hq=>by
  have hj:j<ib.length:=by
   rcases aEU j ib.length with hx|hx
   ·exact hx
   ·rw[hb j hx]at hq;cases hq
  have hl:j<(bQ nc0 ib).1.length:=by rw[yR];exact hj
  have:=aD7.1 h.2 j (aEE.2 hl);rw[aEB hl]at this⊢;split at this
  ·rename_i e cs tg he;exact⟨e,cs,tg,he,pQ this⟩
  ·cases this
 refine⟨x,ρ',r,m',rfl,h.1,hx,O,⟨O.os,O.tape,O.output,O.size,fun k hv=>?_⟩,dN S.le _ hg,fun b k q hz hg hq=>?_⟩
 ·by_cases he:∃j q,blk j=some q/\q.1=k
  ·obtain⟨j,q,hq,rfl⟩:=he;obtain⟨e,cs,tg,h1,h2⟩:=hi j q hq;exact hs j q e cs tg hq h1 h2
  ·exact O.keep k hv fun j q hq e=>he ⟨j,q,hq,e⟩
 ·rcases O.live q.1 ⟨b,k,q,hg,hq,rfl⟩with hy|⟨j,q2,hh,e2⟩
  ·exact hy
  ·exfalso;obtain⟨e,cs,tg,_,h2⟩:=hi j q2 hh
   have hA:b≠j:=fun e=>by
    subst e;have:blk b=some q2:=hh;rw[hb b hz]at this
    cases this
   exact O.rel.inj b j _ _ _ _ hg h2 hq (O.fix j q2 hh) hA e2.symm
theorem P0 {C:Cx}(hC:kV P C)(hl:∀i x,C.B.A i=some x->i%2≠1)(ha:cH C.B P call){draw:nB}(hdraw:tH C.B P draw){c:Code}(hn:n<256){ks:List Nat}(hq:bQ nc0 ib=(bs,c1))(hp:bX c1 ps=(a,c2)){chk:fM->St->Bool}(h:∀J,(match wM P C call draw 1000000 c {ts:=FW ks a (vS n J 8 1 0),ds:=[],m:={H:=tB bs,nb:=ib.length,nc:=c2}}with
   |some (e,s)=>chk e s
   |none=>false)=true) (hlen:ib.length<=7) (blk:Nat->Option (Nat×Nat×Nat×Nat)) (cap:Nat->Option Nat) (hb:∀i,ib.length<=i->blk i=none) (hc:∀i,nc0<=i->cap i=none) (hd:∀b b' q q',blk b=some q->blk b'=some q'->b≠b'->q.1≠q'.1) (w:World) (hu:eN C.B w) (hK:∀b q,blk b=some q->¬C.B.K q.1) (hG:∀b q,blk b=some q->¬G q.1) (ho:∀j x,ib[j]?=some x->MG (Env.ini C.B blk cap) C.B G w j x) (xs:List Value) (hr:lY (Env.ini C.B blk cap) C.B G w ps xs) {a0:Act} (hz:a0.tmps.size=n) (hs:a0.defers=[]) (hv:∀(j k:Nat),ks[j]?=some k->∃x,xs[j]?=some x/\a0.tmps[k]?=some x) {Q:Exit->Act->World->Prop} (hQ:∀e s ρ' a' w',chk e s=true->nL ρ' s a'->Out C.B G (Env.ini C.B blk cap) w ρ' s.m w'->(∀j q e cs tg,blk j=some q->bs[j]?=some (.cells e cs tg)->s.m.H.get j=some (.cells e cs tg)->w'.heap[q.1]?=w.heap[q.1]?)->Q e.of a' w'):
  c.wp P Q a0 w:=by
 obtain⟨ρ2,hm,hk,hg,hf⟩:=FX hl hq hp hlen blk cap hb hc hd w hu hK hG ho xs hr
 have hj:=h (fun i=>a0.tmps.getD i undef)
 rw[uM]at hj
 split at hj
 case h_2=>cases hj
 rename_i e s hx
 refine(jG hC ha hdraw _ _ _ _ _ hx).1 ρ2 w a0 Q hm hk ⟨BC ks a xs _ hg hv fun i=>?_,by rw[hs];exact .nil⟩ fun ρ' a' w' S ht=>?_
 ·rw[uT n _ 8 1 0 i (fun q hq=>by simp only[Nat.one_mul,aE2]at hq;omega)];simp only[Nat.one_mul,aE2];by_cases hi:i<n
  ·rw[aD6 hi];have hh:i<a0.tmps.size:=by omega
   exact⟨a0.tmps[i],aFA hh,by
    show some (a0.tmps.getD i undef)=_;rw[aFZ,aFA hh];rfl⟩
  ·rw[aD4 hi];exact aFL.2 (by omega)
 ·obtain⟨h1,h2⟩:=hf ρ' s.m w' S;exact hQ e s ρ' a' w' hj ht h1 h2
end
section
open Go Go.RowKit
variable {P:Program}
theorem abD {C:Cx}(hC:kV P C)(hl:∀i x,C.B.A i=some x->i%2≠1){call:bM}(ha:cH C.B P call){draw:nB}(hdraw:tH C.B P draw){c:Code}{n:Nat}(hn:n<256){ks:List Nat}{nc0 c1 c2:Nat}{ib:List IB}{ps:List PC}{bs:List jR}{a:List AV}(hq:bQ nc0 ib=(bs,c1))(hp:bX c1 ps=(a,c2)){chk:fM->St->Bool}
  (h:∀J,(match wM P C call draw 1000000 c {ts:=FW ks a (vS n J 8 1 0),ds:=[],m:={H:=tB bs,nb:=ib.length,nc:=c2}}with
    |some (e,s)=>chk e s
    |none=>false)=true) (hlen:ib.length<=7)
  (blk:Nat->Option (Nat×Nat×Nat×Nat)) (cap:Nat->Option Nat) (hb:∀i,ib.length<=i->blk i=none) (hc:∀i,nc0<=i->cap i=none) (hd:∀b b' q q',blk b=some q->blk b'=some q'->b≠b'->q.1≠q'.1)
  {G:Nat->Prop} (w:World) (hu:eN C.B w) (hK:∀b q,blk b=some q->¬C.B.K q.1) (hG:∀b q,blk b=some q->¬G q.1)
  (ho:∀j x,ib[j]?=some x->MG (Env.ini C.B blk cap) C.B G w j x) (xs:List Value) (hr:lY (Env.ini C.B blk cap) C.B G w ps xs)
  {a0:Act} (hz:a0.tmps.size=n) (hs:a0.defers=[]) (hv:∀(j k:Nat),ks[j]?=some k->∃x,xs[j]?=some x/\a0.tmps[k]?=some x) {Q:Exit->Act->World->Prop}
  (hQ:∀e s ρ' a' w',chk e s=true->nL ρ' s a'->Out C.B G (Env.ini C.B blk cap) w ρ' s.m w'->(∀j q e cs tg,blk j=some q->bs[j]?=some (.cells e cs tg)->s.m.H.get j=some (.cells e cs tg)->w'.heap[q.1]?=w.heap[q.1]?)->aT ρ' a=some xs->Q e.of a' w'):
  c.wp P Q a0 w:=by
 obtain⟨ρ2,hm,hk,hg,hf⟩:=FX hl hq hp hlen blk cap hb hc hd w hu hK hG ho xs hr
 have hj:=h (fun i=>a0.tmps.getD i undef)
 rw[uM]at hj
 split at hj
 case h_2=>cases hj
 rename_i e s hx
 refine(jG hC ha hdraw _ _ _ _ _ hx).1 ρ2 w a0 Q hm hk ⟨BC ks a xs _ hg hv fun i=>?_,by rw[hs];exact .nil⟩ fun ρ' a' w' S ht=>?_
 ·rw[uT n _ 8 1 0 i (fun q hq=>by simp only[Nat.one_mul,aE2]at hq;omega)];simp only[Nat.one_mul,aE2];by_cases hi:i<n
  ·rw[aD6 hi];have hh:i<a0.tmps.size:=by omega
   exact⟨a0.tmps[i],aFA hh,by
    show some (a0.tmps.getD i undef)=_;rw[aFZ,aFA hh];rfl⟩
  ·rw[aD4 hi];exact aFL.2 (by omega)
 ·obtain⟨h1,h2⟩:=hf ρ' s.m w' S;exact hQ e s ρ' a' w' hj ht h1 h2 (dN S.le _ hg)
end
end Go.Sym
