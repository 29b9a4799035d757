/- TopShell, part 9 of 36. -/
import Derived.Test.YtoeiaflkdcbkdaaGreatDoorK08
set_option maxHeartbeats 16000000
set_option linter.unusedVariables false
set_option linter.unusedSimpArgs false
namespace Go.Proofs.YtoeiaflkdcbkdaaGreatDoor
open Go.RowKit Go.Sym Go.Proofs.Tryz
theorem akM {a b:ByteArray}(h:a.data.toList=b.data.toList):a=b:=by
 cases a;cases b;congr;exact Array.toList_inj.1 h
theorem akN (a b:List UInt8):(⟨a.toArray⟩:ByteArray)++(⟨b.toArray⟩:ByteArray)=⟨(a++b).toArray⟩:=by
 apply akM;simp
set_option maxRecDepth 100000 in
theorem BI (v:Value)(l:List It)(w:World)(h:mO w v l)(hl:(iU l).length<=100000)(hn:l.length<=100000):
  Calls prog 45 #[v] w fun e w'=>e=.returned (sB (iU l))/\w=w':=by
 obtain⟨A,c,b,e,hd,hf,ha⟩:=h
 obtain⟨m,hm⟩:∃q,l.length=q:=⟨_,rfl⟩
 rw[hm]at e hn
 subst e
 have HC:=aHL (fun k (hk:k<m)=>And.intro (ha (by omega)).1 (((ha (by omega)).2.2 k (by omega)).2.1))
 have HT:Hid (l.take m=l):=by show l.take m=l;rw[<-hm];exact aFM
 have HS:=aHL (fun k (hk:k<m)=>(by
  have e:mN l k=l[k]'(by omega):=by simp[mN,aD9,aEB (by omega:k<l.length)]
  rw[<-aF8 (by omega:k<l.length),e];exact GA _ _:iU (l.take (k+1))=iU (l.take k)++(mN l k).2.1))
 have HL:=aHL (fun k=>(by
  have e:iU l=iU (l.take k)++iU (l.drop k):=by rw[<-l6,aFD]
  rw[e,aD2]at hl;omega:(iU (l.take k)).length<=100000))
 clear ha hm hl
 go_enter func45,ntmps45
 go_wp2
 go_loop [3,4] (fun s i=>∃k:Nat,i=.int .i64 k/\k<=m/\s=.string ⟨(iU (l.take k)).toArray⟩) (fun _ i=>m-(intOf i).toNat)
 case atStart=>exact⟨0,rfl,by omega,rfl⟩
 case round=>
  obtain⟨k,rfl,hk,rfl⟩:=hrel
  by_cases hc:k<m
  ·obtain⟨rfl,c1⟩:=HC.out k hc;have hs:=HS.out k hc;have l1:=HL.out k;have l2:=HL.out (k+1);obtain⟨x,hx⟩:∃x,(mN l k).2.1=x:=⟨_,rfl⟩;obtain⟨js,hb⟩:∃js,iU (l.take k)=js:=⟨_,rfl⟩;rw[hx]at c1 hs;rw[hs,hb,aD2]at l2;rw[hb]at hs l1⊢;unfold sB at c1;have Ha:=aHL hs;clear hs hx hb;go_wp2;go_round
   case rel=>
    refine⟨k+1,by go_num,by omega,?_⟩
    rw[Ha.out,<-akN]
   case measure=>simp[intOf];omega
  ·obtain rfl:k=m:=by omega
   go_wp2;go_ret;exact⟨by rw[HT.out];rfl,rfl⟩
theorem Z0 (a p q:Int)(w:World)(ha:-1000000<=a)(hh:a<=1000000)(hp:0<=p)(hi:p<=1000000)(hq:0<=q)(hj:q<=1000000):
  Calls prog 86 #[.int .i64 a,.int .i64 p,.int .i64 q] w fun e w'=>e=.returned (.bool (sR a p q))/\w=w':=by
 obtain⟨r,hr⟩:∃r,sR a p q=r:=⟨_,rfl⟩
 rw[hr]
 unfold sR at hr
 by_cases h1:a<1
 ·rw[aD6 (.inl h1)]at hr;subst hr;go_enter func86,ntmps86;go_wp2;go_ret;exact⟨rfl,rfl⟩
 ·by_cases h2:p<1
  ·rw[aD6 (.inr (.inl h2))]at hr;subst hr;go_enter func86,ntmps86;go_wp2;go_ret;exact⟨rfl,rfl⟩
  ·have hb:∀n:Int,p<=n->(q=0->n=p)->(0<q->(n-p)%q=0)->(n=p∨n-q<a)->(¬n<a∨q=0)->(n ==a)=r:=by
    intro n g1 g2 g3 g4 g5;rw[<-hr];by_cases h3:a<p
    ·rw[aD6 (by omega)];simp only[aFS,ne_eq];omega
    ·rw[aD4 (by omega)];by_cases h4:a=p
     ·rw[aD6 h4]
      have:n=p:=by
       rcases g4 with g4|g4
       ·exact g4
       ·by_cases h0:q=0
        ·exact g2 h0
        ·have:=g3 (by omega);have hd:n-p<q:=by omega
         rw[Int.emod_eq_of_lt (by omega) hd]at this;omega
      simp[this,h4]
     ·rw[aD4 h4];by_cases h5:0<q
      ·rw[aE8 (by omega:q>0),Bool.true_and];have h6:=g3 h5;by_cases h7:n=a
       ·subst h7;simp[h6]
       ·have h8:a<n:=by omega
        have h9:n-q<a:=by omega
        have e1:(n ==a)=false:=by simpa using h7
        rw[e1];symm;rw[aFS];intro h0
        have hf:(n-a)%q=0:=by
         have:n-a=(n-p)-(a-p):=by omega
         rw[this,Int.sub_emod,h6,h0];simp
        rw[Int.emod_eq_of_lt (by omega) (by omega)]at hf;omega
      ·have hg:q=0:=by omega
       rw[aEC (by omega:¬q>0),Bool.false_and];have:=g2 hg;simp only[aFS,ne_eq];omega
   have HF:=aHL hb;clear hr hb;go_enter func86,ntmps86;go_wp2;go_loop [7] (fun v=>∃n:Int,v=.int .i64 n/\p<=n/\n<=3000000/\(q=0->n=p)/\Aside ((0<q->(n-p)%q=0)/\(n=p∨n-q<a))) (fun v=>(a-intOf v).toNat)
   case atStart=>exact⟨p,rfl,by omega,by omega,fun _=>rfl,fun _=>by simp,.inl rfl⟩
   case round=>
    obtain⟨n,rfl,g1,g2,g3,HG⟩:=hrel
    by_cases hd:n<a
    ·by_cases h5:0<q
     ·have hw:IntKind.i64.wrap (n+q)=n+q:=aR _ (by omega) (by omega);go_wp2;go_round
      case rel=>
       refine⟨n+q,by go_num,by omega,by omega,fun h=>by omega,fun h=>?_,.inr (by omega)⟩
       have:=HG.out.1 h
       rw[show n+q-p=(n-p)+q by omega,Int.add_emod_right]
       exact this
      case measure=>simp[intOf];omega
     ·have hc:=aHL (HF.out n g1 g3 HG.out.1 HG.out.2 (.inr (by omega)));go_wp2;go_ret;exact⟨jQ hc.out,rfl⟩
    ·have hc:=aHL (HF.out n g1 g3 HG.out.1 HG.out.2 (.inl (by omega)));go_wp2;go_ret;exact⟨jQ hc.out,rfl⟩
def vT (L:Lc)(n:Nat)(a:Int)(k:Nat):List It:=
 if a=10 then [(4,L.dec,(k:Int))]else(2,L.dig a,(k:Int))::(if sR ((n:Int)-1-k) L.p L.q=true then [(3,L.grp,-1)]else [])
def pK (L:Lc)(n:Nat)(l:List Int):Nat->List It
 |0=>[]
 |k+1=>pK L n l k++vT L n (l.getD k 0) k
theorem aaA {a p q:Int}(h:a<1):sR a p q=false:=by unfold sR;rw[aD6 (.inl h)]
theorem GB (L:Lc)(n:Nat)(l a:List Int)(hd:Dg l)(hl:∀k,k<l.length->a.getD k 0=l.getD k 0):∀k,k<=l.length->pK L n a k=dY L l n k
 |0,_=>rfl
 |k+1,h=>by
  have ih:=GB L n l a hd hl k (by omega);have ha:l.getD k 0≠10:=by have:=hd.getD k;omega
  show pK L n a k++vT L n (a.getD k 0) k=dY L l n k++xM L l n k;rw[ih,hl k (by omega)];unfold vT xM;rw[aD4 ha]
theorem J8 (L:Lc)(n:Nat)(l a:List Int)(hd:Dg l)(hl:∀j,j<l.length->a.getD (n+1+j) 0=l.getD j 0):∀j,j<=l.length->pK L n a (n+1+j)=pK L n a (n+1)++kO L l n j
 |0,_=>by simp[kO]
 |j+1,h=>by
  have ih:=J8 L n l a hd hl j (by omega);have ha:l.getD j 0≠10:=by have:=hd.getD j;omega
  show pK L n a (n+1+j)++vT L n (a.getD (n+1+j) 0) (n+1+j)=_;rw[ih,hl j (by omega)];unfold vT;rw[aD4 ha,aaA (by omega),aEF];simp only[kO,aE0,if_false];congr 2
theorem ae9 (L:Lc)(d:Dr)(di:Dg d.int)(df:Dg d.frac)(sp:d.sep=true∨d.frac=[]):
  pK L d.int.length (aJ d) (aJ d).length=dY L d.int d.int.length d.int.length++(if d.sep=true then [(4,L.dec,(d.int.length:Int))]else [])++kO L d.frac d.int.length d.frac.length:=by
 obtain⟨ng,li,s,lf⟩:=d
 simp only at di df sp⊢
 have g1:∀(r:List Int) k,k<li.length->(li++r).getD k 0=li.getD k 0:=fun r k hk=>by simp[aD9,aEG hk]
 cases s with
 |false=>
  have hf:lf=[]:=by simpa using sp
  subst hf
  have e:aJ ⟨ng,li,false,[]⟩=li++[]:=by simp[aJ]
  rw[e,aET]
  rw[GB L li.length li li di (fun k _=>rfl) li.length (aD1 _)]
  simp[kO]
 |true=>
  have e:aJ ⟨ng,li,true,lf⟩=li++([10]++lf):=by simp[aJ]
  rw[e]
  have hl:(li++([10]++lf)).length=li.length+1+lf.length:=by simp;omega
  rw[hl,J8 L li.length lf _ df (fun j hj=>by
   rw[aD9,aEO (by omega),show li.length+1+j-li.length=j+1 by omega];simp[aD9]) lf.length (aD1 _)]
  have ha:(li++([10]++lf)).getD li.length 0=10:=by
   rw[aD9,aEO (aD1 _)];simp
  show pK L li.length _ li.length++vT L li.length ((li++([10]++lf)).getD li.length 0) li.length++_=_
  rw[ha,GB L li.length li _ di (g1 _) li.length (aD1 _)]
  simp[vT]
theorem aaB (L:Lc)(d:Dr)(di:Dg d.int)(df:Dg d.frac)(sp:d.sep=true∨d.frac=[]):bC L d=cU L.ahead++pK L d.int.length (aJ d) (aJ d).length++cU L.behind:=by
 rw[ae9 L d di df sp];simp[bC]
section
variable {w2 w8:World}{gv k g8 c8:Nat}{iv tx pS v:Value}{l:List Int}{x:Int}
def iB (its:List It)(k:Nat):Nat:=(iU (its.take k)).length
def CI (na:Nat)(its:List It):Nat->List Int
 |0=>[]
 |k+1=>CI na its k++(if k=na then [(iB its k:Int)]else [])++(if 0<=(mN its k).2.2 then [(iB its (k+1):Int)]else [])
def fW (na:Nat)(its:List It):List Int:=CI na its its.length++(if its.length=na then [(iB its its.length:Int)]else [])
theorem aaC (its:List It)(k:Nat)(h:k<its.length):iB its (k+1)=iB its k+(mN its k).2.1.length:=by
 have e:mN its k=its[k]:=by simp[mN,aD9,aEB h]
 unfold iB;rw[<-aF8 h,GA,e,aD2]
theorem DF (its:List It)(k:Nat):iB its k<=(iU its).length:=by
 have e:iU its=iU (its.take k)++iU (its.drop k):=by rw[<-l6,aFD]
 unfold iB;rw[e];simp
theorem QA (na:Nat)(its:List It):CI na its 0=[]:=rfl
theorem aaD (its:List It):iB its 0=0:=by simp[iB,iU]
structure uX (w2 wr:World) (gv:Nat) (iv tx pS:Value) (l:List Int):Prop where
 bx:wr.heap[gv]?=some (.cells #[iv,tx,pS] 333 (0,0))
 ow:wr.ownsRow (gv+1) 3 1 pS l.length (ints l)
 bl:Below gv w2 wr
 sz:gv<wr.heap.size
theorem uX.c0 {wr:World}(h:uX w2 wr gv iv tx pS l):wr.cell? ⟨gv,0,none⟩=some iv:=by rw[aHM wr gv 0 _ _ _ h.bx];rfl
theorem uX.c2 {wr:World}(h:uX w2 wr gv iv tx pS l):wr.cell? ⟨gv,2,none⟩=some pS:=by rw[aHM wr gv 2 _ _ _ h.bx];rfl
theorem uX.fz {wr:World}(h:uX w2 wr gv iv tx pS l)(i:Nat):wr.frozen? ⟨gv,i,none⟩=false:=iM h.bx i
theorem uX.alloc {wr:World}(h:uX w2 wr gv iv tx pS l)(hg:gv=w2.heap.size)(o:Obj):uX w2 (wr.alloc o) gv iv tx pS l:=
 ⟨(Below.heap_alloc _ _ _ h.sz).trans h.bx,h.ow.alloc o,h.bl.alloc (by have:=h.sz;omega) o,by have:=h.sz;simp;omega⟩
theorem uX.app {wr:World}(h:uX w2 wr gv iv tx pS l)(hl:l.length=k)(o:Obj)(hb:w8.ownsRow (gv+1) 3 1 (.slice (some ⟨g8,0,none⟩) (k+1) c8) (k+1) (ints l++[.int .i64 x]))(hg:(wr.alloc o).grownBy w8 pS.ownBlock):
  w8.heap[gv]?=some (.cells #[iv,tx,pS] 333 (0,0))/\uX w2 (w8.setCell ⟨gv,2,none⟩ (.slice (some ⟨g8,0,none⟩) (k+1) c8)) gv iv tx (.slice (some ⟨g8,0,none⟩) (k+1) c8) (l++[x]):=by
 have hd:=h.sz
 have hc:w8.heap[gv]?=some (.cells #[iv,tx,pS] 333 (0,0)):=(hg.block gv (by simp;omega) (fun e=>by have:=(h.ow.lt gv e.symm).1;omega)).trans ((Below.heap_alloc _ _ _ hd).trans h.bx)
 have b8:Below gv wr w8:=((Below.refl gv wr).alloc (by omega) o).grown hg (by simp;omega) (fun j hj=>by have:=(h.ow.lt j hj).1;omega)
 have ha:w8.ownsRow (gv+1) 3 1 (.slice (some ⟨g8,0,none⟩) (k+1) c8) (l++[x]).length (ints (l++[x])):=by rw[aS,aD2,hl];exact hb
 have hf:=b8.size
 exact⟨hc,eA w8 gv 2 _ _ _ _ hc,aHS ha (by show gv<gv+1;omega) _,(h.bl.trans b8).setCell (p:=⟨gv,2,none⟩) (aD1 gv) _,by simp;omega⟩
theorem mO.lt {w:World}{l:List It}(h:mO w v l):∃A c b,v=.slice A l.length c/\(0<l.length->A=some ⟨b,0,none⟩/\b<w.heap.size/\∀k,k<l.length->w.cell? ⟨b,k*3,none⟩=some (.int .i64 (mN l k).1)/\w.cell? ⟨b,k*3+1,none⟩=some (sB (mN l k).2.1)/\w.cell? ⟨b,k*3+2,none⟩=some (.int .i64 (mN l k).2.2)):=by
 obtain⟨A,c,b,e,_,_,h3⟩:=h;exact⟨A,c,b,e,h3⟩
theorem BJ (wr:World)(o:Obj)(a:Int):∀j u,([.int .i64 a]:List Value)[j]?=some u->
  ((wr.alloc o).alloc (Obj.cells #[.int .i64 a] 3)).cell? ((⟨wr.heap.size+1,0,none⟩:Addr).add j)=some u:=
 World.news_of_block (cs:=#[.int .i64 a]) (t:=3) (fr:=(0,0)) (by have:=aHO (wr.alloc o) (Obj.cells #[.int .i64 a] 3);simpa using this)
theorem aaE (wr:World)(a:Int):∀j u,([.int .i64 a]:List Value)[j]?=some u->
  (wr.alloc (Obj.cells #[.int .i64 a] 3)).cell? ((⟨wr.heap.size,0,none⟩:Addr).add j)=some u:=
 World.news_of_block (cs:=#[.int .i64 a]) (t:=3) (fr:=(0,0)) (aHO wr _)
theorem aBJ {W:World}{q:Nat}(h:uX w2 W w2.heap.size iv tx v (l++[x]))(hq:q=l.length):W.ownsRow (w2.heap.size+1) 3 1 v (q+1) (ints (l++[x])):=by
 have:=h.ow;rwa[aD2,<-hq]at this
theorem aaF (w8:World)(p:Addr)(v:Value)(a:Int):∀j u,([.int .i64 a]:List Value)[j]?=some u->
  ((w8.setCell p v).alloc (Obj.cells #[.int .i64 a] 3)).cell? ((⟨w8.heap.size,0,none⟩:Addr).add j)=some u:=
 World.news_of_block (cs:=#[.int .i64 a]) (t:=3) (fr:=(0,0)) (by have:=aHO (w8.setCell p v) (Obj.cells #[.int .i64 a] 3);simpa using this)
theorem uX.one {wr:World}{a b c:Value}(h:uX w2 wr w2.heap.size iv tx pS l)(hl:k=l.length)(ha:w8.ownsRow (w2.heap.size+1) 3 1 (.slice (some ⟨g8,0,none⟩) (k+1) c8) (k+1) (ints l++[.int .i64 x]))(hg:((wr.alloc (Obj.cells #[a,b,c] 388)).alloc (Obj.cells #[.int .i64 x] 3)).grownBy w8 pS.ownBlock):
  (w8.cell? ⟨w2.heap.size,2,none⟩=some pS/\w8.frozen? ⟨w2.heap.size,2,none⟩=false)/\(w8.cell? ⟨wr.heap.size,1,none⟩=some b/\w8.cell? ⟨wr.heap.size,2,none⟩=some c/\wr.heap.size<w8.heap.size)/\
    uX w2 (w8.setCell ⟨w2.heap.size,2,none⟩ (.slice (some ⟨g8,0,none⟩) (k+1) c8)) w2.heap.size iv tx (.slice (some ⟨g8,0,none⟩) (k+1) c8) (l++[x]):=by
 have hA:=uX.app (h.alloc rfl (Obj.cells #[a,b,c] 388)) hl.symm (Obj.cells #[.int .i64 x] 3) ha hg
 have hb:w8.heap[wr.heap.size]?=some (.cells #[a,b,c] 388 (0,0)):=by
  refine(hg.block _ (by simp;omega) (fun e=>?_)).trans ((Below.heap_alloc _ _ _ (by simp)).trans (aHO wr _));have:=(h.ow.lt _ e.symm).2;omega
 refine⟨⟨by rw[aHM w8 _ 2 _ _ _ hA.1];rfl,iM hA.1 2⟩,⟨by rw[aHM w8 _ 1 _ _ _ hb];rfl,by rw[aHM w8 _ 2 _ _ _ hb];rfl,(aD5.1 hb).1⟩,hA.2⟩
theorem uX.two {wr:World}(h:uX w2 wr w2.heap.size iv tx pS l)(hl:l.length=k)(ha:w8.ownsRow (w2.heap.size+1) 3 1 (.slice (some ⟨g8,0,none⟩) (k+1) c8) (k+1) (ints l++[.int .i64 x]))(hg:(wr.alloc (Obj.cells #[.int .i64 x] 3)).grownBy w8 pS.ownBlock):
  (w8.cell? ⟨w2.heap.size,2,none⟩=some pS/\w8.frozen? ⟨w2.heap.size,2,none⟩=false)/\
    uX w2 (w8.setCell ⟨w2.heap.size,2,none⟩ (.slice (some ⟨g8,0,none⟩) (k+1) c8)) w2.heap.size iv tx (.slice (some ⟨g8,0,none⟩) (k+1) c8) (l++[x]):=by
 have hA:=uX.app h hl (Obj.cells #[.int .i64 x] 3) ha hg
 exact⟨⟨by rw[aHM w8 _ 2 _ _ _ hA.1];rfl,iM hA.1 2⟩,hA.2⟩
attribute [local irreducible] CI iB iU eV
set_option maxRecDepth 100000 in
theorem afA (S:Nat->Prop)(lp:Value)(r:Rc)(L:Lc)(vi vf:Value)(d:Dr)(w:World)(h:TS S w lp r L)(hd:qF w vi vf d)(hn:d.neg=false)(hl:(iU (bC L d)).length<=100000)(hm:(bC L d).length<=1000)(hb:∀k,k<(bC L d).length->-1<=(mN (bC L d) k).2.2/\(mN (bC L d) k).2.2<=1000):
  Calls prog 249 #[lp,mT vi vf d] w fun e w'=>∃gv iv pS,e=.returned (.pointer (some ⟨gv,0,none⟩))/\w'.heap[gv]?=some (.cells #[iv,sB (iU (bC L d)),pS] 333 (0,0))/\aC w' pS (fW L.ahead.length (bC L d))/\w.heap.size<=gv/\Below w.heap.size w w':=by
 obtain⟨i0,hi,hp,hr,hs⟩:=aHT dI
 have hD:=fun W (k:TS S W lp r L) (q:qF W vi vf d)=>ZX S lp r L vi vf d W k q hn
 obtain⟨its,ht⟩:∃l,bC L d=l:=⟨_,rfl⟩
 rw[ht]at hD hl hm hb⊢
 clear ht
 obtain⟨W1,hR,h0,z1,hz⟩:∃W1,w.alloc (Obj.cells #[.bool d.neg,vi,.bool d.sep,vf] 260)=W1/\W1.heap.size=w.heap.size+1/\gZ W1 w.heap.size (.bool d.neg) vi (.bool d.sep) vf/\Below w.heap.size w W1:=
  ⟨_,rfl,by simp,gZ.new _ _ _ _ _,(Below.refl _ w).alloc (aD1 _) _⟩
 have hE:=h.below hz
 have HI:=aHL (hD W1 hE (hd.below hz (aD1 _)))
 have Hg:=aHL (fun W (hB:Below W1.heap.size W1 W)=>hE.below hB)
 have HZ:=aHL (fun W (hB:Below W1.heap.size W1 W)=>z1.below hB (by omega))
 have HW:=aHL hR
 have HB:=aHL hz
 obtain⟨m,hF⟩:∃q,its.length=q:=⟨_,rfl⟩
 have HM:=aHL hF
 rw[hF]at hm
 obtain⟨na,hG⟩:∃q,L.ahead.length=q:=⟨_,rfl⟩
 rw[hG]
 have Hh:=aHL hG
 have Hi:=aHL hb
 have He:=aHL (fun k=>DF its k)
 obtain⟨neg,li,sp,lf⟩:=d
 simp only at hn
 subst hn
 simp only[mT]at *
 have q0:=z1.c0
 have q1:=z1.c1
 have q2:=z1.c2
 have q3:=z1.c3
 clear hR z1 hz hD h hd hE hF hG hb
 go_enter func249,ntmps249
 go_wp2_with fail
 rw[HW.out]
 go_wp2_with fail
 refine HI.out.mono ?_
 rintro e w2 ⟨v2,rfl,o2,b2⟩
 have hH:=mO.of_own o2
 obtain⟨A2,c2,bI,hS,hA⟩:=hH.lt
 rw[HM.out]at hS
 subst hS
 have Hj:=aHL (fun k (hk:k<m)=>And.intro (hA (by have:=HM.out;omega)).2.1 ((hA (by have:=HM.out;omega)).2.2 k (by have:=HM.out;omega)))
 have Hk:=aHL (fun(hk:0<m)=>(hA (by have:=HM.out;omega)).1)
 clear hA
 have h3:=b2.size
 obtain⟨W3,hT,z3,s3,b3⟩:∃W3,w2.alloc (Obj.cells #[.slice A2 m c2,.string ⟨#[]⟩,.slice none 0 0] 333)=W3/\W3.heap[w2.heap.size]?=some (.cells #[.slice A2 m c2,.string ⟨#[]⟩,.slice none 0 0] 333 (0,0))/\W3.heap.size=w2.heap.size+1/\Below w2.heap.size w2 W3:=
  ⟨_,rfl,aHO _ _,by simp,(Below.refl _ w2).alloc (aD1 _) _⟩
 have hI:=hH.below b3 (aD1 _)
 have HT:=aHL (TU (.slice A2 m c2) its W3 hI (by omega) (by have:=HM.out;omega))
 have c0:W3.cell? ⟨w2.heap.size,0,none⟩=some (.slice A2 m c2):=by rw[aHM W3 _ 0 _ _ _ z3];rfl
 have Hl:=aHL z3
 have Hb:=aHL b2
 have Hm:=aHL b3
 have Hp:=aHL hI
 have Hn:=aHL hT
 clear q0 q1 q2 q3 hH o2 b2 z3 b3 hI hT
 go_wp2_with fail
 rw[Hn.out]
 go_wp2_with fail
 refine HT.out.mono ?_
 rintro e w4 ⟨rfl,b4⟩
 have Ba:Below w2.heap.size w2 w4:=Hm.out.trans (b4.mono (by omega))
 have Bc:Below W1.heap.size W1 w4:=Hb.out.trans (Ba.mono Hb.out.size)
 have z4:w4.heap[w2.heap.size]?=some (.cells #[.slice A2 m c2,.string ⟨#[]⟩,.slice none 0 0] 333 (0,0)):=(b4.block _ (by omega)).trans Hl.out
 have f1:w4.frozen? ⟨w2.heap.size,1,none⟩=false:=iM z4 1
 have d1:w4.cell? ⟨w2.heap.size,1,none⟩=some (.string ⟨#[]⟩):=by rw[aHM w4 _ 1 _ _ _ z4];rfl
 have x0:=(HZ.out _ Bc).c0
 obtain⟨tx,hC⟩:∃u,sB (iU its)=u:=⟨_,rfl⟩
 have hJ:∃s,tx=.string s:=⟨_,hC.symm⟩
 obtain⟨ts,rfl⟩:=hJ
 rw[hC]
 obtain⟨W5,hV,V5,s5⟩:∃W5,w4.setCell ⟨w2.heap.size,1,none⟩ (.string ts)=W5/\uX w2 W5 w2.heap.size (.slice A2 m c2) (.string ts) (.slice none 0 0) []/\W5.heap.size=w4.heap.size:=by
  refine⟨_,rfl,⟨eA w4 _ 1 _ _ _ _ z4,aHN _ _ _ _,Ba.setCell (p:=⟨w2.heap.size,1,none⟩) (aD1 _) _,?_⟩,by simp⟩;have:=b4.size;simp;omega
 have h4:=b4.size
 have Bb:Below W1.heap.size W1 W5:=Hb.out.trans (V5.bl.mono Hb.out.size)
 have Hf:=aHL Bb
 have Hc:=aHL V5
 have Ho:=aHL hV
 have x5:=(HZ.out _ Bb).c0
 clear c0 b4 Ba Bc z4 V5 hV Bb
 go_wp2_with fail
 rw[Ho.out]
 clear f1 d1 x0
 go_wp2_with fail
 refine((Hg.out W5 Hf.out).arnd W5 (IC.refl _ _)).mono ?_
 rintro e w6 ⟨va,vb,rfl,ha,hb,b6⟩
 obtain⟨Aa,ca,rfl⟩:∃A c,va=.slice A na c:=by
  obtain⟨A,c,e,_⟩:=ha;exact⟨A,c,by rw[e,Hh.out]⟩
 have V6:uX w2 w6 w2.heap.size (.slice A2 m c2) (.string ts) (.slice none 0 0) []:=⟨(b6.block _ Hc.out.sz).trans Hc.out.bx,aHN _ _ _ _,Hc.out.bl.trans (b6.mono (by have:=Hc.out.sz;omega)),aEL Hc.out.sz b6.size⟩
 have HV6:=aHL V6
 have y0:=V6.c0
 clear ha hb b6 V6 x5
 go_wp2_with fail
 go_loopw [8,36] (fun a i wr=>∃(k q:Nat) (pS:Value),i=.int .i64 k/\a=.int .i64 (iB its k)/\k<=m/\q<=2*k/\Aside (q=(CI na its k).length)/\Aside (uX w2 wr w2.heap.size (.slice A2 m c2) (.string ts) pS (CI na its k))) (fun _ i _=>m-(intOf i).toNat)
 case atStart=>exact⟨0,0,_,rfl,by rw[aaD];rfl,by omega,by omega,by show 0=(CI na its 0).length;rw[QA];rfl,by show uX _ _ _ _ _ _ (CI na its 0);rw[QA];exact HV6.out⟩
 case round=>
  obtain⟨k,q,pS,rfl,rfl,hk,hq,HQ,HA⟩:=hrel
  by_cases hW:k<m
  ·obtain rfl:=Hk.out (by omega);obtain⟨hK,e1,e2,e3⟩:=Hj.out k hW;obtain⟨x,hx⟩:∃x,mN its k=x:=⟨_,rfl⟩;have hL:=aaC its k (by have:=HM.out;omega);have hX:=Hi.out k (by have:=HM.out;omega);have h5:=He.out (k+1);have hM:=He.out k;rw[hx]at e1 e2 e3 hL hX;obtain⟨tg,xt,at_⟩:=x;unfold sB at e2;simp only at e1 e2 e3 hL hX;have c1:wr.cell? ⟨bI,k*3,none⟩=some (.int .i64 tg):=(HA.out.bl.cell (p:=⟨bI,k*3,none⟩) hK).trans e1;have cb:wr.cell? ⟨bI,k*3+1,none⟩=some (.string ⟨xt.toArray⟩):=(HA.out.bl.cell (p:=⟨bI,k*3+1,none⟩) hK).trans e2;have c3:wr.cell? ⟨bI,k*3+2,none⟩=some (.int .i64 at_):=(HA.out.bl.cell (p:=⟨bI,k*3+2,none⟩) hK).trans e3;have hv:((iB its (k+1):Nat):Int)=(iB its k:Int)+(xt.length:Int):=by rw[hL];simp
   have hw:IntKind.i64.wrap ((iB its k:Int)+(xt.length:Int))=(iB its k:Int)+(xt.length:Int):=aR _ (by omega) (by omega);have HV:=aHL hv;have Ha:Hid (CI na its (k+1)=CI na its k++(if k=na then [(iB its k:Int)]else [])++(if 0<=at_ then [(iB its (k+1):Int)]else [])):=by show _=_;simp only[CI];rw[hx]
   have wa:=HA.out.c2;have hY:=HA.out.sz;clear e1 e2 e3 hx y0 hv
   have Oa:Aside (wr.ownsRow (w2.heap.size+1) 3 1 pS q (ints (CI na its k))):=by
    have:=HA.out.ow;rwa[<-HQ.out]at this
   by_cases h1:k=na
   ·have hN:(((k:Nat):Int) ==((na:Nat):Int))=true:=by simp[h1]
    have hO:(k ==na)=true:=by simp[h1]
    by_cases h2:0<=at_
    ·rw[aD6 h1,aD6 h2]at Ha;have Hd:=aHL h1;clear h1
     go_wp2_with(first
      |(at_builtin
        refine wpList_append_lies _ rfl _ _ 22 rfl (w2.heap.size+1) 3 i0 (.int .i64 0) 1 8 underlying22 hi hp hr hs rfl (by decide) pS q (ints (CI na its k)) (by simp[Act.eval,Act.put]) ((Oa.out.alloc _).alloc _) ⟨wr.heap.size+1,0,none⟩ 1 1 [.int .i64 (iB its k:Int)] (by simp[Act.eval,Act.put]) rfl (BJ wr _ _) (fun u hu=>by simp at hu;subst hu;rfl) (by decide) (by unfold maxLen;omega) (by omega) (by simp;omega) _ rfl ?_
        intro g8 c8 w8 hf hc hg hh
        have X8:=aside (uX.one HA.out HQ.out hf hc)
        obtain⟨j1,j2⟩:=X8.out.1
        obtain⟨j3,j4,j5⟩:=X8.out.2.1
        clear hf hc hg hh)
      |(at_builtin
        refine wpList_append_lies _ rfl _ _ 22 rfl (w2.heap.size+1) 3 i0 (.int .i64 0) 1 8 underlying22 hi hp hr hs rfl (by decide) (.slice (some ⟨g8,0,none⟩) (q+1) c8) (q+1) (ints (CI na its k++[(iB its k:Int)])) (by simp[Act.eval,Act.put]) ((aBJ X8.out.2.2 HQ.out).alloc _) ⟨w8.heap.size,0,none⟩ 1 1 [.int .i64 ((iB its k:Int)+(xt.length:Int))] (by simp[Act.eval,Act.put]) rfl (aaF w8 _ _ _) (fun u hu=>by simp at hu;subst hu;rfl) (by decide) (by unfold maxLen;omega) (by omega) (by have:=X8.out.2.2.sz;simp at this⊢;omega) _ rfl ?_
        intro g9 c9 w9 ho hj hP hQ
        have X9:=aside (uX.two X8.out.2.2 (by rw[aD2,<-HQ.out];rfl) ho hj)
        obtain⟨m1,m2⟩:=X9.out.1
        clear ho hj hP hQ))
     go_roundw
     case measure=>simp[intOf];omega
     refine⟨k+1,q+1+1,(.slice (some ⟨g9,0,none⟩) (q+1+1) c9),by go_num,by rw[HV.out],by omega,by omega,?_,?_⟩
     ·show _=(CI na its (k+1)).length;rw[Ha.out,aD2,aD2,<-HQ.out];simp
     ·show uX _ _ _ _ _ _ _;rw[Ha.out,HV.out];exact X9.out.2
    ·rw[aD6 h1,aD4 h2,aET]at Ha;have Hd:=aHL h1;clear h1
     go_wp2_with(first
      |(at_builtin
        refine wpList_append_lies _ rfl _ _ 22 rfl (w2.heap.size+1) 3 i0 (.int .i64 0) 1 8 underlying22 hi hp hr hs rfl (by decide) pS q (ints (CI na its k)) (by simp[Act.eval,Act.put]) ((Oa.out.alloc _).alloc _) ⟨wr.heap.size+1,0,none⟩ 1 1 [.int .i64 (iB its k:Int)] (by simp[Act.eval,Act.put]) rfl (BJ wr _ _) (fun u hu=>by simp at hu;subst hu;rfl) (by decide) (by unfold maxLen;omega) (by omega) (by simp;omega) _ rfl ?_
        intro g8 c8 w8 hf hc hg hh
        have X8:=aside (uX.one HA.out HQ.out hf hc)
        obtain⟨j1,j2⟩:=X8.out.1
        obtain⟨j3,j4,j5⟩:=X8.out.2.1
        clear hf hc hg hh))
     go_roundw
     case measure=>simp[intOf];omega
     refine⟨k+1,q+1,(.slice (some ⟨g8,0,none⟩) (q+1) c8),by go_num,by rw[HV.out],by omega,by omega,?_,?_⟩
     ·show _=(CI na its (k+1)).length;rw[Ha.out,aD2,<-HQ.out];simp
     ·show uX _ _ _ _ _ _ _;rw[Ha.out];exact X8.out.2.2
   ·have hN:(((k:Nat):Int) ==((na:Nat):Int))=false:=by simp;omega
    have hO:(k ==na)=false:=by simpa using h1
    by_cases h2:0<=at_
    ·rw[aD4 h1,aD6 h2,aET]at Ha;have Hd:=aHL h1;clear h1
     go_wp2_with(first
      |(at_builtin
        refine wpList_append_lies _ rfl _ _ 22 rfl (w2.heap.size+1) 3 i0 (.int .i64 0) 1 8 underlying22 hi hp hr hs rfl (by decide) pS q (ints (CI na its k)) (by simp[Act.eval,Act.put]) ((Oa.out.alloc _).alloc _) ⟨wr.heap.size+1,0,none⟩ 1 1 [.int .i64 ((iB its k:Int)+(xt.length:Int))] (by simp[Act.eval,Act.put]) rfl (BJ wr _ _) (fun u hu=>by simp at hu;subst hu;rfl) (by decide) (by unfold maxLen;omega) (by omega) (by simp;omega) _ rfl ?_
        intro g8 c8 w8 hf hc hg hh
        have X8:=aside (uX.one HA.out HQ.out hf hc)
        obtain⟨j1,j2⟩:=X8.out.1
        obtain⟨j3,j4,j5⟩:=X8.out.2.1
        clear hf hc hg hh))
     go_roundw
     case measure=>simp[intOf];omega
     refine⟨k+1,q+1,(.slice (some ⟨g8,0,none⟩) (q+1) c8),by go_num,by rw[HV.out],by omega,by omega,?_,?_⟩
     ·show _=(CI na its (k+1)).length;rw[Ha.out,aD2,<-HQ.out];simp
     ·show uX _ _ _ _ _ _ _;rw[Ha.out,HV.out];exact X8.out.2.2
    ·rw[aD4 h1,aD4 h2,aET,aET]at Ha;have Hd:=aHL h1;clear h1;go_wp2;go_roundw
     case measure=>simp[intOf];omega
     refine⟨k+1,q,pS,by go_num,by rw[HV.out],by omega,by omega,?_,?_⟩
     ·show _=(CI na its (k+1)).length;rw[Ha.out,<-HQ.out]
     ·show uX _ _ _ _ _ _ _;rw[Ha.out];exact HA.out.alloc rfl _
  ·obtain rfl:k=m:=by omega
   have c0:=HA.out.c0;have wa:=HA.out.c2;have fa:=HA.out.fz 2;have hY:=HA.out.sz;have hM:=He.out k
   have Oa:Aside (wr.ownsRow (w2.heap.size+1) 3 1 pS q (ints (CI na its k))):=by
    have:=HA.out.ow;rwa[<-HQ.out]at this
   have Ha:Hid (fW na its=CI na its k++(if k=na then [(iB its k:Int)]else [])):=by show _=_;unfold fW;rw[HM.out]
   clear y0 hk hW;by_cases h1:k=na
   ·have hN:(((k:Nat):Int) ==((na:Nat):Int))=true:=by simp[h1]
    have hO:(k ==na)=true:=by simp[h1]
    rw[aD6 h1]at Ha;have Hd:=aHL h1;clear h1
    go_wp2_with(first
     |(at_builtin
       refine wpList_append_lies _ rfl _ _ 22 rfl (w2.heap.size+1) 3 i0 (.int .i64 0) 1 8 underlying22 hi hp hr hs rfl (by decide) pS q (ints (CI na its k)) (by simp[Act.eval,Act.put]) (Oa.out.alloc _) ⟨wr.heap.size,0,none⟩ 1 1 [.int .i64 (iB its k:Int)] (by simp[Act.eval,Act.put]) rfl (aaE wr _) (fun u hu=>by simp at hu;subst hu;rfl) (by decide) (by unfold maxLen;omega) (by omega) (by simp;omega) _ rfl ?_
       intro g8 c8 w8 hf hc hg hh
       have X8:=aside (uX.two HA.out HQ.out.symm hf hc)
       obtain⟨j1,j2⟩:=X8.out.1
       clear hf hc hg hh))
    go_ret;refine⟨w2.heap.size,_,_,rfl,(by rw[hC];exact X8.out.2.bx),?_,by omega,?_⟩
    ·rw[Ha.out];exact aC.of_own X8.out.2.ow
    ·exact(HB.out.trans (Hb.out.mono (by omega))).trans (X8.out.2.bl.mono (by omega))
   ·have hN:(((k:Nat):Int) ==((na:Nat):Int))=false:=by simp;omega
    have hO:(k ==na)=false:=by simpa using h1
    rw[aD4 h1,aET]at Ha;have Hd:=aHL h1;clear h1;go_wp2;go_ret;refine⟨w2.heap.size,_,_,rfl,(by rw[hC];exact HA.out.bx),?_,by omega,?_⟩
    ·rw[Ha.out];exact aC.of_own HA.out.ow
    ·exact(HB.out.trans (Hb.out.mono (by omega))).trans (HA.out.bl.mono (by omega))
end
theorem aaG (gv:Nat)(iv pS:Value)(t:List UInt8)(w:World)(h:w.heap[gv]?=some (.cells #[iv,sB t,pS] 333 (0,0))):
  Calls prog 200 #[.pointer (some ⟨gv,0,none⟩)] w fun e w'=>e=.returned (sB t)/\w=w':=by
 have c1:w.cell? ⟨gv,1,none⟩=some (sB t):=by rw[aHM w gv 1 _ _ _ h];rfl
 unfold sB at c1⊢
 clear h
 go_enter func200,ntmps200
 go_wp2
 go_ret
 exact⟨rfl,rfl⟩
theorem J9 (gv k:Nat)(iv tx pS:Value)(l:List Int)(w:World)(h:w.heap[gv]?=some (.cells #[iv,tx,pS] 333 (0,0)))(hS:aC w pS l)(hk:k<l.length)(hl:l.length<=100000):
  Calls prog 201 #[.pointer (some ⟨gv,0,none⟩),.int .i64 k] w fun e w'=>e=.returned (.tuple #[.int .i64 (l.getD k 0),.bool true])/\w=w':=by
 obtain⟨m,hm⟩:∃q,l.length=q:=⟨_,rfl⟩
 obtain⟨A,c,b,off,rfl,hc⟩:=sJ hS hm
 obtain⟨rfl,_,ha⟩:=hc (by omega)
 have c1:=ha k (by omega)
 have c2:w.cell? ⟨gv,2,none⟩=some (.slice (some ⟨b,off,none⟩) m c):=by rw[aHM w gv 2 _ _ _ h];rfl
 obtain⟨x,hx⟩:∃x,l.getD k 0=x:=⟨_,rfl⟩
 rw[hx]at c1⊢
 have hb:k<m:=by omega
 clear h hS ha hx hk hm hl
 go_enter func201,ntmps201
 go_wp2
 go_ret2
 exact⟨rfl,rfl⟩
section
variable {L:Lc}{d:Dr}{its:List It}{k:Nat}
structure DG (L:Lc):Prop where
 dig:∀k,(L.dig k).length<=3
 dec:L.dec.length<=3
 grp:L.grp.length<=3
 lah:(L.ahead.flatten).length<=12
 lbh:(L.behind.flatten).length<=12
 ah:∀t∈L.ahead,t.length<=64
 bh:∀t∈L.behind,t.length<=64
 na:L.ahead.length<=20
 nb:L.behind.length<=20
def xP (s:Nat):List It->Prop
 |[]=>True
 |x::l=>x.2.1.length<=64/\((x.2.2= -1/\xP s l)∨(x.2.2=(s:Int)/\xP (s+1) l))
def nG:List It->Nat
 |[]=>0
 |x::l=>(if 0<=x.2.2 then 1 else 0)+nG l
theorem lI:∀{a b:List It} {s:Nat},xP s a->xP (s+nG a) b->xP s (a++b)
 |[],_,_,_,h=>by simpa [nG]using h
 |x::a,b,s,h,k=>by
  obtain⟨h1,h2⟩:=h;refine⟨h1,?_⟩;rcases h2 with⟨e,h2⟩|⟨e,h2⟩
  ·refine .inl ⟨e,lI h2 ?_⟩;have:nG (x::a)=nG a:=by simp[nG,e]
   rwa[this]at k
  ·refine .inr ⟨e,lI h2 ?_⟩
   have:nG (x::a)=1+nG a:=by
    simp only[nG];rw[aD6 (by omega)]
   rw[this]at k;rwa[show s+1+nG a=s+(1+nG a) by omega]
theorem nP (a b:List It):nG (a++b)=nG a+nG b:=by
 induction a with
 |nil=>simp[nG]
 |cons x a ih=>simp only[aGO,nG,ih];omega
theorem M4 {ts:List (List UInt8)}(h:∀t∈ts,t.length<=64)(s:Nat):xP s (cU ts)/\nG (cU ts)=0:=by
 induction ts with
 |nil=>exact⟨trivial,rfl⟩
 |cons t ts ih=>
  obtain⟨i1,i2⟩:=ih fun t ht=>h t (aEM _ ht)
  exact⟨⟨h t (aEH ..),.inl ⟨rfl,i1⟩⟩,by
   show(if(0:Int)<= -1 then 1 else 0)+nG (cU ts)=0;rw[i2];rfl⟩
theorem akP (h:DG L)(l:List Int)(n k:Nat):xP k (xM L l n k)/\nG (xM L l n k)=1:=by
 unfold xM;split
 ·exact⟨⟨aEI (h.dig _) (by decide),.inr ⟨rfl,aEI h.grp (by decide),.inl ⟨rfl,trivial⟩⟩⟩,by simp[nG]⟩
 ·exact⟨⟨aEI (h.dig _) (by decide),.inr ⟨rfl,trivial⟩⟩,by simp[nG]⟩
theorem QB (h:DG L)(l:List Int)(n:Nat):∀k,xP 0 (dY L l n k)/\nG (dY L l n k)=k
 |0=>⟨trivial,rfl⟩
 |k+1=>by
  obtain⟨i1,i2⟩:=QB h l n k;obtain⟨j1,j2⟩:=akP h l n k;refine⟨lI i1 (by rw[i2,aEV];exact j1),?_⟩;show nG (dY L l n k++xM L l n k)=_;rw[nP,i2,j2]
theorem WJ (h:DG L)(l:List Int)(n:Nat):∀k,xP (n+1) (kO L l n k)/\nG (kO L l n k)=k
 |0=>⟨trivial,rfl⟩
 |k+1=>by
  obtain⟨i1,i2⟩:=WJ h l n k;refine⟨lI i1 ?_,?_⟩
  ·rw[i2];exact⟨aEI (h.dig _) (by decide),.inr ⟨by simp,trivial⟩⟩
  ·show nG (kO L l n k++_)=_;rw[nP,i2];simp only[nG];rw[aD6 (by omega)]
theorem BK (h:DG L)(sp:d.sep=true∨d.frac=[]):xP 0 (bC L d)/\nG (bC L d)=(aJ d).length:=by
 unfold bC aJ;obtain⟨a1,a2⟩:=M4 h.ah 0;obtain⟨b1,b2⟩:=QB h d.int d.int.length d.int.length;obtain⟨c1,c2⟩:=WJ h d.frac d.int.length d.frac.length;have hI:xP 0 (cU L.ahead++dY L d.int d.int.length d.int.length):=lI a1 (by rw[a2];exact b1);have nI:nG (cU L.ahead++dY L d.int d.int.length d.int.length)=d.int.length:=by rw[nP,a2,b2];omega
 cases hs:d.sep with
 |false=>
  have hf:d.frac=[]:=by
   rcases sp with sp|sp
   ·rw[hs]at sp;cases sp
   ·exact sp
  simp only[aE0,if_false,hf,aET,aEW,kO]
  obtain⟨e1,e2⟩:=M4 h.bh d.int.length
  refine⟨lI hI (by rw[nI,aEV];exact e1),by rw[nP,nI,e2];omega⟩
 |true=>
  simp only[if_true]
  have ha:xP d.int.length [((4:Int),L.dec,(d.int.length:Int))]:=⟨aEI h.dec (by decide),.inr ⟨rfl,trivial⟩⟩
  have na:nG [((4:Int),L.dec,(d.int.length:Int))]=1:=by simp[nG]
  have hJ:=lI hI (b:=[((4:Int),L.dec,(d.int.length:Int))]) (by rw[nI,aEV];exact ha)
  have nJ:nG (cU L.ahead++dY L d.int d.int.length d.int.length++[((4:Int),L.dec,(d.int.length:Int))])=d.int.length+1:=by rw[nP,nI,na]
  have hK:=lI hJ (b:=kO L d.frac d.int.length d.frac.length) (by rw[nJ,aEV];exact c1)
  have nK:nG (cU L.ahead++dY L d.int d.int.length d.int.length++[((4:Int),L.dec,(d.int.length:Int))]++kO L d.frac d.int.length d.frac.length)=d.int.length+1+d.frac.length:=by rw[nP,nJ,c2]
  obtain⟨e1,e2⟩:=M4 h.bh (0+(d.int.length+1+d.frac.length))
  refine⟨lI hK (by rw[nK];exact e1),?_⟩
  rw[nP,nK,e2]
  simp
  omega
theorem xQ (h:DG L)(G:uQ d):(bC L d).length<=60:=by
 have h1:=J7 L d.int d.int.length d.int.length;have h2:=P7 L d.frac d.int.length d.frac.length;have:=h.na;have:=h.nb;have:=G.li;have:=G.lf;unfold bC;simp only[aD2,gL,h2];split<;>simp<;>omega
theorem M5:∀{l:List It} {s:Nat},xP s l->(iU l).length<=64*l.length
 |[],_,_=>by simp[iU]
 |x::l,s,h=>by
  have e:iU (x::l)=x.2.1++iU l:=by simp[iU]
  rw[e,aD2,aEN];have:=h.1;rcases h.2 with⟨_,h2⟩|⟨_,h2⟩
  ·have:=M5 h2;omega
  ·have:=M5 h2;omega
theorem DH:∀{l:List It} {s:Nat},xP s l->∀k,k<l.length->(mN l k).2.2= -1∨(mN l k).2.2=((s+nG (l.take k):Nat):Int)
 |[],_,_,k,hk=>absurd hk (by simp)
 |x::l,s,h,0,_=>by
  rcases h.2 with⟨e,_⟩|⟨e,_⟩
  ·exact .inl e
  ·exact .inr (by show x.2.2=((s+0:Nat):Int);rw[e];simp)
 |x::l,s,h,k+1,hk=>by
  have e:mN (x::l) (k+1)=mN l k:=by simp[mN]
  rw[e];have ha:k<l.length:=by simpa using hk
  rcases h.2 with⟨ex,h2⟩|⟨ex,h2⟩
  ·rcases DH h2 k ha with h3|h3
   ·exact .inl h3
   ·right;rw[h3];simp[nG,ex]
  ·rcases DH h2 k ha with h3|h3
   ·exact .inl h3
   ·right;rw[h3];simp only[aE1,nG];rw[aD6 (by omega)];congr 1;omega
theorem QC (l:List It)(k:Nat):nG (l.take k)<=nG l:=by
 have:=nP (l.take k) (l.drop k);rw[aFD]at this;omega
def vK (its:List It):Nat->List Int
 |0=>[]
 |k+1=>vK its k++(if 0<=(mN its k).2.2 then [(iB its (k+1):Int)]else [])
theorem vU (l:List It)(k:Nat)(hk:k<l.length):nG (l.take (k+1))=nG (l.take k)+(if 0<=(mN l k).2.2 then 1 else 0):=by
 have e:mN l k=l[k]:=by simp[mN,aD9,aEB hk]
 rw[<-aF8 hk,nP,e];simp[nG]
theorem GF (its:List It):∀k,k<=its.length->(vK its k).length=nG (its.take k)
 |0,_=>by simp[vK,nG]
 |k+1,h=>by
  have ih:=GF its k (by omega);rw[vU its k (by omega)];simp only[vK,aD2,ih];split<;>simp
theorem WK (its:List It)(na:Nat)(h0:∀k,k<na->(mN its k).2.2<0):∀k,CI na its k=if k<=na then []else(iB its na:Int)::vK its k
 |0=>by simp[CI]
 |k+1=>by
  have ih:=WK its na h0 k;simp only[CI,ih];by_cases h1:k+1<=na
  ·rw[aD6 (by omega),aD6 h1,aD4 (by omega),aD4 (by have:=h0 k (by omega);omega)];rfl
  ·rw[aD4 h1]
   have hp:k<=na->vK its k=[]:=by
    have:∀j,j<=na->vK its j=[]:=fun j=>by
     induction j with
     |zero=>intro _;rfl
     |succ j ia=>
      intro hj
      simp only[vK,ia (by omega)]
      rw[aD4 (by have:=h0 j (by omega);omega)]
      rfl
    exact this k
   by_cases h2:k=na
   ·subst h2;rw[aD6 (aD1 _),aD6 rfl];simp only[vK,hp (aD1 _)];rfl
   ·rw[aD4 (by omega),aD4 h2,aET];simp[vK]
theorem KA {na:Nat}(h0:∀k,k<na->(mN its k).2.2<0)(hn:na<=its.length):fW na its=(iB its na:Int)::vK its its.length:=by
 unfold fW;rw[WK its na h0];by_cases h:its.length=na
 ·rw[aD6 (by omega),aD6 h]
  have:∀j,j<=na->vK its j=[]:=fun j=>by
   induction j with
   |zero=>intro _;rfl
   |succ j ia=>
    intro hj
    simp only[vK,ia (by omega)]
    rw[aD4 (by have:=h0 j (by omega);omega)]
    rfl
  rw[this its.length (by omega),h];rfl
 ·rw[aD4 (by omega),aD4 h,aET]
theorem BL (L:Lc)(d:Dr):L.ahead.length<=(bC L d).length/\∀k,k<L.ahead.length->(mN (bC L d) k).2.2<0:=by
 have e:bC L d=cU L.ahead++(dY L d.int d.int.length d.int.length++(if d.sep=true then [(4,L.dec,(d.int.length:Int))]else [])++kO L d.frac d.int.length d.frac.length++cU L.behind):=by simp[bC]
 refine⟨by rw[e,aD2,gL];omega,fun k hk=>?_⟩
 have:mN (bC L d) k=(0,L.ahead.getD k [],-1):=by
  rw[e];unfold mN;rw[aD9,aEG (by rw[gL];exact hk)];simp[cU,aD9,aEB hk]
 rw[this];show(-1:Int)<0;decide
theorem uY (h:DG L)(G:uQ d):(fW L.ahead.length (bC L d)).length=(aJ d).length+1:=by
 obtain⟨h1,h2⟩:=BL L d;obtain⟨h3,h4⟩:=BK h G.sp;rw[KA h2 h1,aEN,GF _ _ (aD1 _),aFM,h4]
def o8 (its:List It)(k:Nat):Nat->Nat
 |0=>0
 |m+1=>if 0<=(mN its m).2.2/\(mN its m).2.2<(k:Int)then iB its (m+1)else o8 its k m
theorem KC (h:xP 0 its)(k:Nat)(hk:0<k):∀m,m<=its.length->(o8 its k m:Int)=if nG (its.take m)=0 then 0 else(vK its m).getD (min k (nG (its.take m))-1) 0
 |0,_=>by simp[o8,nG]
 |m+1,hm=>by
  have ih:=KC h k hk m (by omega);have hl:=GF its m (by omega);have hs:=vU its m (by omega);rcases DH h m (by omega)with e|e
  ·have hb:¬0<=(mN its m).2.2:=by omega
   rw[aD4 hb,aE2]at hs;rw[hs];simp only[o8,vK];rw[aD4 (by omega),aD4 hb,aET];exact ih
  ·rw[aEV]at e;have ha:0<=(mN its m).2.2:=by omega
   rw[aD6 ha]at hs;rw[hs,aD4 (by omega)];simp only[o8,vK];rw[aD6 ha];by_cases hc:nG (its.take m)<k
   ·rw[aD6 ⟨ha,by omega⟩,aD9,aEO (by rw[hl];omega),hl];rw[show min k (nG (its.take m)+1)-1-nG (its.take m)=0 by omega];rfl
   ·rw[aD4 (by omega),ih,aD4 (by omega)];rw[aD9,aD9,aEG (by rw[hl];omega)];rw[show min k (nG (its.take m)+1)-1=min k (nG (its.take m))-1 by omega]
theorem QD (h:DG L)(G:uQ d)(hk:k<=(aJ d).length):(fW L.ahead.length (bC L d)).getD k 0=if k=0 then(iB (bC L d) L.ahead.length:Int)else(o8 (bC L d) k (bC L d).length:Int):=by
 obtain⟨h1,h2⟩:=BL L d;obtain⟨h3,h4⟩:=BK h G.sp;rw[KA h2 h1]
 cases k with
 |zero=>rfl
 |succ k=>
  rw[aD4 (by omega),KC h3 (k+1) (by omega) _ (aD1 _),aFM,h4,aD4 (by omega),show min (k+1) (aJ d).length-1=k by omega]
  simp
theorem afB (ts:List (List UInt8)):iU (cU ts)=ts.flatten:=by
 induction ts with
 |nil=>rfl
 |cons t ts ih=>
  have:iU (cU (t::ts))=t++iU (cU ts):=by simp[iU,cU]
  rw[this,ih]
  rfl
theorem WL (h:DG L)(l:List Int)(n:Nat):∀k,(iU (dY L l n k)).length<=6*k
 |0=>by simp[dY,iU]
 |k+1=>by
  have ih:=WL h l n k;have h1:=h.dig (l.getD k 0);have h2:=h.grp;show(iU (dY L l n k++xM L l n k)).length<=_;rw[l6,aD2]
  have:(iU (xM L l n k)).length<=6:=by
   unfold xM;have h3:=h.dig (l[k]?.getD 0);split<;>simp[iU]<;>omega
  omega
theorem afC (h:DG L)(l:List Int)(n:Nat):∀k,(iU (kO L l n k)).length<=3*k
 |0=>by simp[kO,iU]
 |k+1=>by
  have ih:=afC h l n k;have h1:=h.dig (l.getD k 0);show(iU (kO L l n k++_)).length<=_;rw[l6,aD2];simp only[iU,List.flatMap_cons,List.flatMap_nil,aET]at h1 ih⊢;omega
theorem uZ (h:DG L)(G:uQ d):(iU (bC L d)).length<100:=by
 have h1:=WL h d.int d.int.length d.int.length;have h2:=afC h d.frac d.int.length d.frac.length;have h3:=h.lah;have h4:=h.lbh;have h5:=h.dec;have h6:=G.li;have h7:=G.lf;unfold bC;simp only[l6,aD2,afB]
 have:(iU (if d.sep=true then [(4,L.dec,(d.int.length:Int))]else [])).length<=3:=by
  split
  ·simpa [iU]using h5
  ·simp[iU]
 omega
theorem afD (h:DG L)(G:uQ d)(hk:k<=(aJ d).length):∃n:Nat,(fW L.ahead.length (bC L d)).getD k 0=n/\n<100:=by
 have h1:=uZ h G;rw[QD h G hk];split
 ·exact⟨_,rfl,by have:=DF (bC L d) L.ahead.length;omega⟩
 ·refine⟨_,rfl,?_⟩
  have:∀m,o8 (bC L d) k m<=(iU (bC L d)).length:=fun m=>by
   induction m with
   |zero=>simp[o8]
   |succ m ih=>
    unfold o8
    split
    ·exact DF _ _
    ·exact ih
  have:=this (bC L d).length;omega
end
section
variable {B:aE}{d:Dr}{c:Nat}{w:World}{s:Eg}
def lN (n:Int):List UInt8:=if n=0 then tC else II n.toNat
structure av1 (d:Nat):Prop where
 a:∀B,cT oA (fR B d true)=true
 b:∀B,cT oB (fR B d true)=true
 c:∀B,cT oC (fR B d true)=true
 n:∀B,pW (fR B d false)=true
 e:∀B,tZ B d=true
def afE:Arg B:=⟨MN,fun _ x=>x=xE 6 4 true,⟨trivial,trivial,trivial,trivial⟩,fun _ _ x hx=>by
 obtain⟨ys,rfl,y0,_,rfl,a0,y1,_,rfl,a1,y2,_,rfl,a2,rfl⟩:=hx;rw[show y0=_ from a0,show y1=_ from a1,show y2=_ from a2];rfl⟩
def afF {k:Nat}{l:List Int}(h:cG B k l):Arg B:=⟨.agg [.val (.bool false),.ls k],fun w x=>∃v,x=PH v/\aC w v l,⟨trivial,jM h,trivial⟩,fun _ _ x hx=>by
 obtain⟨ys,rfl,y0,_,rfl,a0,y1,_,rfl,a1,rfl⟩:=hx;rw[show y0=_ from a0];exact⟨y1,rfl,kL h a1⟩⟩
theorem uQ.stOK (h:uQ d)(hc:c<=(aJ d).length){vi vf:Value}(h1:aC w vi d.int)(h2:aC w vf d.frac):sV w vi vf d c:=
 ⟨⟨h1,h2,h.di,h.df,by have:=h.li;omega,by have:=h.lf;omega,h.sp⟩,hc,h.ng⟩
theorem akQ {D:Dr}{k:Int}(h:uQ d)(hc:c<=(aJ d).length)(hk:0<=k/\k<=9)(hA:dQ B (.val (.bool false)) 4 (.at_ 36) 5 d)(hC:NP B (.at_ 204) (.int .i64 c))(h6:cG B 6 [k])(hD:aN false (lX d c [k])=D)(hE:dQ B (.val (.bool false)) 8 (.at_ 68) 9 D)(hF:NP B (.at_ 224) (.int .i64 ((c+1:Nat):Int))){b:Bool}(hb:fZ D 6 4=b):
  aK B prog ⟨477,[PR,MN,.agg [.val (.bool false),.ls 6]],oT b⟩:=by
 have ha:qC B (oT b):=by
  cases b
  ·exact⟨iH,trivial,trivial⟩
  ·exact⟨iR hE hF,trivial,trivial⟩
 refine aU [NS hA hC,afE,afF h6] ⟨oT b,fun N w x=>if b=true then ∃vi vf,x=.tuple #[oQ vi vf D (c+1),.int .i64 0]/\aC w vi D.int/\aC w vf D.frac/\cW N vi D.int/\cW N vf D.frac else x=.tuple #[xF,.int .i64 4],ha,fun N w x hx=>by
  cases b
  ·exact(noR (B:=B) 4).inn N w x hx
  ·exact(stR hE hF).inn N w x hx⟩ ?_
 rintro w _ ⟨_,_,rfl,⟨vi,vf,rfl,k1,k2⟩,_,_,rfl,rfl,_,_,rfl,⟨v,rfl,kv⟩,rfl⟩
 have:=PI vi vf v d c 6 4 true [k] w (h.stOK hc k1 k2) kv (fun x hx=>by simp at hx;omega) (by simp) (yY (MP (oD h) c hk))
 unfold oS at this
 rw[hD,hb]at this
 exact this
theorem uE {rc:Rc}{gh:Value}{cf:Nat->Value}{us:List Value}{X:List (Nat×Value)}(hn:s.d.neg=false):dQ (cY rc gh cf s us w X) (.val (.bool false)) 4 (.at_ 36) 5 s.d:=
 ⟨cB.l,cB.r,by rw[hn];exact .val _,.atm cB.s⟩
section
variable {F:Nat->Prop}{w:World}{sh ep:Nat}{rc:Rc}{gh:Value}{cf:Nat->Value}{s:Eg}{x:vH}
theorem DI (hb:(s.beh.getD []).length+s.ah.getD 0<=5):(∀l,s.beh=some l->l.length<=14)/\(s.beh.map List.length).getD 0+s.ah.getD 0<=5:=by
 cases h:s.beh with
 |none=>rw[h]at hb;exact⟨fun l e=>(by cases e),by simpa using hb⟩
 |some l=>
  rw[h]at hb
  simp only[aFR]at hb
  exact⟨fun l' e=>by injection e with e;subst e;omega,by simpa using hb⟩
set_option maxRecDepth 100000 in
theorem afG (V:xG F w sh ep rc gh cf s x)(L:sQ rc gh)(hw:Wd w)(G:mU s){d:Nat}(hd:d<10)(R:av1 d)(hb:(s.beh.getD []).length+s.ah.getD 0<=5):
  Calls prog 30 #[.pointer (some ⟨sh,0,none⟩),sB (lE d)] w fun e w'=>e=.returned (sB (lN (stepT d s).2))/\PW (F' F w w') w' sh ep rc gh cf (stepT d s).1/\Kp F w w':=by
 obtain⟨hl,hc⟩:=DI hb
 obtain⟨D,hD⟩:∃D,aN false (lX s.d s.c [(d:Int)])=D:=⟨_,rfl⟩
 have hi:D.neg=false:=by rw[<-hD];exact fD _ _
 obtain⟨b,hb⟩:∃b,fZ D 6 4=b:=⟨_,rfl⟩
 let X:List (Nat×Value):=[(26,.agg (ints [(d:Int)]).toArray),(34,.agg (ints D.int).toArray),(38,.agg (ints D.frac).toArray),(68,.bool D.sep),(224,.int .i64 ((s.c+1:Nat):Int)),(4300,x.vb s.beh),(4304,x.va s.ah)]
 have hX:kT X=true:=by kernel_rfl
 have hA:=uE (rc:=rc) (gh:=gh) (cf:=cf) (us:=x.us) (X:=X) (w:=w) G.d.ng
 have hC:NP (cY rc gh cf s x.us w X) (.at_ 204) (.int .i64 s.c):= .atm cB.c
 have h6:cG (cY rc gh cf s x.us w X) 6 [(d:Int)]:=⟨by decide,by kernel_rfl⟩
 have hF:NP (cY rc gh cf s x.us w X) (.at_ 224) (.int .i64 ((s.c+1:Nat):Int)):= .atm (by kernel_rfl)
 have hS:pJ (cY rc gh cf s x.us w X) 8 68 9 224 D (s.c+1):=⟨⟨by decide,by kernel_rfl⟩,⟨by decide,by kernel_rfl⟩,by kernel_rfl,by kernel_rfl⟩
 have hE:dQ (cY rc gh cf s x.us w X) (.val (.bool false)) 8 (.at_ 68) 9 D:=⟨hS.l,hS.r,by rw[hi];exact .val _,.atm hS.s⟩
 have hf:∀e∈ZP d b,aK (cY rc gh cf s x.us w X) prog e:=by
  show ∀e∈[gV 4,gV 5,MO,_,_,_,_],_;refine aD (eR cB.l (by have:=G.d.li;omega)) (aD (eR cB.r (by have:=G.d.lf;omega)) (aD (L.recd _ lD cQ) (aD (MR (xK hw) (by simp) ?_) (aD (L.sgn _ d hd lD (xK hw)) (aD (L.read _ d hd lD (xK hw) h6) (aD (akQ G.d G.c ⟨by omega,by omega⟩ hA hC h6 hD hE hF hb) aH))))));have:d=0∨d=1∨d=2∨d=3∨d=4∨d=5∨d=6∨d=7∨d=8∨d=9:=by omega
  rcases this with rfl|rfl|rfl|rfl|rfl|rfl|rfl|rfl|rfl|rfl<;>decide
 have hT:∀p,((1:Int) !=s.run)=p->kY prog (cY rc gh cf s x.us w X) (ZQ 1 p):=fun p hp=>bD (aD (eT (x:=1) (y:=s.run) rfl (cS gU rfl) rfl (FR hp)) aH) aH aH aH
 have hg:stepT d s=if b=true then(⟨D,s.c+1,dF s 1,s.ah.map fun _=>0,1⟩,0)else(s,4):=by
  unfold stepT;rw[hD,hb]
 rw[hg]
 cases b with
 |false=>exact uR (told:=II 4) V hX (by kernel_rfl) (by kernel_rfl) (bD aH aH aH aH) (E:=ZP d false) hf (line:=lE d) (k:=4) (sp:=36) (j:=5) (c:=204) (runP:= .at_ 4004) (R.e _) cB rfl rfl ⟨_,gU⟩ (fun G w2 y hy=>bF gU hy)
 |true=>
  cases hp:((1:Int) !=s.run)with
  |true=>
   have hn:(1:Int)≠s.run:=by simpa using hp
   have hh:dF s 1=some (s.beh.getD []++[(s.d,s.c)]):=by unfold dF;rw[aD6 (.inr hn)]
   refine mI (told:=tC) V hX hl (hT true hp) (E:=ZP d true) hf (line:=lE d) (k:=8) (sp:=68) (j:=9) (c:=224) (runP:= .val (.int .i64 1)) rfl rfl (FL (R.a _) (R.b _) (R.c _) hc) (s':=⟨D,s.c+1,dF s 1,s.ah.map fun _=>0,1⟩) hS (.inr ?_) rfl trivial (fun G w2 y hy=>hy)
   have:=yZ (w:=w) (rc:=rc) (gh:=gh) (cf:=cf) (us:=x.us) (s:=s) hX hl
   rw[<-hh]at this
   exact this
  |false=>
   have hn:s.run=1:=(by simpa using hp:(1:Int)=s.run).symm
   have hh:dF s 1=s.beh:=by unfold dF;rw[aD4 (by rw[hn];decide)]
   obtain⟨l,ha,hj,hk⟩:=G.r (by rw[hn];decide)
   have ho:l.length<=5:=by
    rw[ha]at hc;simp at hc;omega
   refine mI (told:=tC) V hX hl (hT false hp) (E:=ZP d true) hf (line:=lE d) (k:=8) (sp:=68) (j:=9) (c:=224) (runP:= .val (.int .i64 1)) (nb:=some l.length) (na:=s.ah) (by rw[ha];rfl) rfl (PV (R.n _) hj ho hk) (s':=⟨D,s.c+1,dF s 1,s.ah.map fun _=>0,1⟩) hS ?_ rfl trivial (fun G w2 y hy=>hy)
   have:=uB (w:=w) (rc:=rc) (gh:=gh) (cf:=cf) (us:=x.us) (s:=s) hX hl
   rw[ha]at this
   show _∨∃l' pa,dF s 1=some l'/\_
   rw[hh,ha]
   exact this
end
end
section
theorem kQ (w:World):Below w.heap.size w w.drew:=⟨rfl,rfl,rfl,aD1 _,fun _ _=>rfl⟩
section
variable (S:Nat->Prop)(fb:Nat)(lp v1 v2 v3 vi vf:Value)(d:Dr)(c:Nat)(r:Rc)(L:Lc)(w:World)
set_option maxRecDepth 100000 in
theorem BM (hb:w.heap[fb]?=some (.cells (vJ lp v1 v2 v3 (pV d c vi vf)).toArray 278 (0,0)))(hL:TS S w lp r L)(hB:DG L)(G:uQ d)(h1:aC w vi d.int)(h2:aC w vf d.frac):
  Calls prog 199 #[.pointer (some ⟨fb,0,none⟩)] w fun e w'=>∃gv iv pS,e=.returned (.pointer (some ⟨gv,0,none⟩))/\w'.heap[gv]?=some (.cells #[iv,sB (iU (bC L d)),pS] 333 (0,0))/\aC w' pS (fW L.ahead.length (bC L d))/\Below w.heap.size w w':=by
 have hk:=BK hB G.sp
 have hlen:=xQ hB G
 have hN:=fun W (hW:Below w.heap.size w W)=>afA S lp r L vi vf d W (hL.below hW) (G.stOK (aES _) (h1.below hW (aD1 _)) (h2.below hW (aD1 _))).ok G.ng (by have:=M5 hk.1;omega) (by omega) (fun k hf=>by
  have h3:=QC (bC L d) k;have h4:=dM d (by have:=G.li;omega) (by have:=G.lf;omega);rcases DH hk.1 k hf with e|e<;>omega)
 have q0:w.cell? ⟨fb,0,none⟩=some lp:=by rw[aHM w fb 0 _ _ _ hb];rfl
 have qa:w.cell? ⟨fb,18,none⟩=some (.bool false):=by rw[aHM w fb 18 _ _ _ hb];rfl
 have qb:w.cell? ⟨fb,19,none⟩=some vi:=by rw[aHM w fb 19 _ _ _ hb];rfl
 have qc:w.cell? ⟨fb,20,none⟩=some (.bool d.sep):=by rw[aHM w fb 20 _ _ _ hb];rfl
 have qd:w.cell? ⟨fb,21,none⟩=some vf:=by rw[aHM w fb 21 _ _ _ hb];rfl
 obtain⟨tx,hc⟩:∃t,sB (iU (bC L d))=t:=⟨_,rfl⟩
 obtain⟨st,hd⟩:∃t,fW L.ahead.length (bC L d)=t:=⟨_,rfl⟩
 rw[hc,hd]at hN⊢
 unfold mT at hN
 simp only[G.ng]at hN
 have ha:fb<w.heap.size:=(aD5.1 hb).1
 have HN:=aHL (hN w.drew (kQ w))
 clear hN hb hL hB h1 h2 hk hlen hc hd
 go_enter func199,ntmps199
 go_wp2_with fail
 go_region_held3 (fun w'=>w'.cell? ⟨fb,0,none⟩=some lp/\w'.cell? ⟨fb,18,none⟩=some (.bool false)/\w'.cell? ⟨fb,19,none⟩=some vi/\w'.cell? ⟨fb,20,none⟩=some (.bool d.sep)/\w'.cell? ⟨fb,21,none⟩=some vf)
  (first
    |go_keep
    |(go_split_ands
      refine⟨?_,?_,?_,?_,?_⟩
      ·rw[k4.cell (p:=⟨fb,0,none⟩) ha];assumption
      ·rw[k4.cell (p:=⟨fb,18,none⟩) ha];assumption
      ·rw[k4.cell (p:=⟨fb,19,none⟩) ha];assumption
      ·rw[k4.cell (p:=⟨fb,20,none⟩) ha];assumption
      ·rw[k4.cell (p:=⟨fb,21,none⟩) ha];assumption))
  (first
    |(go_at_call 249
      refine HN.out.mono ?_
      rintro e w2 ⟨gv,iv,pS,rfl,k1,k2,k3,ka⟩
      have k4:Below w.heap.size w w2:=(kQ w).trans ka))
 go_wp2_with fail
 go_ret
 exact⟨gv,iv,pS,rfl,k1,k2,k4⟩
theorem aaH (hb:w.heap[fb]?=some (.cells (vJ lp v1 v2 v3 (pV d c vi vf)).toArray 278 (0,0)))(hL:TS S w lp r L)(hB:DG L)(G:uQ d)(h1:aC w vi d.int)(h2:aC w vf d.frac):
  Calls prog 153 #[.pointer (some ⟨fb,0,none⟩)] w fun e w'=>e=.returned (sB (iU (bC L d)))/\Below w.heap.size w w':=by
 have hV:=BM S fb lp v1 v2 v3 vi vf d c r L w hb hL hB G h1 h2
 have HV:=aHL hV
 clear hV hb hL hB h1 h2
 go_enter func153,ntmps153
 go_wp2_with fail
 refine HV.out.mono ?_
 rintro e w2 ⟨gv,iv,pS,rfl,k1,k2,k3⟩
 go_wp2_with fail
 refine(aaG gv iv pS _ w2 k1).mono ?_
 rintro e w3 ⟨rfl,rfl⟩
 go_wp2_with fail
 go_ret
 exact⟨rfl,k3⟩
theorem TZ (hb:w.heap[fb]?=some (.cells (vJ lp v1 v2 v3 (pV d c vi vf)).toArray 278 (0,0)))(hL:TS S w lp r L)(hB:DG L)(G:uQ d)(hc:c<=(aJ d).length)(h1:aC w vi d.int)(h2:aC w vf d.frac):
  Calls prog 156 #[.pointer (some ⟨fb,0,none⟩)] w fun e w'=>e=.returned (.int .i64 ((fW L.ahead.length (bC L d)).getD c 0))/\Below w.heap.size w w':=by
 have hV:=fun W (hW:Below w.heap.size w W)=>BM S fb lp v1 v2 v3 vi vf d c r L W ((hW.block fb (aD5.1 hb).1).trans hb) (hL.below hW) hB G (h1.below hW (aD1 _)) (h2.below hW (aD1 _))
 have ha:=uY hB G
 have hg:=dM d (by have:=G.li;omega) (by have:=G.lf;omega)
 have hd:fb<w.heap.size:=(aD5.1 hb).1
 have HQ:=aHL (fun W (hB:Below w.heap.size w W)=>(by rw[aHM W fb 22 _ _ _ ((hB.block fb hd).trans hb)];rfl:W.cell? ⟨fb,22,none⟩=some (.int .i64 c)))
 have qa:=HQ.out w (Below.refl _ _)
 have HV:=aHL (hV w.drew (kQ w))
 obtain⟨st,hf⟩:∃t,fW L.ahead.length (bC L d)=t:=⟨_,rfl⟩
 rw[hf]at HV ha⊢
 have HS:=aHL (show c<st.length/\st.length<=100000 by omega)
 clear hV hb hL hB h1 h2 ha hg hc hf
 go_enter func156,ntmps156
 go_wp2_with fail
 go_region_held3 (fun w'=>w'.cell? ⟨fb,22,none⟩=some (.int .i64 c))
  (first
    |go_keep
    |(rw[k3.cell (p:=⟨fb,22,none⟩) hd];assumption))
  (first
    |(go_at_call 199
      refine HV.out.mono ?_
      rintro e w2 ⟨gv,iv,pS,rfl,k1,k2,ka⟩
      have k3:Below w.heap.size w w2:=(kQ w).trans ka)
    |(go_at_call 201
      refine(J9 gv c iv _ pS st w2 k1 k2 HS.out.1 HS.out.2).mono ?_
      rintro e w3 ⟨rfl,rfl⟩))
 go_wp2_with fail
 go_ret
 exact⟨rfl,k3⟩
theorem QE (hb:w.heap[fb]?=some (.cells (vJ lp v1 v2 v3 (pV d c vi vf)).toArray 278 (0,0)))(hL:TS S w lp r L)(hB:DG L)(G:uQ d)(hc:c<=(aJ d).length)(h1:aC w vi d.int)(h2:aC w vf d.frac):
  Calls prog 157 #[.pointer (some ⟨fb,0,none⟩)] w fun e w'=>e=.returned (.int .i64 ((fW L.ahead.length (bC L d)).getD c 0))/\Below w.heap.size w w':=by
 have hV:=fun W (hW:Below w.heap.size w W)=>BM S fb lp v1 v2 v3 vi vf d c r L W ((hW.block fb (aD5.1 hb).1).trans hb) (hL.below hW) hB G (h1.below hW (aD1 _)) (h2.below hW (aD1 _))
 have ha:=uY hB G
 have hg:=dM d (by have:=G.li;omega) (by have:=G.lf;omega)
 have hd:fb<w.heap.size:=(aD5.1 hb).1
 have HQ:=aHL (fun W (hB:Below w.heap.size w W)=>(by rw[aHM W fb 23 _ _ _ ((hB.block fb hd).trans hb)];rfl:W.cell? ⟨fb,23,none⟩=some (.int .i64 c)))
 have qa:=HQ.out w (Below.refl _ _)
 have HV:=aHL (hV w.drew (kQ w))
 obtain⟨st,hf⟩:∃t,fW L.ahead.length (bC L d)=t:=⟨_,rfl⟩
 rw[hf]at HV ha⊢
 have HS:=aHL (show c<st.length/\st.length<=100000 by omega)
 clear hV hb hL hB h1 h2 ha hg hc hf
 go_enter func157,ntmps157
 go_wp2_with fail
 go_region_held3 (fun w'=>w'.cell? ⟨fb,23,none⟩=some (.int .i64 c))
  (first
    |go_keep
    |(rw[k3.cell (p:=⟨fb,23,none⟩) hd];assumption))
  (first
    |(go_at_call 199
      refine HV.out.mono ?_
      rintro e w2 ⟨gv,iv,pS,rfl,k1,k2,ka⟩
      have k3:Below w.heap.size w w2:=(kQ w).trans ka)
    |(go_at_call 201
      refine(J9 gv c iv _ pS st w2 k1 k2 HS.out.1 HS.out.2).mono ?_
      rintro e w3 ⟨rfl,rfl⟩))
 go_wp2_with fail
 go_ret
 exact⟨rfl,k3⟩
end
end
def QH (o:Option Nat):List PC:=dH 0 40++[(match o with|none=> .p (.val (.slice none 0 0))|some n=> .row 0 n 40 0),.p (.at_ 8160),.p (.at_ 8164)]
def aBK (n:Nat):List dO:=[⟨23,[.at_ 8160,.agg (lG 0 40),.val (.int .i64 1048576)],.ls 9⟩]
def ap4 (o:Option Nat)(a:List AV)(r:AV)(m:M):Bool:=match r with
 |.tup [.agg l,s]=>(match o.getD 0 with
  |0=>tK l a&&fN 0 (.val (.int .i64 7)) s
  |n+1=>yS (dH (250+40*n) 40) l&&((match l.drop 40 with
   |[x,y,z]=>jV x (.slc 0 0 n 40 (.lo 0 0))&&(fN 0 (.ls 9) y&&fN 0 (.val (.int .i64 0)) z)
   |_=>false)&&fN 0 (.val (.int .i64 0)) s))
 |_=>false
noncomputable def akS (B:aE)(o:Option Nat):Bool:=match dR B iT (bT (aBK 0)) 8 (WC (bX (bQ 1 (oX o)).2 (QH o)).1) {H:=tB (bQ 1 (oX o)).1,nb:=(oX o).length,nc:=(bX (bQ 1 (oX o)).2 (QH o)).2}with
 |some (r,m)=>ap4 o (bX (bQ 1 (oX o)).2 (QH o)).1 r m&&zE (bQ 1 (oX o)).1 m
 |none=>false
theorem afH (B:aE):([none,some 0,some 1,some 2,some 3].all fun o=>akS B o)=true:=by kernel_rfl
theorem aaJ (B:aE):([some 4,some 5,some 6].all fun o=>akS B o)=true:=by kernel_rfl
theorem akT (B:aE){o:Option Nat}(h:o.getD 0<=6):akS B o=true:=by
 rcases aEU (o.getD 0) 4 with h4|h4
 ·refine aD7.1 (afH B) o ?_
  cases o with
  |none=>simp
  |some n=>
   simp only[aFR]at h4
   have:n=0∨n=1∨n=2∨n=3:=by omega
   rcases this with rfl|rfl|rfl|rfl<;>simp
 ·refine aD7.1 (aaJ B) o ?_
  cases o with
  |none=>simp at h4
  |some n=>
   simp only[aFR]at h4 h
   have:n=4∨n=5∨n=6:=by omega
   rcases this with rfl|rfl|rfl<;>simp
theorem DK {a b:List Value}(h:∀u∈a,u.oneCell'=true)(k:∀u∈b,u.oneCell'=true):∀u∈a++b,u.oneCell'=true:=fun u hu=>(aEQ.1 hu).elim (h u) (k u)
def av2 (w:World)(us ax cs:List Value)(vb va run:Value)(e:Ending)(w':World):Nat->Prop
 |0=>e=.returned (.tuple #[.agg (cs++[vb,va,run]).toArray,.int .i64 7])
 |n+1=>∃A c vc,vb=.slice A (n+1) c/\e=.returned (.tuple #[.agg (us.drop (40*n)++[.slice A n c,vc,.int .i64 0]).toArray,.int .i64 0])/\vc.oneCell'=true/\nS (fun g=>w.heap.size<=g) w' 43 40 vc (ax++cs)
set_option maxRecDepth 100000 in
theorem WN {us cs ax:List Value}{n m:Nat}(hn:n<=6)(hm:m<=5){vb va run:Value}{w:World}(hb:nS (fun _=>True) w 43 40 vb us)(hu:us.length=40*n)(ha:nS (fun _=>True) w 43 40 va ax)(hA:ax.length=40*m)(hh:cs.length=40)
  (h1:∀u∈us,u.oneCell'=true) (h2:∀u∈ax,u.oneCell'=true) (h3:∀u∈cs,u.oneCell'=true) (hr:run.oneCell'=true) (hB:∀g,vb.ownBlock=some g->va.ownBlock≠some g):
  Calls prog 8 #[.agg (cs++[vb,va,run]).toArray] w fun e w'=>av2 w us ax cs vb va run e w' n/\Below w.heap.size w w':=by
 obtain⟨o,blk,cap,ho,p1,p2,p3,p6,pa⟩:=aeH hb hu h1
 have hC:va.oneCell'=true:=by obtain⟨A,k,c,rfl,_⟩:=ha;rfl
 let B:aE:=⟨fun g=>va.ownBlock=some g/\g<w.heap.size,w,fun i=>if i=38 then some (.iface 43 (.iface 40 (.agg (ax++cs).toArray)))else two (cs++[va,run]) us i⟩
 have hc:∀i,i%4=0->B.A i=two (cs++[va,run]) us i:=fun i hi=>aD4 (by omega)
 have hD:∀i x,B.A i=some x->i%2≠1:=fun i x h=>by
  by_cases hj:i=38
  ·omega
  ·exact FY i x ((aD4 hj).symm.trans h)
 have hlen:(cs++[va,run]).length=42:=by simp[hh]
 have hat:∀q v,(cs++[va,run])[q]?=some v->B.A (8000+4*(0+q))=some v:=fun q v hq=>(hc _ (by omega)).trans (P1 (by omega) hq)
 have hp:∀q v,cs[q]?=some v->B.A (8000+4*(0+q))=some v:=fun q v hq=>hat q v (by rw[aEG (aED.1 hq).1];exact hq)
 have hs:B.A 8160=some va:=hat 40 va (by rw[aEO (by omega),hh];rfl)
 have hE:B.A 8164=some run:=hat 41 run (by rw[aEO (by omega),hh];rfl)
 have hj:B.A (gid 9)=some (.iface 43 (.iface 40 (.agg (ax++cs).toArray))):=rfl
 obtain⟨p4,p5⟩:=pa B (fun _=>False) fun q v hq=>(hc _ (by omega)).trans (WB hq)
 have hM:aK B prog ⟨23,[.at_ 8160,.agg (lG 0 40),.val (.int .i64 1048576)],.ls 9⟩:=by
  refine⟨⟨⟨_,hs⟩,BE 40 0 fun q hq=>⟨_,hp q _ (aEB (by omega))⟩,trivial,trivial⟩,fun w1 hF xs hG=>?_⟩;obtain⟨x0,_,rfl,k0,x1,_,rfl,⟨ys,rfl,k1⟩,x2,_,rfl,k2,rfl⟩:=hG;rw[bF hs k0,show x2=_ from k2,lH cs 0 ys hp (by rw[hh];exact k1)];refine(P4 (us:=ax) (fs:=cs) hm ((nS.own ha).mono fun b hb hH=>⟨hF.old b ⟨hb,hH⟩,trivial⟩) hA hh h2 h3 (.inr rfl)).mono ?_;rintro e w2 ⟨v',rfl,q1,q2,q3⟩;exact⟨v',rfl,⟨by decide,q1,_,hj,q2⟩,q3⟩
 have hl:=akT B (o:=o) (by omega)
 unfold akS at hl
 have hv:=oU (ρ0:=Env.ini B blk cap) (B:=B) (G:=fun _=>False) (w:=w) cs 0 fun q v hq=>⟨hp q v hq,h3 v (aE6 hq)⟩
 rw[hh]at hv
 refine(mL hD (bY (bD aH aH aH aH) (bB (aD hM aH))) (sh:=WC) (sv:=fun xs=>[.agg xs.toArray]) (fun ρ a xs h=>aG.2 ⟨_,[],by unfold aO;rw[h],rfl,rfl⟩) (nc0:=1) (ib:=oX o) (ps:=QH o) (chk:=fun r m=>ap4 o (bX (bQ 1 (oX o)).2 (QH o)).1 r m) hl (by cases o<;>simp[oX]) blk cap p1 p2 p3 w ⟨fun g h=>h.2,fun _ _=>rfl⟩ (fun b q hq hk=>hB q.1 (p6 b q hq) hk.1) (G:=fun _=>False) (fun _ _ _ h=>h) p4 (cs++[vb,va,run])
  (iS hv ⟨_,_,rfl,p5,_,_,rfl,cX hs hC,_,_,rfl,cX hE hr,rfl⟩)).mono ?_
 rintro e w' ⟨x,ρ',r,m',rfl,hk,hx,O,hI,hJ,hnew⟩
 refine⟨?_,hI⟩
 unfold ap4 at hk
 split at hk
 case h_2=>cases hk
 rename_i l s
 unfold aO at hx
 split at hx
 case h_2=>cases hx
 rename_i zs hK
 injection hx with hx
 subst hx
 obtain⟨z1,z2,g1,g2,rfl⟩:=aG.1 hK
 obtain⟨z3,z4,g3,g4,rfl⟩:=aG.1 g2
 have:z4=[]:=by
  unfold aT at g4;injection g4 with g4
  exact g4.symm
 subst this
 unfold aO at g1
 split at g1
 case h_2=>cases g1
 rename_i ys hf
 injection g1 with g1
 subst g1
 rw[ho]at hk
 cases n with
 |zero=>
  rw[aD3]at hk
  have e1:=oH hk.1
  subst e1
  rw[hJ]at hf
  injection hf with hf
  subst hf
  have e2:z3=_:=O.mat (.p (.val (.int .i64 7))) s z3 hk.2 trivial g3
  subst e2
  rfl
 |succ n=>
  simp only[aD3]at hk
  obtain⟨k1,k2,k3⟩:=hk
  have e2:z3=_:=O.mat (.p (.val (.int .i64 0))) s z3 k3 trivial g3
  subst e2
  split at k2
  case h_2=>cases k2
  rename_i x y z hd
  simp only[aD3]at k2
  obtain⟨k4,k5,k6⟩:=k2
  have ht:l.length=43:=by
   have:=aEK List.length hd;simp only[aF7,aEN,aEW]at this;omega
  have hg:∀i,(l.drop 40)[i]?=l[40+i]?:=fun i=>aFX
  rw[hd]at hg
  obtain⟨v1,i1,j1⟩:=oE hf (hg 0).symm
  obtain⟨v2,i2,j2⟩:=oE hf (hg 1).symm
  obtain⟨v3,i3,j3⟩:=oE hf (hg 2).symm
  have e3:v3=_:=O.mat (.p (.val (.int .i64 0))) z v3 k6 trivial j3
  obtain⟨_,q1,gh,q2,q3⟩:=O.mat (.p (.ls 9)) y v2 k5 ⟨by decide,_,hj⟩ j2
  rw[hj]at q2
  injection q2 with q2
  subst q2
  have e1:=eF k4
  subst e1
  obtain rfl:o=some (n+1):=by
   cases o with
   |none=>simp at ho
   |some k=>simp only[aFR]at ho;rw[ho]
  have hle:(Env.ini B blk cap).le ρ':=⟨fun h=>O.fix _ _ h,fun h=>O.capf _ _ h,fun h=>O.has _ _ h⟩
  have hvb:aO ρ' (.slc 0 0 (n+1) 40 (.lo 0 0))=some vb:=jS hle _ p5
  unfold aO fT at hvb j1
  simp only at hvb j1
  split at hvb
  case h_2=>cases hvb
  rename_i g o1 z1 mm κ hL hN
  rw[hL,hN]at j1
  simp only at j1
  split at hvb
  case isFalse=>cases hvb
  split at j1
  case isFalse=>cases j1
  injection hvb with hvb
  injection j1 with j1
  subst hvb j1
  have hz:(us.drop (40*n)).length=40:=by rw[aF7];omega
  have hP:ys.length=43:=(bN hf).trans ht
  obtain⟨q4,_⟩:=O.mats (dH (250+40*n) 40) l ys k1 (by
   exact zG 40 _ fun q hq=>⟨_,(hc _ (by omega)).trans (by rw[show 250+40*n+q=250+(40*n+q) by omega];exact WB (aEB (by omega)))⟩) hf
  have hO:=uU (us.drop (40*n)) (250+40*n) ys (fun q v hq=>(hc _ (by omega)).trans (by rw[show 250+40*n+q=250+(40*n+q) by omega];exact WB (by rw[<-hq,aFX]))) (by rw[hz];exact q4)
  refine⟨_,_,v2,rfl,?_,q1,?_⟩
  ·congr 3
   have:ys=us.drop (40*n)++[.slice (some ⟨g,o1+0,none⟩) n (κ-0),v2,.int .i64 0]:=by
    refine aF1 fun i=>?_
    rcases aEU i 40 with hi|hi
    ·rw[hO i (by omega),aEG (by omega)]
    ·rw[aEO (by omega),hz];have:i=40∨i=41∨i=42∨43<=i:=by omega
     rcases this with rfl|rfl|rfl|hQ
     ·exact i1
     ·exact i2
     ·exact i3.trans (by rw[e3];rfl)
     ·rw[List.getElem?_eq_none_iff.2 (by omega)];exact(List.getElem?_eq_none_iff.2 (by simp;omega)).symm
   rw[this]
  ·exact nS.mono (show nS _ w' 43 40 v2 (ax++cs).toArray.toList from q3) fun b hb _=>⟨rfl,hb.1.resolve_left (fun h=>h)⟩
section
variable {na:Option Nat}{B:aE}{d:Dr}{c k j:Nat}{p q cp:eG}
structure av3:Prop where
 a:∀B,cT oA (PT B true)=true
 b:∀B,cT oB (PT B true)=true
 c:∀B,cT oC (PT B true)=true
 n:∀B,pW (PT B false)=true
 e1:∀B,V7 B true=true
 e2:∀B,V7 B false=true
structure aaL:Prop where
 a:∀B,([0,1].all fun n=>uA.all fun na=>!Nat.ble (n+1+na.getD 0) 5 || TQ B n na)=true
 b:∀B,([2,3,4].all fun n=>uA.all fun na=>!Nat.ble (n+1+na.getD 0) 5 || TQ B n na)=true
 e:∀B,(uA.all fun na=>PU B none na&&PU B (some 0) na)=true
theorem aaL.at_ (R:aaL)(B:aE){n:Nat}(h:n+1+na.getD 0<=5):TQ B n na=true:=by
 have key:∀l:List Nat,n∈l->(l.all fun n=>uA.all fun na=>!Nat.ble (n+1+na.getD 0) 5 || TQ B n na)=true->TQ B n na=true:=fun l hl h'=>by
  have h1:=aD7.1 (aD7.1 h' n hl) na (rG (by omega));rw[aG9 h]at h1;simpa using h1
 have:n=0∨n=1∨n=2∨n=3∨n=4:=by omega
 rcases this with hn|hn|hn|hn|hn
 ·exact key [0,1] (by simp[hn]) (R.a B)
 ·exact key [0,1] (by simp[hn]) (R.a B)
 ·exact key [2,3,4] (by simp[hn]) (R.b B)
 ·exact key [2,3,4] (by simp[hn]) (R.b B)
 ·exact key [2,3,4] (by simp[hn]) (R.b B)
theorem aaL.no (R:aaL)(B:aE){nb:Option Nat}(hn:nb=none∨nb=some 0)(h:na.getD 0<=5):PU B nb na=true:=by
 have h1:=aD7.1 (R.e B) na (rG h);rw[aD3]at h1;rcases hn with rfl|rfl
 ·exact h1.1
 ·exact h1.2
theorem akV {D:Dr}(h:uQ d)(hc:c<=(aJ d).length)(hA:dQ B (.val (.bool false)) 4 (.at_ 36) 5 d)(hC:NP B (.at_ 204) (.int .i64 c))(hD:aN false (pH d c)=D)(hE:dQ B (.val (.bool false)) 8 (.at_ 68) 9 D)(hF:NP B (.at_ 232) (.int .i64 ((c-1:Nat):Int))){z b:Bool}(hz:decide (c=0)=z)(hb:z=false->fZ D 6 4=b):
  aK B prog ⟨502,[PR,MN,.val (.int .i64 0)],FC z b⟩:=by
 have ha:qC B (FC z b):=by
  cases z
  ·cases b
   ·exact⟨iH,trivial,trivial⟩
   ·exact⟨iR hE hF,trivial,trivial⟩
  ·exact⟨iH,trivial,trivial⟩
 refine aU [NS hA hC,afE,rP (.val (.int .i64 0))] ⟨FC z b,fun N w x=>if z=true then x=.tuple #[xF,.int .i64 7]else if b=true then ∃vi vf,x=.tuple #[oQ vi vf D (c-1),.int .i64 0]/\aC w vi D.int/\aC w vf D.frac/\cW N vi D.int/\cW N vf D.frac else x=.tuple #[xF,.int .i64 4],ha,fun N w x hx=>by
  cases z
  ·cases b
   ·exact(noR (B:=B) 4).inn N w x hx
   ·exact(stR hE hF).inn N w x hx
  ·exact(noR (B:=B) 7).inn N w x hx⟩ ?_
 rintro w _ ⟨_,_,rfl,⟨vi,vf,rfl,k1,k2⟩,_,_,rfl,rfl,_,_,rfl,rfl,rfl⟩
 have:=TM vi vf d c 6 4 true w (h.stOK hc k1 k2) (yY (MQ (oD h) c))
 unfold AZ at this
 rw[hD]at this
 refine this.mono ?_
 rintro e w' ⟨x,rfl,hx,hd⟩
 refine⟨x,rfl,?_,hd⟩
 show if z=true then _ else _
 by_cases h0:c=0
 ·rw[aD6 h0]at hx;rw[aE8 h0]at hz;subst hz;exact hx
 ·rw[aD4 h0]at hx;rw[aEC h0]at hz;subst hz;rw[hb rfl]at hx;exact hx
section
variable {F:Nat->Prop}{w:World}{sh ep:Nat}{rc:Rc}{gh:Value}{cf:Nat->Value}{s:Eg}{x:vH}
set_option maxRecDepth 100000 in
theorem afK (V:xG F w sh ep rc gh cf s x)(L:sQ rc gh)(hw:Wd w)(G:mU s)(R:av3)(hb:(s.beh.getD []).length+s.ah.getD 0<=5):
  Calls prog 30 #[.pointer (some ⟨sh,0,none⟩),sB jO] w fun e w'=>e=.returned (sB (lN (oV s).2))/\PW (F' F w w') w' sh ep rc gh cf (oV s).1/\Kp F w w':=by
 obtain⟨hl,hd⟩:=DI hb
 obtain⟨D,hD⟩:∃D,aN false (pH s.d s.c)=D:=⟨_,rfl⟩
 have hh:D.neg=false:=by rw[<-hD];exact fD _ _
 obtain⟨b,hb⟩:∃b,fZ D 6 4=b:=⟨_,rfl⟩
 obtain⟨z,hz⟩:∃z,decide (s.c=0)=z:=⟨_,rfl⟩
 let X:List (Nat×Value):=[(34,.agg (ints D.int).toArray),(38,.agg (ints D.frac).toArray),(68,.bool D.sep),(232,.int .i64 ((s.c-1:Nat):Int)),(4300,x.vb s.beh),(4304,x.va s.ah)]
 have hX:kT X=true:=by kernel_rfl
 have hA:=uE (rc:=rc) (gh:=gh) (cf:=cf) (us:=x.us) (X:=X) (w:=w) G.d.ng
 have hC:NP (cY rc gh cf s x.us w X) (.at_ 204) (.int .i64 s.c):= .atm cB.c
 have hF:NP (cY rc gh cf s x.us w X) (.at_ 232) (.int .i64 ((s.c-1:Nat):Int)):= .atm (by kernel_rfl)
 have hS:pJ (cY rc gh cf s x.us w X) 8 68 9 232 D (s.c-1):=⟨⟨by decide,by kernel_rfl⟩,⟨by decide,by kernel_rfl⟩,by kernel_rfl,by kernel_rfl⟩
 have hE:dQ (cY rc gh cf s x.us w X) (.val (.bool false)) 8 (.at_ 68) 9 D:=⟨hS.l,hS.r,by rw[hh];exact .val _,.atm hS.s⟩
 have ha:∀b',(z=false->fZ D 6 4=b')->∀e∈TP z b',aK (cY rc gh cf s x.us w X) prog e:=fun b' hi=>by
  show ∀e∈[gV 4,gV 5,MO,_],_;exact aD (eR cB.l (by have:=G.d.li;omega)) (aD (eR cB.r (by have:=G.d.lf;omega)) (aD (L.recd _ lD cQ) (aD (akV G.d G.c hA hC hD hE hF hz hi) aH)))
 have hT:∀p,((2:Int) !=s.run)=p->kY prog (cY rc gh cf s x.us w X) (ZQ 2 p):=fun p hp=>bD (aD (eT (x:=2) (y:=s.run) rfl (cS gU rfl) rfl (FR hp)) aH) aH aH aH
 have hf:oV s=if z=true then(s,7)else if b=true then(⟨D,s.c-1,dF s 2,s.ah.map fun _=>0,2⟩,0)else(s,4):=by
  unfold oV;rw[hD,hb];by_cases h0:s.c=0
  ·rw[aD6 h0,<-hz,aE8 h0,aD6 rfl]
  ·rw[aD4 h0,<-hz,aEC h0];rfl
 rw[hf]
 cases z with
 |true=>exact uR (told:=II 7) V hX (by kernel_rfl) (by kernel_rfl) (bD aH aH aH aH) (E:=TP true false) (ha false (fun h=>by cases h)) (line:=jO) (k:=4) (sp:=36) (j:=5) (c:=204) (runP:= .at_ 4004) (R.e1 _) cB rfl rfl ⟨_,gU⟩ (fun G w2 y hy=>bF gU hy)
 |false=>
  cases b with
  |false=>exact uR (told:=II 4) V hX (by kernel_rfl) (by kernel_rfl) (bD aH aH aH aH) (E:=TP false false) (ha false (fun _=>hb)) (line:=jO) (k:=4) (sp:=36) (j:=5) (c:=204) (runP:= .at_ 4004) (R.e2 _) cB rfl rfl ⟨_,gU⟩ (fun G w2 y hy=>bF gU hy)
  |true=>
   cases hp:((2:Int) !=s.run)with
   |true=>
    have hn:(2:Int)≠s.run:=by simpa using hp
    have hg:dF s 2=some (s.beh.getD []++[(s.d,s.c)]):=by unfold dF;rw[aD6 (.inr hn)]
    refine mI (told:=tC) V hX hl (hT true hp) (E:=TP false true) (ha true (fun _=>hb)) (line:=jO) (k:=8) (sp:=68) (j:=9) (c:=232) (runP:= .val (.int .i64 2)) rfl rfl (FL (R.a _) (R.b _) (R.c _) hd) (s':=⟨D,s.c-1,dF s 2,s.ah.map fun _=>0,2⟩) hS (.inr ?_) rfl trivial (fun G w2 y hy=>hy)
    have:=yZ (w:=w) (rc:=rc) (gh:=gh) (cf:=cf) (us:=x.us) (s:=s) hX hl
    rw[<-hg]at this
    exact this
   |false=>
    have hn:s.run=2:=(by simpa using hp:(2:Int)=s.run).symm
    have hg:dF s 2=s.beh:=by unfold dF;rw[aD4 (by rw[hn];decide)]
    obtain⟨l,hc,hj,hk⟩:=G.r (by rw[hn];decide)
    have ho:l.length<=5:=by
     rw[hc]at hd;simp at hd;omega
    refine mI (told:=tC) V hX hl (hT false hp) (E:=TP false true) (ha true (fun _=>hb)) (line:=jO) (k:=8) (sp:=68) (j:=9) (c:=232) (runP:= .val (.int .i64 2)) (nb:=some l.length) (na:=s.ah) (by rw[hc];rfl) rfl (PV (R.n _) hj ho hk) (s':=⟨D,s.c-1,dF s 2,s.ah.map fun _=>0,2⟩) hS ?_ rfl trivial (fun G w2 y hy=>hy)
    have:=uB (w:=w) (rc:=rc) (gh:=gh) (cf:=cf) (us:=x.us) (s:=s) hX hl
    rw[hc]at this
    show _∨∃l' pa,dF s 2=some l'/\_
    rw[hg,hc]
    exact this
theorem WR (h:uQ d)(hc:c<=(aJ d).length)(hA:dQ B p k q j d)(hC:NP B cp (.int .i64 c)):aK B prog ⟨245,[sW p k q j cp],.val (.bool true)⟩:=by
 refine aU [NS hA hC] (yO (.val (.bool true)) rfl) ?_;rintro w _ ⟨_,_,rfl,⟨vi,vf,rfl,k1,k2⟩,rfl⟩;exact(sH vi vf d c w (h.stOK hc k1 k2)).mono (by rintro e w' ⟨rfl,hb⟩;exact⟨_,rfl,rfl,hb⟩)
theorem afL (h:uQ d)(hc:c<=(aJ d).length)(hA:dQ B p k q j d)(hC:NP B cp (.int .i64 c)):aK B prog ⟨205,[sW p k q j cp],.tup [cp,cp]⟩:=by
 refine aU [NS hA hC] ⟨.tup [cp,cp],fun _ _ x=>x=.tuple #[.int .i64 c,.int .i64 c],⟨hC.wf,hC.wf,trivial⟩,fun _ _ x hx=>by rw[hx];exact⟨_,rfl,_,_,rfl,hC.inn rfl,_,_,rfl,hC.inn rfl,rfl⟩⟩ ?_;rintro w _ ⟨_,_,rfl,⟨vi,vf,rfl,k1,k2⟩,rfl⟩;exact(pU vi vf d c w (h.stOK hc k1 k2)).mono (by rintro e w' ⟨rfl,hb⟩;exact⟨_,rfl,rfl,hb⟩)
set_option maxRecDepth 100000 in
theorem afM (V:xG F w sh ep rc gh cf s x)(L:sQ rc gh)(G:mU s)(R:∀B,ao8 B=true):
  Calls prog 30 #[.pointer (some ⟨sh,0,none⟩),sB tY] w fun e w'=>e=.returned (sB (lN (CF s).2))/\PW (F' F w w') w' sh ep rc gh cf (CF s).1/\Kp F w w':=by
 let X:List (Nat×Value):=[(228,.int .i64 ((s.c:Int)-1)),(232,.int .i64 ((s.c-1:Nat):Int)),(4300,x.vb s.beh),(4304,x.va s.ah)]
 have hX:kT X=true:=by kernel_rfl
 have hA:=uE (rc:=rc) (gh:=gh) (cf:=cf) (us:=x.us) (X:=X) (w:=w) G.d.ng
 have hC:NP (cY rc gh cf s x.us w X) (.at_ 204) (.int .i64 s.c):= .atm cB.c
 have hc:=G.c
 have ha:=dM s.d (by have:=G.d.li;omega) (by have:=G.d.lf;omega)
 have ea:(cY rc gh cf s x.us w X).A 228=some (.int .i64 ((s.c:Int)-1)):=by kernel_rfl
 have eb:(cY rc gh cf s x.us w X).A 232=some (.int .i64 ((s.c-1:Nat):Int)):=by kernel_rfl
 refine uR (told:=tC) V hX (by kernel_rfl) (by kernel_rfl) (T:=au6) (bD (aD ?_ (aD ?_ aH)) aH (aD ⟨(s.c:Int)-1,0,cS ea rfl,rfl,?_⟩ aH) aH) (E:=au3) ?_ (line:=tY) (k:=4) (sp:=36) (j:=5) (c:=232) (runP:= .val (.int .i64 0)) (R _) (s':=⟨s.d,s.c-1,s.beh,s.ah,0⟩) ⟨cB.l,cB.r,cB.s,eb⟩ rfl rfl trivial (fun G w2 y hy=>hy)
 ·exact eT (x:=(s.c:Int)) (y:=(s.c:Int)) (cS cB.c rfl) (cS cB.c rfl) rfl (lA (by simp))
 ·exact eT (x:=(s.c:Int)) (y:=1) (cS cB.c rfl) rfl (cS ea rfl) (fO (by rw[aR _ (by omega) (by omega)]))
 ·show sv _ (.atom 232)=some (.int .i64 (max ((s.c:Int)-1) 0));rw[cS eb rfl];congr 2;omega
 ·show ∀e∈[gV 4,gV 5,MO,_,_],_;exact aD (eR cB.l (by have:=G.d.li;omega)) (aD (eR cB.r (by have:=G.d.lf;omega)) (aD (L.recd _ lD cQ) (aD (WR G.d G.c hA hC) (aD (afL G.d G.c hA hC) aH))))
set_option maxRecDepth 100000 in
theorem afN (V:xG F w sh ep rc gh cf s x)(L:sQ rc gh)(hw:Wd w)(G:mU s)(R:aaL)(hb:(s.beh.getD []).length+s.ah.getD 0<=5):
  Calls prog 30 #[.pointer (some ⟨sh,0,none⟩),sB nE] w fun e w'=>e=.returned (sB (lN (kB s).2))/\PW (F' F w w') w' sh ep rc gh cf (kB s).1/\Kp F w w':=by
 obtain⟨hl,ha⟩:=DI hb
 have hX:kT []=true:=rfl
 have hh:∀e∈yX,aK (cY rc gh cf s x.us w []) prog e:=by
  show ∀e∈[gV 4,gV 5,MO],_;exact aD (eR cB.l (by have:=G.d.li;omega)) (aD (eR cB.r (by have:=G.d.lf;omega)) (aD (L.recd _ lD cQ) aH))
 unfold kB
 cases hlast:(s.beh.getD []).getLast? with
 |none=>
  have h0:s.beh.getD []=[]:=List.getLast?_eq_none_iff.1 hlast
  have hn:s.beh.map List.length=none∨s.beh.map List.length=some 0:=by
   cases hbe:s.beh with
   |none=>exact .inl rfl
   |some l=>rw[hbe]at h0;simp at h0;subst h0;exact .inr rfl
  exact mI (told:=II 7) V hX hl (bD aH aH aH aH) (E:=yX) hh (line:=nE) (k:=4) (sp:=36) (j:=5) (c:=204) (runP:= .at_ 4004) rfl rfl (R.no _ hn (by omega)) (s':=s) cB (uB hX hl) rfl ⟨_,gU⟩ (fun G w2 y hy=>bF gU hy)
 |some q=>
  cases hbe:s.beh with
  |none=>rw[hbe]at hlast;cases hlast
  |some l=>
   rw[hbe]at hlast
   simp only[aFR]at hlast
   have hi:l≠[]:=fun e=>by rw[e]at hlast;cases hlast
   have hj:0<l.length:=List.length_pos_iff.2 hi
   obtain⟨n,hn⟩:∃n,l.length=n+1:=⟨l.length-1,by omega⟩
   have hd:l[n]?=some q:=by
    rw[List.getLast?_eq_getElem?,hn]at hlast;exact hlast
   have hq:=G.b q (by rw[hbe];exact List.mem_of_getLast? hlast)
   have hS:=FH (rc:=rc) (gh:=gh) (cf:=cf) (us:=x.us) (w:=w) hX (by rw[hbe];rfl) (hl l hbe) n q hd
   rw[aEV]at hS
   have hA:dQ (cY rc gh cf s x.us w []) (.val (.bool false)) (20+2*n) (.at_ (6000+16*n)) (21+2*n) q.1:=⟨hS.l,hS.r,by rw[hq.1.ng];exact .val _,.atm hS.s⟩
   have hf:fZ q.1 6 4=true:=by
    unfold fZ;simp[hq.1.li,hq.1.lf]
   have hg:l.dropLast.length=n:=by simp[hn]
   refine mI (told:=tC) V hX hl (bD aH aH aH aH) (E:=au5 n) ?_ (line:=nE) (k:=20+2*n) (sp:=6000+16*n) (j:=21+2*n) (c:=6004+16*n) (runP:= .val (.int .i64 0)) (behP:=some (n,jZ 0 n)) (na':=some (s.ah.getD 0+1)) (nb:=some (n+1)) (na:=s.ah) (by rw[hbe];simp[hn]) rfl (R.at_ _ (by rw[hbe]at ha;simp[hn]at ha;omega)) (s':=⟨q.1,q.2,some ((some l).getD []).dropLast,some (s.ah.getD 0+1),0⟩) hS (.inr ⟨l.dropLast,jZ 0 n,rfl,by rw[hg],by rw[nY,hg],?_,fun ρ G2 w2 vs h hv=>?_⟩) rfl trivial (fun G w2 y hy=>hy)
   ·have h2:∀e∈[gV (20+2*n),gV (21+2*n),⟨245,[au4 n],.val (.bool true)⟩,⟨246,[pG (.val (.bool false)) (20+2*n) (.at_ (6000+16*n)) (21+2*n),.val (.int .i64 6),.val (.int .i64 4)],.val (.bool true)⟩,⟨247,[tX],.tup [.ls 7,.val .nilIface]⟩],aK (cY rc gh cf s x.us w []) prog e:=by
     refine aD (eR hS.l (by have:=hq.1.li;omega)) (aD (eR hS.r (by have:=hq.1.lf;omega)) (aD (WR hq.1 hq.2 hA (.atm hS.c)) (aD ?_ (aD (L.new _ lD cQ (xK hw)) aH))));refine aU [ME hA,rP (.val (.int .i64 6)),rP (.val (.int .i64 4))] (yO (.val (.bool true)) rfl) ?_;rintro w _ ⟨_,_,rfl,⟨vi,vf,rfl,k1,k2⟩,_,_,rfl,rfl,_,_,rfl,rfl,rfl⟩;have:=xD vi vf q.1 6 4 w k1 k2;rw[hf]at this;exact this.mono (by rintro e w' ⟨rfl,hb⟩;exact⟨_,rfl,rfl,hb⟩)
    intro e he;rcases aEQ.1 he with he|he
    ·exact hh e he
    ·exact h2 e he
   ·have hk:hU (cY rc gh cf s x.us w []) (jZ 0 l.length):=by
     rcases uB (w:=w) (rc:=rc) (gh:=gh) (cf:=cf) (us:=x.us) hX hl with⟨_,h⟩|⟨l',pa,h1,h2,h3,h4,h5⟩
     ·rw[hbe]at h;cases h
     ·rw[hbe]at h1 h2;injection h1 with h1
      subst h1;injection h2 with h2
      injection h2 with _ h2
      rw[h2];exact h4
    have key:∀(a i m:Nat),a<=m->hU (cY rc gh cf s x.us w []) (jZ i m)->hU (cY rc gh cf s x.us w []) (jZ i a):=by
     intro a;induction a with
     |zero=>intro i m _ _;trivial
     |succ a ih=>
      intro i m hp h
      obtain⟨m,rfl⟩:∃k,m=k+1:=⟨m-1,by omega⟩
      have ho:∀{a b:List PC},hU (cY rc gh cf s x.us w []) (a++b)->hU (cY rc gh cf s x.us w []) a/\hU (cY rc gh cf s x.us w []) b:=by
       intro a;induction a with
       |nil=>intro b h;exact⟨trivial,h⟩
       |cons y a ia=>intro b h;exact⟨⟨h.1,(ia h.2).1⟩,(ia h.2).2⟩
      obtain⟨h1,h2⟩:=ho (a:=ZN i) (b:=jZ (i+1) m) h
      exact hZ h1 (ih (i+1) m (by omega) h2)
    exact key n 0 l.length (by omega) hk
   ·have:=MK (ρ0:=ρ) (G:=G2) (w:=w2) (cQ (rc:=rc) (gh:=gh) (cf:=cf) (s:=s) (us:=x.us) (X:=[]) (w:=w)) l.dropLast 0 vs (fun q' t hc=>FH hX (by rw[hbe];rfl) (hl l hbe) q' t (by
     have hr:q'<l.dropLast.length:=(aED.1 hc).1;rw[List.getElem?_dropLast]at hc;rw[aD6 (by omega)]at hc;exact hc)) (by rw[hg];exact h) hv
    exact this
end
end
section
variable {B:aE}
def eL (n:Nat):List UInt8:=if n<10 then [UInt8.ofNat (48+n)]else [UInt8.ofNat (48+n/10),UInt8.ofNat (48+n%10)]
noncomputable def WT (B:aE)(n:Nat):Bool:=match dR B (mR [] [] [] []) (bT []) 194 [.lit (.int .i64 n)] {}with
 |some (r,_)=>fN 0 (.val (sB (eL n))) r
 |none=>false
theorem aaR (B:aE):(List.range 100).all (WT B)=true:=by kernel_rfl
set_option maxRecDepth 100000 in
theorem af2 (ha:∀i x,B.A i=some x->i%2≠1){n i j:Nat}(hn:n<100)(hi:B.A i=some (.int .i64 n))(hj:B.A j=some (sB (eL n))):aK B prog ⟨194,[.at_ i],.at_ j⟩:=by
 have hr:=aD7.1 (aaR B) n (aEE.2 hn);unfold WT at hr;have h:aK B prog ⟨194,[.val (.int .i64 n)],.val (sB (eL n))⟩:=sD ha (bY (q:=mR [] [] [] []) (bD aH aH aH aH) (orc:=bT []) (bB aH)) rfl ⟨trivial,trivial⟩ trivial hr;refine⟨⟨⟨_,hi⟩,trivial⟩,fun w hu xs hc=>?_⟩;obtain⟨y,_,rfl,hy,rfl⟩:=hc;rw[bF hi hy];refine(h.2 w hu [.int .i64 n] ⟨_,_,rfl,rfl,rfl⟩).mono ?_;rintro e w' ⟨x,rfl,hx,hb⟩;exact⟨x,rfl,by rw[show x=_ from hx];exact⟨hj,rfl⟩,hb⟩
def WU (m:M)(b:Nat):Bool:=match m.H.get b with
 |some (.cells t' cs tg)=>tg&&(Nat.beq t' 278&&(Nat.beq cs.length 24&&yS (B4 kS) cs))
 |_=>false
def WV (l:List (FuncId×Nat)):bM:=fun f args m=>match l.find? (fun p=>Nat.beq f p.1)with
 |some p=>match args with
  |[.ptr b o]=>if Nat.beq o 0&&WU m b then some (.atom p.2,m)else none
  |_=>none
 |none=>none
theorem Out.self {ρ:Env}{m:M}{w:World}(h:bK ρ m w)(k:eM B ρ m w):Out B (fun _=>True) ρ w ρ m w:=
 ⟨h,fun i x hi=>k.at_ i x hi,fun _ _ h=>h,fun n v hn ho=>by
   obtain⟨_,gh,h1,h2⟩:=k.rd n v hn ho;exact⟨gh,h1,h2.mono fun b hb _=>⟨rfl,.inl trivial,hb⟩⟩,rfl,rfl,rfl,aD1 _,fun _ _ _=>rfl,fun g hg=>by
   obtain⟨b,kk,q,_,h2,h3⟩:=hg;exact .inr ⟨b,q,h2,h3⟩,fun _ _ h=>h⟩
theorem QP {gh:Value}{d:Dr}{c:Nat}(h1:cG B 1 dS)(h2:cG B 2 dS)(h3:cG B 3 [1])(h7:B.A (gid 7)=some gh)(hs:pJ B 4 36 5 204 d c){l:List (FuncId×Nat)}(hl:∀p∈l,∃v,B.A p.2=some v/\v.oneCell'=true/\∀(w:World) (fb:Nat) (lp v1 v2 v3 vi vf:Value),w.heap[fb]?=some (.cells (vJ lp v1 v2 v3 (pV d c vi vf)).toArray 278 (0,0))->aC w vi d.int->aC w vf d.frac->lp.oneCell'=true->Sp (fun _=>True) w lp gh->
  Calls prog p.1 #[.pointer (some ⟨fb,0,none⟩)] w fun e w'=>e=.returned v/\Below w.heap.size w w'):cH B prog (WV l):=by
 intro f args m r m' ha ρ w xs hm hk hx
 unfold WV at ha
 split at ha
 case h_2=>cases ha
 rename_i p hf
 split at ha
 case h_2=>cases ha
 rename_i b o
 split at ha
 case isFalse=>cases ha
 rename_i hc
 injection ha with ha
 injection ha with e1 e2
 subst e1 e2
 rw[aD3]at hc
 have ho:=aEA hc.1
 subst ho
 have hd:=hc.2
 have hn:=aFW hf
 have hp:f=p.1:=aEA hn
 subst hp
 obtain⟨v,hr,ht,hv⟩:=hl p (aE7 hf)
 unfold WU at hd
 cases hg:m.H.get b with
 |none=>rw[hg]at hd;cases hd
 |some kk=>
  rw[hg]at hd
  cases kk with
  |map es=>cases hd
  |iter s q=>cases hd
  |cells t' cs tg=>
   simp only[aD3]at hd
   obtain⟨t1,t2,t3,t4⟩:=hd
   have t2:=aEA t2
   have t3:=aEA t3
   subst t1 t2
   obtain⟨g,o,z,arr,vs,k1,k2,k3,k4,k5,k6,k7,k8⟩:=hm.live b _ hg
   obtain⟨rfl,hz⟩:=k8 rfl
   have O:=Out.self hm hk
   have hA:hU B (B4 kS):=⟨⟨by decide,_,h7⟩,hZ ⟨trivial,tW h1,trivial,trivial,tW h2,trivial,trivial,tW h3,trivial,trivial,trivial,trivial,trivial,trivial,trivial,trivial,trivial,trivial⟩ (PP hs)⟩
   obtain⟨b1,_⟩:=O.mats (B4 kS) cs vs t4 hA k5
   have hF:=bN k5
   have hh:arr=(vs.take 24).toArray:=PO (by omega) (by omega) (fun j hj=>k7 j (by omega))
   obtain⟨lp,r2,rfl,d2,b1⟩:=b1
   obtain⟨u1,u2,rfl,hu,b1,ba⟩:=kA (a:=MI) b1
   obtain⟨v1,v2,v3,r3,e1,l1,l2,l3⟩:=MM h1 h2 h3 b1
   have:r3=[]:=by
    rw[e1,aD2,show(vI v1 v2 v3).length=17 from rfl,show MI.length=17 from rfl]at hu;exact aD8 (by omega)
   subst this
   rw[aET]at e1
   obtain⟨vi,vf,r4,e2,li,lf⟩:=yU hs ba
   subst e1 e2
   have e:List.take 24 (lp::(vI v1 v2 v3++(pV d c vi vf++r4)))=vJ lp v1 v2 v3 (pV d c vi vf):=by simp[vJ,vI,pV]
   rw[e]at hh
   rw[hh]at k2
   obtain⟨_,hone,ga,hB,hC⟩:=(show fG _ _ _ (.ls 7) lp from d2)
   have hD:gh=ga:=by
    have:some gh=some ga:=h7.symm.trans hB;injection this
   subst hD
   have hE:xs=#[.pointer (some ⟨g,0,none⟩)]:=by
    obtain⟨y,q,hy,hq,e⟩:=aG.1 hx;have:=FD hq;subst this;rw[gD k1]at hy;injection hy with hy
    subst hy;exact Array.toList_inj.1 (by rw[e])
   rw[hE]
   refine(hv w g lp v1 v2 v3 vi vf k2 li.1 lf.1 hone (hC.mono fun _ _ _=>⟨rfl,trivial⟩)).mono ?_
   rintro e w' ⟨rfl,hb⟩
   exact⟨ρ,v,rfl,MF (B:=B) (fun i x hi=>hk.at_ i x hi) hr ht,.of_below hm hb⟩
theorem iC (a b c:List UInt8)(h:a++b=c)(hs:a.length+b.length<=1000000)(t:TypeId)(ox oy:Operand)(w:World):(do eqGuard .add t ox oy (sB a) (sB b);binOp .add t (sB a) (sB b)).run prog w=.ok (sB c) w:=by
 subst h
 have:(⟨a.toArray⟩:ByteArray)++(⟨b.toArray⟩:ByteArray)=⟨(a++b).toArray⟩:=by
  have e:∀{x y:ByteArray},x.data.toList=y.data.toList->x=y:=fun {x y} h=>by
   cases x;cases y;congr;exact Array.toList_inj.1 h
  apply e;simp
 simp[eqGuard,binOp,Op.stringOp,sB,this,ByteArray.size];omega
def sS:List UInt8:=[115,104,111,119]
def wAt:List UInt8:=[97,116]
noncomputable def af3 (B:aE)(T:Tb)(l:List (FuncId×Nat))(E:List dO)(line:List UInt8)(p:eG):Bool:=
 match dR B T (OM (WV l) (bT E)) 30 (bX (bQ 2 yW).2 [.ptr 3,.p (.val (sB line))]).1 {H:=tB (bQ 2 yW).1,nb:=yW.length,nc:=(bX (bQ 2 yW).2 [.ptr 3,.p (.val (sB line))]).2}with
 |some (r,m)=>fN 0 p r&&FI kS (.at_ 4004) m
 |none=>false
def atT:Tb:=mR [⟨.add,.atom 4412,.lit (sB [32]),.atom 4416⟩,⟨.add,.atom 4416,.atom 4412,.atom 4420⟩] [] [] []
theorem awI (B:aE):af3 B (mR [] [] [] []) [(153,4400)] [] sS (.at_ 4400)=true:=by kernel_rfl
theorem atR (B:aE):af3 B atT [(156,4404),(157,4404)] [⟨194,[.at_ 4404],.at_ 4412⟩] wAt (.at_ 4420)=true:=by kernel_rfl
end
section
structure WW (rc:Rc) (gh:Value) (L:Lc):Prop where
 b:DG L
 lcm:∀(G:Nat->Prop) (w:World) (lp:Value),lp.oneCell'=true->Sp G w lp gh->∃S,TS S w lp rc L
def lO (L:Lc)(d:Dr)(c:Nat):Nat:=((fW L.ahead.length (bC L d)).getD c 0).toNat
theorem zN {L:Lc}(h:DG L){d:Dr}(G:uQ d){c:Nat}(hc:c<=(aJ d).length):(fW L.ahead.length (bC L d)).getD c 0=(lO L d c:Nat)/\lO L d c<100:=by
 obtain⟨n,h1,h2⟩:=afD h G hc;unfold lO;rw[h1];exact⟨by simp,by simpa using h2⟩
def lP (L:Lc)(s:Eg):List UInt8:=iU (bC L s.d)
def tAt (L:Lc)(s:Eg):List UInt8:=eL (lO L s.d s.c)++[32]++eL (lO L s.d s.c)
theorem uF (n:Nat):(eL n).length<=2:=by unfold eL;split<;>simp
section
variable {F:Nat->Prop}{w:World}{sh ep:Nat}{rc:Rc}{gh:Value}{cf:Nat->Value}{s:Eg}{x:vH}{L:Lc}
theorem af4 (V:xG F w sh ep rc gh cf s x){X:List (Nat×Value)}(hX:kT X=true)(e1:(cY rc gh cf s x.us w X).A 4300=some (x.vb s.beh))(e2:(cY rc gh cf s x.us w X).A 4304=some (x.va s.ah)){T:Tb}(hT:kY prog (cY rc gh cf s x.us w X) T){E:List dO}(hE:∀e∈E,aK (cY rc gh cf s x.us w X) prog e)
  {l:List (FuncId×Nat)} (hR:cH (cY rc gh cf s x.us w X) prog (WV l)) {line told:List UInt8} {i:Nat} (hi:(cY rc gh cf s x.us w X).A i=some (sB told)) (h:af3 (cY rc gh cf s x.us w X) T l E line (.at_ i)=true):
  Calls prog 30 #[.pointer (some ⟨sh,0,none⟩),sB line] w fun e w'=>e=.returned (sB told)/\PW (F' F w w') w' sh ep rc gh cf s/\Kp F w w':=by
 refine(V.run0 (X:=X) (f:=30) (ps:=[.ptr 3,.p (.val (sB line))]) (chk:=fun r m=>fN 0 (.at_ i) r&&FI kS (.at_ 4004) m) (xs:=[.pointer (some ⟨sh,0,none⟩),sB line]) hX e1 e2 (bY hT (EK hR (bB hE))) ⟨_,_,rfl,gD rfl,_,_,rfl,cP _,rfl⟩ h).mono ?_
 rintro e w' ⟨y,ρ',r,m',rfl,hc,hy,O⟩
 rw[aD3]at hc
 have ha:=O.mat (.p (.at_ i)) r y hc.1 ⟨_,hi⟩ hy
 refine⟨by rw[dX hi ha],V.out0 e1 e2 O hc.2 cB rfl rfl ⟨_,gU⟩ (fun G w2 y hy=>bF gU hy),O.os,O.tape,O.output,O.size,fun k hk hn=>O.keep k hk fun i q hq e=>hn ?_⟩
 rw[<-e]
 have hq:qG sh ep x i=some q:=hq
 unfold qG at hq
 split at hq
 ·injection hq with hq;subst hq;exact V.inF _ (.inl rfl)
 ·injection hq with hq;subst hq;exact V.inF _ (.inr (.inl rfl))
 ·injection hq with hq;subst hq;exact V.inF _ (.inr (.inr (.inl rfl)))
 ·injection hq with hq;subst hq;exact V.inF _ (.inr (.inr (.inr (.inl rfl))))
 ·cases hq
set_option maxRecDepth 100000 in
theorem aaS (V:xG F w sh ep rc gh cf s x)(H:WW rc gh L)(G:mU s):
  Calls prog 30 #[.pointer (some ⟨sh,0,none⟩),sB sS] w fun e w'=>e=.returned (sB (lP L s))/\PW (F' F w w') w' sh ep rc gh cf s/\Kp F w w':=by
 let X:List (Nat×Value):=[(4300,x.vb s.beh),(4304,x.va s.ah),(4400,sB (lP L s))]
 have ea:(cY rc gh cf s x.us w X).A 4400=some (sB (lP L s)):=by kernel_rfl
 refine af4 V (X:=X) (by kernel_rfl) (by kernel_rfl) (by kernel_rfl) (T:=mR [] [] [] []) (bD aH aH aH aH) (E:=[]) aH (l:=[(153,4400)]) (QP CC CD CE lD cB (aD ?_ aH)) ea (awI _)
 refine⟨_,ea,rfl,fun w fb lp v1 v2 v3 vi vf hb h1 h2 ho ha=>?_⟩
 obtain⟨S,hS⟩:=H.lcm _ w lp ho ha
 exact aaH S fb lp v1 v2 v3 vi vf s.d s.c rc L w hb hS H.b G.d h1 h2
set_option maxRecDepth 100000 in
theorem alD (V:xG F w sh ep rc gh cf s x)(H:WW rc gh L)(G:mU s):
  Calls prog 30 #[.pointer (some ⟨sh,0,none⟩),sB wAt] w fun e w'=>e=.returned (sB (tAt L s))/\PW (F' F w w') w' sh ep rc gh cf s/\Kp F w w':=by
 obtain⟨ha,hf⟩:=zN H.b G.d G.c
 obtain⟨n,hn⟩:∃n,lO L s.d s.c=n:=⟨_,rfl⟩
 have hg:tAt L s=eL n++[32]++eL n:=by unfold tAt;rw[hn]
 rw[hn]at ha hf
 rw[hg]
 have hd:=uF n
 let X:List (Nat×Value):=[(4300,x.vb s.beh),(4304,x.va s.ah),(4404,.int .i64 (n:Int)),(4412,sB (eL n)),(4416,sB (eL n++[32])),(4420,sB (eL n++[32]++eL n))]
 have hX:kT X=true:=by kernel_rfl
 have aa:(cY rc gh cf s x.us w X).A 4404=some (.int .i64 (n:Int)):=by kernel_rfl
 have ab:(cY rc gh cf s x.us w X).A 4412=some (sB (eL n)):=by kernel_rfl
 have ad:(cY rc gh cf s x.us w X).A 4416=some (sB (eL n++[32])):=by kernel_rfl
 have ae:(cY rc gh cf s x.us w X).A 4420=some (sB (eL n++[32]++eL n)):=by kernel_rfl
 refine af4 V (X:=X) hX (by kernel_rfl) (by kernel_rfl) (T:=atT) (bD (aD ⟨sB (eL n),sB [32],sB (eL n++[32]),cS ab rfl,rfl,cS ad rfl,iC _ _ _ rfl (by simp;omega)⟩ (aD ⟨sB (eL n++[32]),sB (eL n),sB (eL n++[32]++eL n),cS ad rfl,cS ab rfl,cS ae rfl,iC _ _ _ rfl (by simp;omega)⟩ aH)) aH aH aH)
  (E:=[⟨194,[.at_ 4404],.at_ 4412⟩]) (aD (af2 (ML hX) hf aa ab) aH) (l:=[(156,4404),(157,4404)]) (QP CC CD CE lD cB (aD ?_ (aD ?_ aH))) ae (atR _)
 ·refine⟨_,aa,rfl,fun w fb lp v1 v2 v3 vi vf hb h1 h2 ho hc=>?_⟩;obtain⟨S,hS⟩:=H.lcm _ w lp ho hc;rw[<-ha];exact TZ S fb lp v1 v2 v3 vi vf s.d s.c rc L w hb hS H.b G.d G.c h1 h2
 ·refine⟨_,aa,rfl,fun w fb lp v1 v2 v3 vi vf hb h1 h2 ho hc=>?_⟩;obtain⟨S,hS⟩:=H.lcm _ w lp ho hc;rw[<-ha];exact QE S fb lp v1 v2 v3 vi vf s.d s.c rc L w hb hS H.b G.d G.c h1 h2
end
end
section
variable {w w':World}{B b:Nat}{v:Value}{bs:List UInt8}
def QX (w:World)(v v':Value):Prop:=v'.ownBlock=v.ownBlock∨v'.ownBlock=none∨v'.ownBlock=some w.heap.size
set_option maxRecDepth 100000 in
theorem agC {n:Nat}{v':Value}{xs:List Value}{s:ByteArray}{ty:TypeId}(hc:w.ownsRow B 5 1 v n xs)(hb:n+s.size<=140737488355328)(hB:B<=w.heap.size)(hr:(Builtin.append_ #[79,9] ty #[v,.string s]).run prog w=.ok v' w'):QX w v v':=by
 obtain⟨i,hi,hz,ha,hf⟩:=aHT F9;have hj:n+s.size<=maxLen:=by unfold maxLen;omega
 rcases hc.2 with⟨rfl,rfl⟩|⟨g,cap,cur,rfl,ho,hg,hp,hq,hk,hh⟩
 ·by_cases hm:s.size=0
  ·obtain⟨v2,w2,h1,_,_,h4⟩:=Lib.run_append_own_string (P:=prog) w B 79 9 ty 5 i underlying79 underlying9 hi hz ha hf _ _ xs hc s hj hb hB;rw[hr]at h1;injection h1 with h1 _
   rw[h1,h4.2 ⟨rfl,hm⟩];exact .inl rfl
  ·have h1:=run_append_nil_string (P:=prog) w 79 9 ty 5 i (.int .u8 0) underlying79 underlying9 hi hz s (by omega) (by omega) (by rw[hf];omega);rw[hr]at h1;injection h1 with h1 _
   rw[h1];exact .inr (.inr rfl)
 ·have hl:xs.length=n:=by simpa using hc.1
  by_cases hd:n+s.size<=cap
  ·have hn:cur.size=cap:=by simpa using hk
   have h1:=Lib.run_append_room_string (P:=prog) w 79 9 ty 5 i underlying79 underlying9 hi ha g n cap cur hg s hd (by omega);rw[hr]at h1;injection h1 with h1 _
   rw[h1];exact .inl rfl
  ·have holds:∀j u,xs[j]?=some u->w.cell? ((⟨g,0,none⟩:Addr).add j)=some u:=hc.cells (g:=g) rfl;have h1:=Lib.run_append_grow_string (P:=prog) w 79 9 ty 5 i (.int .u8 0) underlying79 underlying9 hi hz ⟨g,0,none⟩ n cap xs (by rw[ha];simpa using hl) holds s (by omega) (by omega) (by rw[hf];exact growslice_fits (by omega) (by omega));rw[hr]at h1;injection h1 with h1 _
   rw[h1];exact .inr (.inr rfl)
set_option maxRecDepth 100000 in
theorem CX {ops:Array Oper}{rest:List Oper}{o:Oper}{a:Act}{Q:Exit->Act->World->Prop}(hf:o.guard=none)(sl x:Operand)(ho:o.op=.call {callee:= .builtin .append,args:=#[sl,x],argTypes:=#[79,9]})(B:Nat)(v:Value)(n:Nat)(xs:List Value)(hs:a.eval sl=v)(hc:w.ownsRow B 5 1 v n xs)(s:ByteArray)(hx:a.eval x=.string s)(ha:n+s.size<=140737488355328)(hb:B<=w.heap.size)(h:∀v' w',w'.ownsRow B 5 1 v' (n+s.size) (xs++Lib.strCells s)->w.grownBy w' v.ownBlock->QX w v v'->wpList prog ops Q rest (a.put o.dst v') w'):wpList prog ops Q (o::rest) a w:=by
 refine wpList_plain hf fun K hK=>?_
 obtain⟨i,hi,hz,hd,hg⟩:=aHT F9;obtain⟨v',w',hr,h2,h3,_⟩:=Lib.run_append_own_string (P:=prog) w B 79 9 o.type 5 i underlying79 underlying9 hi hz hd hg v n xs hc s (by unfold maxLen;omega) ha hb;have h5:=agC hc ha hb hr;unfold Oper.wp execOp;simp only[ho,resolve,invoke,builtin,aH2,aH3,aH1,aGP,aFB,aGS,hs,hx,hr];exact hK _ _ (h v' w' h2 h3 h5)
structure UB (B b:Nat) (v:Value) (bs:List UInt8) (w:World):Prop where
 hB:B<=b
 blk:w.heap[b]?=some (.cells #[.pointer none,v] 89 (0,0))∨w.heap[b]?=some (.cells #[.pointer (some ⟨b,0,none⟩),v] 89 (0,0))
 own:w.ownsRow B 5 1 v bs.length (Lib.byteCells bs)
 ne:v.ownBlock≠some b
theorem UB.lt (h:UB B b v bs w):b<w.heap.size:=by
 rcases h.blk with h|h<;>exact(aD5.1 h).1
theorem UB.is (h:UB B b v bs w):Lib.IsBuilder 89 5 B b (Lib.byteCells bs) w:=by
 have hl:(Lib.byteCells bs).length=bs.length:=by simp[Lib.byteCells]
 rcases h.blk with k|k
 ·exact .inl ⟨h.hB,v,k,by rw[hl];exact h.own,h.ne⟩
 ·exact .inr ⟨h.hB,v,k,by rw[hl];exact h.own,h.ne⟩
theorem UB.keep (h:UB B b v bs w)(h1:w'.heap[b]?=w.heap[b]?)(h2:∀g,v.ownBlock=some g->w'.heap[g]?=w.heap[g]?):UB B b v bs w':=by
 refine⟨h.hB,by rw[h1];exact h.blk,⟨h.own.1,?_⟩,h.ne⟩;rcases h.own.2 with k|⟨g,cap,cur,rfl,k1,k2,k3⟩
 ·exact .inl k
 ·exact .inr ⟨g,cap,cur,rfl,k1,(h2 g rfl).trans k2,k3⟩
set_option maxRecDepth 100000 in
theorem UC {l:List UInt8}(h:UB B b v bs w)(hlen:bs.length+l.length<=140737488355328)(hz:B<=w.heap.size):
  Calls prog 32 #[.pointer (some ⟨b,0,none⟩),.string ⟨l.toArray⟩] w fun e w'=>(∃x,e=.returned x)/\∃v',UB B b v' (bs++l) w'/\QX w v v'/\w'.os=w.os/\w'.tape=w.tape/\w'.output=w.output/\w.heap.size<=w'.heap.size/\∀k,k<w.heap.size->k≠b->v.ownBlock≠some k->w'.heap[k]?=w.heap[k]?:=by
 obtain⟨cs,hj⟩:∃c,Lib.byteCells bs=c:=⟨_,rfl⟩
 have hA:cs.length=bs.length:=by rw[<-hj];simp[Lib.byteCells]
 have hp:Lib.byteCells (bs++l)=cs++Lib.strCells ⟨l.toArray⟩:=by rw[<-hj];simp[Lib.byteCells,Lib.strCells]
 have hB:=h.lt
 obtain⟨hv,hb,hg,ho⟩:=h
 rw[hj]at hg
 have Ha:=aHL hp
 have hq:(bs++l).length=bs.length+l.length:=aD2
 have Hb:=aHL hq
 have hr:(⟨l.toArray⟩:ByteArray).size=l.length:=rfl
 have Hc:=aHL hr
 obtain⟨s,hs⟩:∃s:ByteArray,⟨l.toArray⟩=s:=⟨_,rfl⟩
 rw[hs]at hr Ha Hc⊢
 clear hs hp hj hq
 go_enter func32,ntmps32
 go_wp2_with fail
 have hc:Calls prog 58 #[.pointer (some ⟨b,0,none⟩)] w fun e w1=>e=.returned (.tuple #[])/\w1.heap[b]?=some (.cells #[.pointer (some ⟨b,0,none⟩),v] 89 (0,0))/\w1.os=w.os/\w1.tape=w.tape/\w1.output=w.output/\w1.heap.size=w.heap.size/\∀k,k≠b->w1.heap[k]?=w.heap[k]?:=by
  rcases hb with hb|hb
  ·refine(zH b w (by rw[aHY hb];rfl) (by simp[World.shape?,hb]) (Lib.frozen_of_heap hb 0)).mono ?_;rintro e w' ⟨rfl,rfl⟩;refine⟨rfl,by simp[World.setCell,aGV,hb],rfl,rfl,rfl,by simp[World.setCell],fun k hk=>Below.heap_setCell _ _ _ _ (fun e=>hk (by simpa using e))⟩
  ·refine(CH b w (by rw[aHY hb];rfl)).mono ?_;rintro e w' ⟨rfl,rfl⟩;exact⟨rfl,hb,rfl,rfl,rfl,rfl,fun _ _=>rfl⟩
 refine hc.mono ?_
 rintro e w1 ⟨rfl,hl,o1,t1,u1,s1,k1⟩
 have hh:w1.ownsRow B 5 1 v bs.length cs:=by
  refine⟨hg.1,?_⟩;rcases hg.2 with k|⟨g,cap,cur,rfl,j1,j2,j3⟩
  ·exact .inl k
  ·exact .inr ⟨g,cap,cur,rfl,j1,(k1 g (fun e=>ho (by rw[e];rfl))).trans j2,j3⟩
 have c0:w1.cell? ⟨b,0,none⟩=some (.pointer (some ⟨b,0,none⟩)):=by rw[aHY hl];rfl
 have c1:w1.cell? ⟨b,1,none⟩=some v:=by rw[aHY hl];rfl
 have HK:=aHL k1
 clear hc hb hg k1
 go_wp2_with(at_builtin;refine CX rfl _ _ rfl B _ _ _ rfl hh s rfl ?c4 ?c5 ?_)
 case c4=>omega
 case c5=>omega
 intro v' w2 hd ha hf
 have hi:w2.heap[b]?=some (.cells #[.pointer (some ⟨b,0,none⟩),v] 89 (0,0)):=by
  rw[ha.block b (by omega) (fun e=>ho e.symm)];exact hl
 have d0:w2.cell? ⟨b,0,none⟩=some (.pointer (some ⟨b,0,none⟩)):=by rw[aHY hi];rfl
 have d1:w2.cell? ⟨b,1,none⟩=some v:=by rw[aHY hi];rfl
 have f1:w2.frozen? ⟨b,1,none⟩=false:=Lib.frozen_of_heap hi 1
 obtain⟨ao,n',cap,rfl⟩:∃ao n' cap,v'=.slice ao n' cap:=by
  rcases hd.2 with⟨h1,_⟩|⟨g,cap,cur,h1,_⟩
  ·exact⟨none,0,0,h1⟩
  ·exact⟨_,_,cap,h1⟩
 have ht:Value.ownBlock (.slice ao n' cap)≠some b:=by
  rcases hf with e|e|e
  ·rw[e];exact ho
  ·rw[e];exact fun h=>by cases h
  ·rw[e];intro h;injection h with h
   omega
 have X:Aside (UB B b (.slice ao n' cap) (bs++l) (w2.setCell ⟨b,1,none⟩ (.slice ao n' cap))/\QX w v (.slice ao n' cap)):=by
  refine⟨⟨hv,.inr (by simp[World.setCell,aGV,hi]),?_,ht⟩,?_⟩
  ·rw[Hb.out,Ha.out]
   exact hd.kept (row:=some b) ⟨rfl,rfl,rfl,by simp[World.setCell],fun k _ hk=>by
    have hn:k≠b:=fun e=>hk (aEK some e)
    exact Below.heap_setCell w2 ⟨b,1,none⟩ _ k hn⟩ (Or.inr ht)
  ·rcases hf with e|e|e
   ·exact .inl e
   ·exact .inr (.inl e)
   ·exact .inr (.inr (by rw[e,s1]))
 have Y:Aside ((w2.setCell ⟨b,1,none⟩ (.slice ao n' cap)).os=w.os/\(w2.setCell ⟨b,1,none⟩ (.slice ao n' cap)).tape=w.tape/\(w2.setCell ⟨b,1,none⟩ (.slice ao n' cap)).output=w.output/\w.heap.size<=(w2.setCell ⟨b,1,none⟩ (.slice ao n' cap)).heap.size/\∀k,k<w.heap.size->k≠b->v.ownBlock≠some k->(w2.setCell ⟨b,1,none⟩ (.slice ao n' cap)).heap[k]?=w.heap[k]?):=by
  refine⟨ha.os.trans o1,ha.tape.trans t1,ha.output.trans u1,?_,fun k hk hn hx=>?_⟩
  ·have:=ha.size;simp[World.setCell];omega
  ·rw[Below.heap_setCell _ _ _ _ (fun e=>hn (by simpa using e)),ha.block k (by omega) (fun e=>hx e.symm)];exact HK.out k hn
 clear ha hd hi c0 c1 hf hh hl
 go_wp2
 go_ret2
 exact⟨⟨_,rfl⟩,_,X.out.1,X.out.2,Y.out⟩
end
section
variable {b:Nat}{qs:List PC}{B:aE}{G:Nat->Prop}{ρ0 ρ':Env}{w w':World}{m':M}
def GO (m:M)(b:Nat)(t:TypeId)(qs:List PC):Bool:=match m.H.get b with
 |some (.cells t' cs tg)=>tg&&(Nat.beq t' t&&(Nat.beq cs.length qs.length&&yS qs cs))
 |_=>false
theorem DQ {m:M}{t:TypeId}(h:GO m b t qs=true):dE m b t qs=true:=by
 unfold GO at h;unfold dE;split at h
 ·rename_i t' cs tg hb;simp only[aD3]at h;simp only[hb,aD3];exact⟨h.2.1,h.2.2.2⟩
 ·cases h
theorem Out.blockX (O:Out B G ρ0 w ρ' m' w'){t:TypeId}(hb:GO m' b t qs=true)(hw:hU B qs):
  ∃g z m vs,ρ'.blk b=some (g,0,z,m)/\dD ρ' m' g/\w'.heap[g]?=some (.cells vs.toArray t (0,0))/\gT ρ' B (fun g=>(G g∨w.heap.size<=g)/\¬dD ρ' m' g) w' qs vs/\vs.length=qs.length/\∀v∈vs,v.oneCell'=true:=by
 unfold GO at hb
 cases hg:m'.H.get b with
 |none=>rw[hg]at hb;cases hb
 |some k=>
  rw[hg]at hb
  cases k with
  |map es=>cases hb
  |iter s p=>cases hb
  |cells t' cs tg=>
   simp only[aD3]at hb
   obtain⟨h1,h2,h3,h4⟩:=hb
   have:=aEA h2
   subst this
   have h3:=aEA h3
   obtain⟨g,o,z,arr,xs,k1,k2,k3,k4,k5,k6,k7,k8⟩:=O.rel.live b _ hg
   obtain⟨rfl,hz⟩:=k8 h1
   have hl:=bN k5
   obtain⟨j1,j2⟩:=O.mats qs cs xs h4 hw k5
   have ha:arr=xs.toArray:=by
    apply aGQ;apply aF1;intro j;by_cases hj:j<cs.length
    ·have:=k7 j hj;rw[aEV]at this;simpa using this
    ·rw[aFI (by simp;omega),aFI (by simp;omega)]
   subst ha
   exact⟨g,z,_,xs,k1,⟨b,_,_,hg,k1,rfl⟩,k2,j1,by omega,k6⟩
def rM (l:List Int):List PC:=l.map fun z=> .p (.val (.int .i64 z))
theorem QY:∀l:List Int,hU B (rM l)
 |[]=>trivial
 |_::l=>⟨trivial,QY l⟩
theorem QZ {ρ:Env}:∀{l:List Int} {vs:List Value},gT ρ B G w (rM l) vs->∀j,j<l.length->vs[j]?=some (.int .i64 (l.getD j 0))
 |[],_,_,j,hj=>by simp at hj
 |z::l,_,h,j,hj=>by
  obtain⟨y,r,rfl,h1,h2⟩:=h
  cases j with
  |zero=>rw[show y=_ from h1];rfl
  |succ j=>exact QZ h2 j (by simp at hj;omega)
theorem uG (O:Out B G ρ0 w ρ' m' w'){l:List Int}(h2:dE m' b 3 (rM l)=true){G':Nat->Prop}{x:Value}(hx:PJ ρ' B G' w' (.rox b l.length 1) x):
  aC w' x l/\∃q,ρ'.blk b=some q/\x.ownBlock=some q.1/\dD ρ' m' q.1:=by
 obtain⟨g,o1,z,m,c1,hb,rfl,⟨ha,hc⟩,hd⟩:=hx
 obtain⟨g2,o2,z2,m2,arr,vs,e1,e2,e3,e4,e5,e6,e7,e8,e9,ea⟩:=O.block h2 (QY l)
 rw[hb]at e1
 injection e1 with e1
 injection e1 with d1 e1
 injection e1 with d2 e1
 injection e1 with d3 d4
 subst d1 d2 d3 d4
 refine⟨⟨_,c1,rfl,ha,hc,fun _=>⟨g,o1,rfl,fun j hj=>?_⟩⟩,(g,o1,z,m),hb,rfl,e2⟩
 rw[aHM w' g _ _ _ _ e3,ea j (by simp[rM];omega)]
 exact QZ e7 j hj
def iY:Nat->Value
 |0=>sB [45,57,57,57,57,57,57,46,57,57]
 |1=>sB [57,57,57,57,57,57,46,57,57]
 |2=>sB [49]
 |3=> .int .i64 6
 |4=> .int .i64 4
 |5=> .int .i64 2
 |6=> .int .i64 1
 |7=> .int .i64 2
 |8=> .int .i64 6
 |_=> .int .i64 20
def agD:List PC:=(List.range 10).map fun i=> .p (.val (iY i))
def GP:List PC:=iI++(agD++[.p (.val (.pointer none))])
def sT (m:M)(b i:Nat):Nat:=match m.H.get b with
 |some (.cells _ cs _)=>(match cs[i]? with|some (.ptr b _)=>b|some (.slc b _ _ _ _)=>b|_=>1000000+i)
 |_=>1000000+i
def agE (b1 b2 b3:Nat):List PC:=[.p (.val (.bool true)),.rox b1 8 1,.p (.val (.int .i64 2)),.p (.val (.bool false)),.rox b2 8 1,.p (.val (.int .i64 2)),.p (.val (.bool false)),.rox b3 1 1,.p (.val (.int .i64 0)),.p (.val (.bool true)),
 .p (.val (.int .i64 6)),.p (.val (.int .i64 4)),.p (.val (.int .i64 2)),.p (.val (.int .i64 1)),.p (.val (.int .i64 2)),.p (.val (.int .i64 6)),.p (.val (.int .i64 20))]
def stQ:List PC:=[.p (.val (.bool false)),.p (.val (.slice none 0 0)),.p (.val (.bool false)),.p (.val (.slice none 0 0)),.p (.val (.int .i64 0)),.p (.val (.int .i64 0))]
def anU:List PC:=[.p (.val (.int .i64 20)),.p (.val (.slice none 0 0)),.p (.val (.slice none 0 0)),.p (.val (.int .i64 0))]
def neB:List Nat->Bool
 |[]=>true
 |x::l=>l.all (fun y=>!Nat.beq x y)&&neB l
def anV (r:AV)(m:M):Bool:=
 let be:=sT m 0 18
 let bf:=sT m be 0
 let bh:=sT m be 1
 let b1:=sT m bf 2
 let b2:=sT m bf 5
 let b3:=sT m bf 8
 fN 0 (.val (sB tC)) r&&(GO m 0 131 (iI++(agD++[.ptr be]))&&(GO m be 232 [.ptr bf,.ptr bh]&&(GO m bf 278 (.p (.ls 7)::(agE b1 b2 b3++stQ))&&(GO m bh 320 anU&&
 (dE m b1 3 (rM dS)&&(dE m b2 3 (rM dS)&&(dE m b3 3 (rM [1])&&neB [0,be,bf,bh,b1,b2,b3])))))))
def sU:List UInt8:=[111,112,101,110]
def opE:List dO:=[⟨247,[tX],.tup [.ls 7,.val .nilIface]⟩,MO]
noncomputable def agF (B:aE):Bool:=
 match dR B iT (bT opE) 30 (bX (bQ 2 [⟨131,GP,true⟩]).2 [.ptr 0,.p (.val (sB sU))]).1 {H:=tB (bQ 2 [⟨131,GP,true⟩]).1,nb:=([⟨131,GP,true⟩]:List IB).length,nc:=(bX (bQ 2 [⟨131,GP,true⟩]).2 [.ptr 0,.p (.val (sB sU))]).2}with
 |some (r,m)=>anV r m
 |none=>false
theorem asH (rc:Rc)(gh:Value)(K:Nat->Prop)(w:World):agF (vG K w ((30,gh)::(4100,sB rc.nm)::(4104,sB rc.pat)::(4108,sB rc.sys)::(4112,sB rc.dec)::(4116,sB rc.grp)::(4120,sB rc.mns)::(4124,sB rc.pct)::[(4128,sB rc.cur)]))=true:=by kernel_rfl
end
section
variable {B:aE}{G:Nat->Prop}{ρ:Env}{vs:List Value}
structure UD (F:Nat->Prop) (w:World) (sh:Nat) (rc:Rc):Prop where
 e:w.heap[sh]?=some (.cells (rc.l++[iY 0,iY 1,iY 2,iY 3,iY 4,iY 5,iY 6,iY 7,iY 8,iY 9,.pointer none]).toArray 131 (0,0))
 inF:F sh
 lt:∀g,F g->g<w.heap.size
 lo:∀g,F g->3<=g
 l0:3<=w.heap.size
def mW:Eg:=⟨⟨false,[],false,[]⟩,0,none,none,0⟩
def opL (rc:Rc)(gh:Value):List (Nat×Value):=(30,gh)::(4100,sB rc.nm)::(4104,sB rc.pat)::(4108,sB rc.sys)::(4112,sB rc.dec)::(4116,sB rc.grp)::(4120,sB rc.mns)::(4124,sB rc.pct)::[(4128,sB rc.cur)]
def opB (rc:Rc)(gh:Value)(w:World):aE:=vG (fun g=>g<3) w (opL rc gh)
section
variable {rc:Rc}{gh:Value}{w:World}
theorem GQ:sP (opB rc gh w) rc:=⟨⟨rfl,rfl,rfl,rfl,rfl,rfl,rfl,rfl⟩⟩
theorem asI:∀i x,(opB rc gh w).A i=some x->i%2≠1:=qY (l:=opL rc gh) (by kernel_rfl)
theorem cf_in {ρ0:Env}(v:Value):lY ρ0 B G w (agD++[.p (.val v)]) [iY 0,iY 1,iY 2,iY 3,iY 4,iY 5,iY 6,iY 7,iY 8,iY 9,v]:=
 ⟨_,_,rfl,rfl,_,_,rfl,rfl,_,_,rfl,rfl,_,_,rfl,rfl,_,_,rfl,rfl,_,_,rfl,rfl,_,_,rfl,rfl,_,_,rfl,rfl,_,_,rfl,rfl,_,_,rfl,rfl,_,_,rfl,rfl,rfl⟩
theorem asJ {p:PC}(h:gT ρ B G w (agD++[p]) vs):∃y r,vs=[iY 0,iY 1,iY 2,iY 3,iY 4,iY 5,iY 6,iY 7,iY 8,iY 9]++y::r/\PJ ρ B G w p y:=by
 obtain⟨y0,_,rfl,b0,y1,_,rfl,b1,y2,_,rfl,b2,y3,_,rfl,b3,y4,_,rfl,b4,y5,_,rfl,b5,y6,_,rfl,b6,y7,_,rfl,b7,y8,_,rfl,b8,y9,_,rfl,b9,ya,r,rfl,ba,_⟩:=h;rw[aV b0,aV b1,aV b2,aV b3,aV b4,aV b5,aV b6,aV b7,aV b8,aV b9];exact⟨ya,r,rfl,ba⟩
theorem alQ (h:sP B rc):hU B iI:=⟨⟨_,h.t.1⟩,⟨_,h.t.2.1⟩,⟨_,h.t.2.2.1⟩,⟨_,h.t.2.2.2.1⟩,⟨_,h.t.2.2.2.2.1⟩,⟨_,h.t.2.2.2.2.2.1⟩,⟨_,h.t.2.2.2.2.2.2.1⟩,⟨_,h.t.2.2.2.2.2.2.2⟩,trivial⟩
theorem agG {b1 b2 b3:Nat}(h:gT ρ B G w (agE b1 b2 b3++stQ) vs):∃v1 v2 v3 r,vs=vI v1 v2 v3++(pV ⟨false,[],false,[]⟩ 0 (.slice none 0 0) (.slice none 0 0)++r)/\PJ ρ B G w (.rox b1 8 1) v1/\PJ ρ B G w (.rox b2 8 1) v2/\PJ ρ B G w (.rox b3 1 1) v3:=by
 obtain⟨y0,_,rfl,b0,y1,_,rfl,b1,y2,_,rfl,b2,y3,_,rfl,b3,y4,_,rfl,b4,y5,_,rfl,b5,y6,_,rfl,b6,y7,_,rfl,b7,y8,_,rfl,b8,y9,_,rfl,b9,ya,_,rfl,ba,yb,_,rfl,bb,yc,_,rfl,bc,y13,_,rfl,bd,yd,_,rfl,be,ye,_,rfl,bf,yf,_,rfl,bg,z0,_,rfl,c0,z1,_,rfl,c1,z2,_,rfl,c2,z3,_,rfl,c3,z4,_,rfl,c4,z5,r,rfl,c5,_⟩:=h;refine⟨y1,y4,y7,r,?_,b1,b4,b7⟩;rw[aV b0,aV b2,aV b3,aV b5,aV b6,aV b8,aV b9,aV ba,aV bb,aV bc,aV bd,aV be,aV bf,aV bg,aV c0,aV c1,aV c2,aV c3,aV c4,aV c5];rfl
theorem agH:∀{l:List Nat},neB l=true->∀(i j x y:Nat),i<j->l[i]?=some x->l[j]?=some y->x≠y
 |[],_,i,j,x,y,_,hi,_=>by simp at hi
 |a::l,h,i,j,x,y,ha,hi,hj=>by
  unfold neB at h;rw[aD3]at h
  cases j with
  |zero=>omega
  |succ j=>
   have hj:l[j]?=some y:=hj
   cases i with
   |zero=>
    injection hi with hi
    subst hi
    intro e
    have:=aD7.1 h.1 y (aE6 hj)
    rw[e]at this
    simp at this
   |succ i=>exact agH h.2 i j x y (by omega) hi hj
theorem XC:jJ G w (.slice none 0 0) []:=⟨aC.nil_ _ _ _ (by omega),fun h=>by simp at h⟩
set_option maxRecDepth 100000 in
theorem KJ {F:Nat->Prop}{sh:Nat}(hw:Wd w)(V:UD F w sh rc)(L:sQ rc gh):
  Calls prog 30 #[.pointer (some ⟨sh,0,none⟩),sB sU] w fun e w'=>e=.returned (sB tC)/\(∃ep,PW (F' F w w') w' sh ep rc gh iY mW)/\Kp F w w':=by
 have hG:DC (opB rc gh w):=⟨fun _ hg=>hg,hw⟩
 have hd:agF (opB rc gh w)=true:=asH rc gh _ w
 unfold agF at hd
 have hlen:sh<w.heap.size:=(aD5.1 V.e).1
 refine(BA asI (bY (bD aH aH aH aH) (bB (aD (L.new _ rfl GQ hG) (aD (L.recd _ rfl GQ) aH)))) (ib:=[⟨131,GP,true⟩]) (ps:=[.ptr 0,.p (.val (sB sU))]) rfl rfl hd (by decide) (fun i=>if i=0 then some (sh,0,19,19)else none) (fun _=>none) (fun i hi=>aD4 (by simp at hi;omega)) (fun _ _=>rfl) (fun b b' q q' h1 h2 hp=>by
  split at h1<;>split at h2<;>simp_all) w ⟨fun g hg=>aEL hg V.l0,fun _ _=>rfl⟩ (fun b q hb=>by
  split at hb
  ·injection hb with hb;subst hb
   have:=V.lo sh V.inF;show ¬sh<3;omega
  ·cases hb) (G:=fun _=>False) (fun _ _ _ h=>h) (fun j x hj=>?_) [.pointer (some ⟨sh,0,none⟩),sB sU] ⟨_,_,rfl,gD (by rfl),_,_,rfl,rfl,rfl⟩).mono ?_
 ·cases j with
  |succ j=>simp at hj
  |zero=>
   injection hj with hj
   subst hj
   refine⟨sh,0,19,_,_,by rfl,V.e,rfl,by decide,iS (MJ GQ) (cf_in _),fun v hv=>?_,fun i hi=>by simp,fun _=>⟨rfl,rfl⟩⟩
   simp[Rc.l,iY]at hv
   rcases hv with rfl|rfl|rfl|rfl|rfl|rfl|rfl|rfl|rfl|rfl|rfl|rfl|rfl|rfl|rfl|rfl|rfl|rfl|rfl<;>rfl
 rintro e w' ⟨x,ρ',r,m',rfl,hc,hx,O⟩
 unfold anV at hc
 simp only[aD3]at hc
 obtain⟨c0,c1,c2,c3,c4,c5,c6,c7,c8⟩:=hc
 generalize sT m' 0 18=be at *
 generalize sT m' be 0=bf at *
 generalize sT m' be 1=bh at *
 generalize sT m' bf 2=b1 at *
 generalize sT m' bf 5=b2 at *
 generalize sT m' bf 8=b3 at *
 have hk:Kp F w w':=⟨O.os,O.tape,O.output,O.size,fun k hk hn=>O.keep k hk fun j q hq e=>by
  simp only[Env.ini]at hq;split at hq
  ·injection hq with hq;subst hq
   exact hn (by rw[<-e];exact V.inF)
  ·cases hq⟩
 refine⟨by rw[jL c0 hx],?_,hk⟩
 have f0:ρ'.blk 0=some (sh,0,19,19):=O.fix 0 _ (by rfl)
 obtain⟨g0,z0,n0,va,ha,hF,hr,hH,ht,hY⟩:=Out.blockX O c1 (hZ (alQ GQ) (by exact⟨trivial,trivial,trivial,trivial,trivial,trivial,trivial,trivial,trivial,trivial,trivial,trivial⟩))
 obtain⟨ep,ze,ne,vb,hf,hJ,hz,hK,hM,h0⟩:=Out.blockX O c2 ⟨trivial,trivial,trivial⟩
 obtain⟨fb,zf,nf,vc,hh,hN,hP,hQ,hA,h5⟩:=Out.blockX O c3 ⟨⟨by decide,_,(by rfl:(opB rc gh w).A (gid 7)=some gh)⟩,by repeat' first|exact trivial|constructor⟩
 obtain⟨hb,zh,nh,vd,ho,hR,hC,hS,hD,h6⟩:=Out.blockX O c4 ⟨trivial,trivial,trivial,trivial,trivial⟩
 rw[f0]at ha
 injection ha with ha
 injection ha with ha _
 subst ha
 have N:=agH c8
 have nr:∀{b b':Nat} {t t':TypeId} {qs qa:List PC} {q q':Nat×Nat×Nat×Nat},dE m' b t qs=true->dE m' b' t' qa=true->b≠b'->ρ'.blk b=some q->ρ'.blk b'=some q'->q.1≠q'.1:=fun h h' hp e e'=>O.ne h h' hp e e'
 have i0:=DQ c1
 have i1:=DQ c2
 have i2:=DQ c3
 have i3:=DQ c4
 obtain⟨y0,r0,rfl,d0,y1,r1,rfl,d1,-⟩:=hK
 obtain rfl:r1=[]:=aD8 (by simpa using hM)
 rw[tV hh d0,tV ho d1]at hz
 obtain⟨a1,a2,rfl,hT,k1,k2⟩:=kA (a:=iI) hH
 obtain⟨r2,rfl⟩:=DB GQ k1
 obtain rfl:r2=[]:=aD8 (by
  rw[aD2,show rc.l.length=8 from rfl,show iI.length=8 from rfl]at hT;omega)
 obtain⟨y2,r3,rfl,k3⟩:=asJ k2
 obtain rfl:r3=[]:=aD8 (by
  simp[iI,agD,Rc.l]at ht
  first|omega|simp[ht])
 rw[tV hf k3]at hr
 obtain⟨lp,r4,rfl,d2,b0⟩:=hQ
 obtain⟨v1,v2,v3,r5,rfl,q1,q2,q3⟩:=agG b0
 obtain rfl:r5=[]:=aD8 (by
  simp[agE,stQ,vI,pV]at hA
  first|omega|simp[hA])
 obtain⟨z0,_,rfl,u0,z1,_,rfl,u1,z2,_,rfl,u2,z3,r6,rfl,u3,-⟩:=hS
 obtain rfl:r6=[]:=aD8 (by
  simp[anU]at hD
  first|omega|simp[hD])
 rw[aV u0,aV u1,aV u2,aV u3]at hC
 obtain⟨_,hone,ga,hV,hW⟩:=(show fG _ _ _ (.ls 7) lp from d2)
 obtain rfl:gh=ga:=by
  have:some gh=some ga:=hV;injection this
 obtain⟨I1,⟨Q1,B1,O1,L1⟩⟩:=uG O (l:=dS) c5 q1
 obtain⟨I2,⟨Q2,B2,O2,L2⟩⟩:=uG O (l:=dS) c6 q2
 obtain⟨I3,⟨Q3,B3,O3,L3⟩⟩:=uG O (l:=[1]) c7 q3
 have h7:∀{g:Nat} {o:Obj},w'.heap[g]?=some o->g<w'.heap.size:=fun h=>(aD5.1 h).1
 have hX:∀g,dD ρ' m' g->g<w'.heap.size:=by
  rintro g ⟨b,k,q,h1,h2,rfl⟩;obtain⟨q',h3,h4⟩:=(O.rel.live b k h1).at_;rw[h2]at h3;injection h3 with h3
  subst h3;exact h4
 have hE:∀g,dD ρ' m' g->F' F w w' g:=fun g hg=>by
  rcases O.live g hg with h|⟨j,q,h,rfl⟩
  ·exact .inr ⟨h,hX g hg⟩
  ·simp only[Env.ini]at h;split at h
   ·injection h with h;subst h;exact .inl V.inF
   ·cases h
 let x':vH:=⟨fb,hb,0,0,0,0,0,0,0,0,lp,v1,v2,v3,.slice none 0 0,.slice none 0 0,[],[]⟩
 have lb:∀g,x'.live sh ep mW g->g=ep∨g=fb∨g=hb∨g=sh:=by
  rintro g (h|h|h|h|⟨hs,_⟩|⟨hs,_⟩)
  ·exact .inl h
  ·exact .inr (.inl h)
  ·exact .inr (.inr (.inl h))
  ·exact .inr (.inr (.inr h))
  ·cases hs
  ·cases hs
 have ld:∀g,x'.live sh ep mW g->dD ρ' m' g:=fun g hg=>by
  rcases lb g hg with rfl|rfl|rfl|rfl
  ·exact hJ
  ·exact hN
  ·exact hR
  ·exact hF
 have up:∀b,((False∨w.heap.size<=b)/\¬dD ρ' m' b)->b<w'.heap.size->w'.heap[b]?=w'.heap[b]?/\x'.G (F' F w w') sh ep mW b:=fun b hb hl=>by
  refine⟨rfl,?_,fun hx=>hb.2 (ld b hx)⟩;rcases hb.1 with h|h
  ·exact False.elim h
  ·exact .inr ⟨h,hl⟩
 have la:∀{bi:Nat} {l:List Int} {v:Value} {Q:Nat×Nat×Nat×Nat},dE m' bi 3 (rM l)=true->0≠bi->be≠bi->bf≠bi->bh≠bi->aC w' v l->ρ'.blk bi=some Q->v.ownBlock=some Q.1->dD ρ' m' Q.1->jJ (x'.G (F' F w w') sh ep mW) w' v l:=fun {bi l v Q} hb n0 n1 n2 n3 hI hB hO hL=>by
  refine⟨hI,fun _ g hg=>?_⟩;rw[hO]at hg;injection hg with hg
  subst hg;refine⟨hE _ hL,fun hx=>?_⟩;rcases lb _ hx with h|h|h|h
  ·exact nr i1 hb n1 hf hB h.symm
  ·exact nr i2 hb n2 hh hB h.symm
  ·exact nr i3 hb n3 ho hB h.symm
  ·exact nr i0 hb n0 f0 hB h.symm
 refine⟨ep,x',hz,hP,hC,hr,(fun l h=>by cases h),(fun a h=>by cases h),la c5 (N 0 4 _ _ (by omega) rfl rfl) (N 1 4 _ _ (by omega) rfl rfl) (N 2 4 _ _ (by omega) rfl rfl) (N 3 4 _ _ (by omega) rfl rfl) I1 B1 O1 L1,
  la c6 (N 0 5 _ _ (by omega) rfl rfl) (N 1 5 _ _ (by omega) rfl rfl) (N 2 5 _ _ (by omega) rfl rfl) (N 3 5 _ _ (by omega) rfl rfl) I2 B2 O2 L2,la c7 (N 0 6 _ _ (by omega) rfl rfl) (N 1 6 _ _ (by omega) rfl rfl) (N 2 6 _ _ (by omega) rfl rfl) (N 3 6 _ _ (by omega) rfl rfl) I3 B3 O3 L3,
  XC,XC,⟨hone,hW.mono up⟩,⟨nr i1 i2 (N 1 2 _ _ (by omega) rfl rfl) hf hh,nr i1 i3 (N 1 3 _ _ (by omega) rfl rfl) hf ho,fun e=>nr i0 i1 (N 0 1 _ _ (by omega) rfl rfl) f0 hf e.symm,nr i2 i3 (N 2 3 _ _ (by omega) rfl rfl) hh ho,fun e=>nr i0 i2 (N 0 2 _ _ (by omega) rfl rfl) f0 hh e.symm,fun e=>nr i0 i3 (N 0 3 _ _ (by omega) rfl rfl) f0 ho e.symm⟩,
  (fun h=>by cases h),(fun h=>by cases h),(fun h=>by cases h),fun g hg=>hE g (ld g hg),fun g hg=>?_,fun j hj=>?_,fun g hg=>?_,aEI V.l0 O.size⟩
 ·rcases hg with hg|hg
  ·exact aEL (V.lt g hg) O.size
  ·exact hg.2
 ·have:j=0∨j=1∨j=2∨j=3∨j=4∨j=5∨j=6∨j=7∨j=8∨j=9:=by omega
  rcases this with rfl|rfl|rfl|rfl|rfl|rfl|rfl|rfl|rfl|rfl<;>rfl
 ·rcases hg with hg|hg
  ·exact V.lo g hg
  ·exact aEI V.l0 hg.1
end
end
end Go.Proofs.YtoeiaflkdcbkdaaGreatDoor
