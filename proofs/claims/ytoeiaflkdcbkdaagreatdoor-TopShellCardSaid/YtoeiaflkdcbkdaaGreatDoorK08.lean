/- TopShell, part 8 of 36. -/
import Derived.Deep.AppendLies
import Derived.Lib.AppendStr
import Derived.Shelf.Strings.BuilderX
import Derived.Test.YtoeiaflkdcbkdaaGreatDoorK07
set_option maxHeartbeats 16000000
set_option linter.unusedVariables false
set_option linter.unusedSimpArgs false
namespace Go.Proofs.YtoeiaflkdcbkdaaGreatDoor
open Go.RowKit Go.Sym Go.Proofs.Tryz
section
variable {vs:List Value}{n b g z m k sp j c:Nat}{ρ ρ0:Env}{B:aE}{G:Nat->Prop}{w:World}
theorem PO {arr:Array Value}(hs:arr.size=n)(hl:n<=vs.length)(h:∀j,j<n->arr[0+j]?=vs[j]?):arr=(vs.take n).toArray:=by
 apply aGQ;apply aF1;intro j;simp only[aFK,aE5];split
 ·rename_i hj;have:=h j hj;rw[aEV]at this;rw[this]
 ·rename_i hj;rw[Array.getElem?_eq_none (by omega)]
theorem JZ:∀{a:List PC} {x:List Value},gT ρ B G w a x->gT ρ B G w a (x.take a.length)
 |[],_,_=>trivial
 |_::a,_,h=>by
  obtain⟨y,r,rfl,h1,h2⟩:=h;exact⟨y,r.take a.length,rfl,h1,JZ h2⟩
theorem MM (a1:cG B 1 dS)(a2:cG B 2 dS)(a3:cG B 3 [1])(h:gT ρ B G w MI vs):∃v1 v2 v3 r,vs=vI v1 v2 v3++r/\jJ G w v1 dS/\jJ G w v2 dS/\jJ G w v3 [1]:=by
 obtain⟨y0,_,rfl,b0,y1,_,rfl,b1,y2,_,rfl,b2,y3,_,rfl,b3,y4,_,rfl,b4,y5,_,rfl,b5,y6,_,rfl,b6,y7,_,rfl,b7,y8,_,rfl,b8,y9,_,rfl,b9,ya,_,rfl,ba,yb,_,rfl,bb,yc,_,rfl,bc,y13,_,rfl,bd,yd,_,rfl,be,ye,_,rfl,bf,yf,r,rfl,bg,_⟩:=h;refine⟨y1,y4,y7,r,?_,PK a1 b1,PK a2 b4,PK a3 b7⟩;rw[aV b0,aV b2,aV b3,aV b5,aV b6,aV b8,aV b9,aV ba,aV bb,aV bc,aV bd,aV be,aV bf,aV bg];rfl
theorem tV {o:Nat}(hb:ρ.blk b=some (g,o,z,m)){x:Value}(h:PJ ρ B G w (.ptr b) x):x=.pointer (some ⟨g,o,none⟩):=by
 obtain⟨g',o',z',m',e,rfl⟩:=h;rw[hb]at e;injection e with e
 injection e with e1 e
 injection e with e2 _
 subst e1 e2;rfl
theorem Out.at0 {w':World}{ρ':Env}{m':M}(O:Out B G ρ0 w ρ' m' w'){t:TypeId}{qs:List PC}(hb:dE m' b t qs=true)(hw:hU B qs)(h0:ρ0.blk b=some (g,0,z,z))(hz:qs.length=z):
  dD ρ' m' g/\∃vs,w'.heap[g]?=some (.cells (vs.take z).toArray t (0,0))/\gT ρ' B (fun g=>(G g∨w.heap.size<=g)/\¬dD ρ' m' g) w' qs vs/\z<=vs.length:=by
 obtain⟨g',o,z',m,arr,vs,h1,h2,h3,h4,h5,h6,h7,h8,h9,ha⟩:=O.block hb hw
 have e:=O.fix b _ h0
 rw[h1]at e
 injection e with e
 injection e with e1 e
 injection e with e2 e
 injection e with e3 e4
 subst e1 e2 e3
 refine⟨h2,vs,?_,h7,by omega⟩
 rw[h3]
 rw[<-PO h4 (by omega) (fun j hj=>ha j (by omega))]
section
variable {F:Nat->Prop}{w w':World}{sh ep:Nat}{rc:Rc}{gh:Value}{cf:Nat->Value}{s:Eg}{x:vH}{X:List (Nat×Value)}{ρ':Env}{m':M}
theorem ao6:hU (cY rc gh cf s x.us w X) iI:=⟨⟨_,cQ.t.1⟩,⟨_,cQ.t.2.1⟩,⟨_,cQ.t.2.2.1⟩,⟨_,cQ.t.2.2.2.1⟩,⟨_,cQ.t.2.2.2.2.1⟩,⟨_,cQ.t.2.2.2.2.2.1⟩,⟨_,cQ.t.2.2.2.2.2.2.1⟩,⟨_,cQ.t.2.2.2.2.2.2.2⟩,trivial⟩
theorem hZ:∀{a b:List PC},hU B a->hU B b->hU B (a++b)
 |[],_,_,h=>h
 |_::_,_,h,k=>⟨h.1,hZ h.2 k⟩
theorem tW {l:List Int}(h:cG B k l):WfC B (.p (.ls k)):=⟨h.1,_,h.2⟩
theorem PP {d:Dr}(h:pJ B k sp j c d n):hU B (sX k sp j c):=⟨trivial,tW h.l,⟨_,h.s⟩,tW h.r,⟨_,h.c⟩,⟨_,h.c⟩,trivial⟩
theorem adY:hU (cY rc gh cf s x.us w X) MI:=⟨trivial,tW CC,trivial,trivial,tW CD,trivial,trivial,tW CE,trivial,trivial,trivial,trivial,trivial,trivial,trivial,trivial,trivial,trivial⟩
theorem PQ:hU (cY rc gh cf s x.us w X) sI:=hZ ao6 ⟨⟨_,cM 0 (by omega)⟩,⟨_,cM 1 (by omega)⟩,⟨_,cM 2 (by omega)⟩,⟨_,cM 3 (by omega)⟩,⟨_,cM 4 (by omega)⟩,⟨_,cM 5 (by omega)⟩,⟨_,cM 6 (by omega)⟩,⟨_,cM 7 (by omega)⟩,⟨_,cM 8 (by omega)⟩,⟨_,cM 9 (by omega)⟩,trivial,trivial⟩
theorem adZ:∀n,hU B (List.replicate n .any)
 |0=>trivial
 |n+1=>⟨trivial,adZ n⟩
theorem J0 {w2:World}(h0:ρ.blk 0=some (ep,0,z,m))(h:gT ρ (cY rc gh cf s x.us w X) G w2 sI vs):∃r,vs=lZ rc cf ep++r:=by
 obtain⟨a,b,rfl,hl,h1,h2⟩:=kA (a:=iI) h;obtain⟨r,rfl⟩:=DB cQ h1
 have:r=[]:=by
  rw[aD2,show rc.l.length=8 from rfl,show iI.length=8 from rfl]at hl;exact aD8 (by omega)
 subst this;obtain⟨y0,_,rfl,b0,y1,_,rfl,b1,y2,_,rfl,b2,y3,_,rfl,b3,y4,_,rfl,b4,y5,_,rfl,b5,y6,_,rfl,b6,y7,_,rfl,b7,y8,_,rfl,b8,y9,_,rfl,b9,ya,r,rfl,ba,_⟩:=h2;rw[dX (cM 0 (by omega)) b0,dX (cM 1 (by omega)) b1,dX (cM 2 (by omega)) b2,dX (cM 3 (by omega)) b3,dX (cM 4 (by omega)) b4,dX (cM 5 (by omega)) b5,dX (cM 6 (by omega)) b6,dX (cM 7 (by omega)) b7,dX (cM 8 (by omega)) b8,dX (cM 9 (by omega)) b9,tV h0 ba];exact⟨r,by simp[lZ]⟩
theorem V0 (O:Out B G ρ0 w ρ' m' w'){rb ci:Nat}{pa:List PC}(hb:dE m' rb 264 pa=true)(hw:hU B pa)(hl:pa.length=n*14){v:Value}(hv:PJ ρ' B (fun g=>(G g∨w.heap.size<=g)/\¬dD ρ' m' g) w' (.row rb n 14 ci) v):
  ∃g o z c m vs arr,ρ'.blk rb=some (g,o,z,m)/\v=.slice (some ⟨g,o,none⟩) n c/\dD ρ' m' g/\w'.heap[g]?=some (.cells arr 264 (0,0))/\arr.size=z/\(n<=c/\c<=9223372036854775807)/\o+c*14<=z/\vs.length=n*14/\gT ρ' B (fun g=>(G g∨w.heap.size<=g)/\¬dD ρ' m' g) w' pa vs/\(∀u∈vs,u.oneCell'=true)/\∀j,j<n*14->arr[o+j]?=vs[j]?:=by
 obtain⟨g,o,z,m,c,k1,rfl,k2,k3,k4⟩:=hv
 obtain⟨g',o',z',m2,arr,vs,h1,h2,h3,h4,h5,h6,h7,h8,h9,ha⟩:=O.block hb hw
 rw[k1]at h1
 injection h1 with h1
 injection h1 with e1 h1
 injection h1 with e2 h1
 injection h1 with e3 e4
 subst e1 e2 e3 e4
 refine⟨g,o,z,c,m,vs.take pa.length,arr,k1,rfl,h2,h3,h4,k2,k4,by rw[aF6,<-hl];omega,JZ h7,fun u hu=>h9 u (aGJ hu),fun j hj=>?_⟩
 rw[ha j (by omega),aE5,aD6 (by omega)]
theorem xG.out (V:xG F w sh ep rc gh cf s x)(O:Out (cY rc gh cf s x.us w X) (x.G F sh ep s) (Env.ini (cY rc gh cf s x.us w X) (fF sh ep s x) (xI x)) w ρ' m' w'){behP:Option (Nat×List PC)}{na:Option Nat}{runP:eG}(hc:adV (sX k sp j c) behP na runP m'=true){s':Eg}(hk:pJ (cY rc gh cf s x.us w X) k sp j c s'.d s'.c)(hf:(behP=none/\s'.beh=none)∨∃l pa,s'.beh=some l/\behP=some (l.length,pa)/\pa.length=l.length*14/\hU (cY rc gh cf s x.us w X) pa/\∀ρ G w2 vs,gT ρ (cY rc gh cf s x.us w X) G w2 pa vs->vs.length=l.length*14->IA G w2 rc l vs)(hq:s'.ah=na)(hr:qC (cY rc gh cf s x.us w X) runP)(hh:∀G w2 y,fG (cY rc gh cf s x.us w X) G w2 runP y->y=.int .i64 s'.run):
  ∃x',xG (fun g=>F g∨(w.heap.size<=g/\g<w'.heap.size)) w' sh ep rc gh cf s' x':=by
 subst hq
 unfold adV at hc
 simp only[aD3]at hc
 obtain⟨h0,h1,h3,h2,h4,h5,h6⟩:=hc
 have f0:=O.fix 0 _ (rfl:fF sh ep s x 0=_)
 have f1:=O.fix 1 _ (rfl:fF sh ep s x 1=_)
 have f2:=O.fix 2 _ (rfl:fF sh ep s x 2=_)
 have f3:=O.fix 3 _ (rfl:fF sh ep s x 3=_)
 obtain⟨L0,vc,a0,b0,c0⟩:=Out.at0 O h0 ⟨trivial,trivial,trivial⟩ (rfl:fF sh ep s x 0=_) rfl
 obtain⟨L1,vd,a1,b1,c1⟩:=Out.at0 O h1 ⟨⟨by decide,_,lD⟩,hZ adY (PP hk)⟩ (rfl:fF sh ep s x 1=_) rfl
 obtain⟨L3,ve,a3,b3,c3⟩:=Out.at0 O h3 PQ (rfl:fF sh ep s x 3=_) rfl
 have ht:hU (cY rc gh cf s x.us w X) (adU (rowAt m' 1) (rowAt m' 2) (behP.map (·.1)) s'.ah runP):=by
  refine⟨trivial,?_,?_,hr,trivial⟩
  ·cases behP.map (·.1)<;>trivial
  ·cases s'.ah<;>trivial
 obtain⟨L2,vg,a2,b2,c2⟩:=Out.at0 O h2 ht (rfl:fF sh ep s x 2=_) rfl
 obtain⟨y0,r0,rfl,d0,y1,r1,rfl,d1,-⟩:=b0
 rw[tV f1 d0,tV f2 d1]at a0
 obtain⟨lb,r2,rfl,d2,b1⟩:=b1
 obtain⟨u1,u2,rfl,hu,b1,ba⟩:=kA (a:=MI) b1
 obtain⟨v1,v2,v3,r3,e1,l1,l2,l3⟩:=MM CC CD CE b1
 have:r3=[]:=by
  rw[e1,aD2,show(vI v1 v2 v3).length=17 from rfl,show MI.length=17 from rfl]at hu;exact aD8 (by omega)
 subst this
 rw[aET]at e1
 obtain⟨vi,vf,r4,e2,li,lf⟩:=yU hk ba
 subst e1 e2
 obtain⟨r5,rfl⟩:=J0 f0 b3
 obtain⟨q0,_,rfl,g0,q1,_,rfl,g1,q2,_,rfl,g2,q3,r6,rfl,g3,-⟩:=b2
 rw[aV g0,hh _ _ _ (show fG _ _ _ runP q3 from g3)]at a2
 have ho:=O.size
 have hv:∀g,dD ρ' m' g->g<w'.heap.size->F g∨(w.heap.size<=g/\g<w'.heap.size):=fun g hg hd=>by
  rcases O.live g hg with h|⟨i,q,h,rfl⟩
  ·exact .inr ⟨h,hd⟩
  ·exact .inl (V.inF _ (nZ h))
 have RB:∃(gb ob zb kb:Nat) (bs:List Value),(∀l,s'.beh=some l->q1=.slice (some ⟨gb,ob,none⟩) l.length kb/\dD ρ' m' gb/\(∃m,ρ'.blk (rowAt m' 1)=some (gb,ob,zb,m))/\∃arr,w'.heap[gb]?=some (.cells arr 264 (0,0))/\arr.size=zb/\(l.length<=kb/\kb<=9223372036854775807)/\ob+kb*14<=zb/\IA (fun g=>(x.G F sh ep s g∨w.heap.size<=g)/\¬dD ρ' m' g) w' rc l bs/\∀j,j<l.length*14->arr[ob+j]?=bs[j]?)/\(s'.beh=none->q1=.slice none 0 0)/\(s'.beh.isSome=true->4<=rowAt m' 1/\∃l,dE m' (rowAt m' 1) 264 l=true):=by
  rcases hf with⟨rfl,hn⟩|⟨l,pa,hl,rfl,hz,hA,hB⟩
  ·exact⟨0,0,0,0,[],⟨fun l h=>by(rw[hn]at h;cases h),fun _=>aV g1,fun h=>by(rw[hn]at h;cases h)⟩⟩
  ·simp only[aD3]at h4;obtain⟨g,o,z,c,m,vs,arr,k1,k2,k3,k4,k5,k6,k7,k8,k9,kc,kd⟩:=V0 O h4.1 hA hz g1;refine⟨g,o,z,c,vs,⟨fun l' h=>?_,fun h=>by(rw[hl]at h;cases h),fun _=>⟨aEJ h4.2,_,h4.1⟩⟩⟩;rw[hl]at h;injection h with h
   subst h;exact⟨k2,k3,⟨m,k1⟩,arr,k4,k5,k6,k7,hB _ _ _ _ k9 k8,kd⟩
 have RA:∃(ga oa za ka:Nat) (us:List Value),(∀a,s'.ah=some a->q2=.slice (some ⟨ga,oa,none⟩) a ka/\dD ρ' m' ga/\(∃m,ρ'.blk (rowAt m' 2)=some (ga,oa,za,m))/\∃arr,w'.heap[ga]?=some (.cells arr 264 (0,0))/\arr.size=za/\(a<=ka/\ka<=9223372036854775807)/\oa+ka*14<=za/\us.length=14*a/\(∀v∈us,v.oneCell'=true)/\∀j,j<14*a->arr[oa+j]?=us[j]?)/\(s'.ah=none->q2=.slice none 0 0)/\(s'.ah.isSome=true->4<=rowAt m' 2/\∃l,dE m' (rowAt m' 2) 264 l=true):=by
  cases hah:s'.ah with
  |none=>rw[hah]at g2;exact⟨0,0,0,0,[],⟨fun l h=>by(cases h),fun _=>aV g2,fun h=>by(cases h)⟩⟩
  |some a=>
   rw[hah]at h5 g2
   simp only[aD3]at h5
   obtain⟨g,o,z,c,m,vs,arr,k1,k2,k3,k4,k5,k6,k7,k8,k9,kc,kd⟩:=V0 O h5.1 (adZ _) (by rw[aF5];omega) g2
   refine⟨g,o,z,c,vs,⟨fun l' h=>?_,fun h=>by(cases h),fun _=>⟨aEJ h5.2,_,h5.1⟩⟩⟩
   injection h with h
   subst h
   exact⟨k2,k3,⟨m,k1⟩,arr,k4,k5,k6,k7,by omega,kc,fun j hj=>kd j (by omega)⟩
 obtain⟨gb,ob,zb,kb,bs,B1,B2,B3⟩:=RB
 obtain⟨ga,oa,za,ka,us,A1,A2,A3⟩:=RA
 let x':vH:=⟨x.fb,x.hb,gb,ob,zb,kb,ga,oa,za,ka,lb,v1,v2,v3,vi,vf,bs,us⟩
 have hd:∀{g:Nat} {o:Obj},w'.heap[g]?=some o->g<w'.heap.size:=fun h=>(aD5.1 h).1
 have la:∀g,x'.live sh ep s' g->dD ρ' m' g/\g<w'.heap.size:=by
  rintro g (rfl|rfl|rfl|rfl|⟨hs,rfl⟩|⟨hs,rfl⟩)
  ·exact⟨L0,hd a0⟩
  ·exact⟨L1,hd a1⟩
  ·exact⟨L2,hd a2⟩
  ·exact⟨L3,hd a3⟩
  ·obtain⟨l,hl⟩:=aFG.1 hs;obtain⟨_,k,_,arr,k2,_⟩:=B1 l hl;exact⟨k,hd k2⟩
  ·obtain⟨l,hl⟩:=aFG.1 hs;obtain⟨_,k,_,arr,k2,_⟩:=A1 l hl;exact⟨k,hd k2⟩
 have up:∀b,((x.G F sh ep s b∨w.heap.size<=b)/\¬dD ρ' m' b)->b<w'.heap.size->w'.heap[b]?=w'.heap[b]?/\x'.G (fun g=>F g∨(w.heap.size<=g/\g<w'.heap.size)) sh ep s' b:=fun b hb hl=>by
  refine⟨rfl,?_,fun hx=>hb.2 (la b hx).1⟩;rcases hb.1 with h|h
  ·exact .inl h.1
  ·exact .inr ⟨h,hl⟩
 have nr:∀{b b':Nat} {t t':TypeId} {qs qa:List PC} {g g' o o' z z' m2 m3:Nat},dE m' b t qs=true->dE m' b' t' qa=true->b≠b'->ρ'.blk b=some (g,o,z,m2)->ρ'.blk b'=some (g',o',z',m3)->g≠g':=fun h h' hi e e'=>O.ne h h' hi e e'
 obtain⟨_,hone,gd,hC,hD⟩:=(show fG _ _ _ (.ls 7) lb from d2)
 have hE:gh=gd:=by
  have:some gh=some gd:=lD.symm.trans hC;injection this
 subst hE
 refine⟨x',a0,?_,?_,?_,fun l hl=>?_,fun a ha=>?_,l1.mono up,l2.mono up,l3.mono up,li.mono up,lf.mono up,⟨hone,hD.mono up⟩,V.n1,fun hs=>?_,fun hs=>?_,fun hs hp=>?_,fun g hg=>?_,fun g hg=>?_,V.c1,fun g hg=>?_,aEI V.l0 ho⟩
 ·have e:List.take 24 (lb::(vI v1 v2 v3++(pV s'.d s'.c vi vf++r4)))=vJ lb v1 v2 v3 (pV s'.d s'.c vi vf):=by simp[vJ,vI,pV]
  rw[e]at a1;exact a1
 ·have e1:x'.vb s'.beh=q1:=by
   cases hb:s'.beh with
   |none=>exact(B2 hb).symm
   |some l=>exact(B1 l hb).1.symm
  have e2:x'.va s'.ah=q2:=by
   cases hb:s'.ah with
   |none=>exact(A2 hb).symm
   |some l=>exact(A1 l hb).1.symm
  rw[e1,e2];exact a2
 ·have e:List.take 19 (lZ rc cf ep++r5)=lZ rc cf ep:=by simp[lZ,Rc.l]
  rw[e]at a3;exact a3
 ·obtain⟨k1,k2,k3,arr,k4,k5,k6,k7,k8,k9⟩:=B1 l hl;exact⟨arr,k4,k5,k6,k7,k8.mono up,k9⟩
 ·obtain⟨k1,k2,k3,arr,k4,k5,k6,k7,k8,k9,kc⟩:=A1 a ha;exact⟨arr,k4,k5,k6,k7,k8,k9,kc⟩
 ·obtain⟨l,hl⟩:=aFG.1 hs;obtain⟨k1,k2,⟨m,k3⟩,_⟩:=B1 l hl;obtain⟨j1,lq,j2⟩:=B3 hs;exact⟨nr j2 h0 (by omega) k3 f0,nr j2 h1 (by omega) k3 f1,nr j2 h2 (by omega) k3 f2,nr j2 h3 (by omega) k3 f3⟩
 ·obtain⟨l,hl⟩:=aFG.1 hs;obtain⟨k1,k2,⟨m,k3⟩,_⟩:=A1 l hl;obtain⟨j1,lq,j2⟩:=A3 hs;exact⟨nr j2 h0 (by omega) k3 f0,nr j2 h1 (by omega) k3 f1,nr j2 h2 (by omega) k3 f2,nr j2 h3 (by omega) k3 f3⟩
 ·obtain⟨l,hl⟩:=aFG.1 hs;obtain⟨k1,k2,⟨m,k3⟩,_⟩:=B1 l hl;obtain⟨j1,lq,j2⟩:=B3 hs;obtain⟨a,ha⟩:=aFG.1 hp;obtain⟨i1,i2,⟨m2,i3⟩,_⟩:=A1 a ha;obtain⟨n1,ln,n2⟩:=A3 hp
  have hi:rowAt m' 1≠rowAt m' 2:=fun e=>by
   rw[e]at h6;simp at h6
  exact nr j2 n2 hi k3 i3
 ·obtain⟨k1,k2⟩:=la g hg;exact hv g k1 k2
 ·rcases hg with hg|hg
  ·exact aEL (V.lt g hg) ho
  ·exact hg.2
 ·rcases hg with hg|hg
  ·exact V.lo g hg
  ·exact aEI V.l0 hg.1
end
end
section
variable {X:List (Nat×Value)}
def ad0 (run:eG):List PC:=[.p (.val (.int .i64 20)),.p (.at_ 4300),.p (.at_ 4304),.p run]
def yW:List IB:=[⟨232,[.ptr 1,.ptr 2],true⟩,⟨278,B4 kS,true⟩,⟨320,ad0 (.at_ 4004),true⟩,⟨131,sI,true⟩]
def FI (st:List PC)(run:eG)(m:M):Bool:=
 dE m 0 232 [.ptr 1,.ptr 2]&&(dE m 1 278 (B4 st)&&(dE m 3 131 sI&&dE m 2 320 (ad0 run)))
def qG (sh ep:Nat)(x:vH):Nat->Option (Nat×Nat×Nat×Nat)
 |0=>some (ep,0,2,2)
 |1=>some (x.fb,0,24,24)
 |2=>some (x.hb,0,4,4)
 |3=>some (sh,0,19,19)
 |_=>none
theorem vH.vb_one (x:vH)(o:Option (List (Dr×Nat))):(x.vb o).oneCell'=true:=by cases o<;>rfl
theorem vH.va_one (x:vH)(o:Option Nat):(x.va o).oneCell'=true:=by cases o<;>rfl
section
variable {F:Nat->Prop}{w w':World}{sh ep:Nat}{rc:Rc}{gh:Value}{cf:Nat->Value}{s:Eg}{x:vH}{X:List (Nat×Value)}{ρ':Env}{m':M}
theorem xG.ini0 (V:xG F w sh ep rc gh cf s x)(hX:kT X=true)(e1:(cY rc gh cf s x.us w X).A 4300=some (x.vb s.beh))(e2:(cY rc gh cf s x.us w X).A 4304=some (x.va s.ah)):
  ∀j y,yW[j]?=some y->MG (Env.ini (cY rc gh cf s x.us w X) (qG sh ep x) (fun _=>none)) (cY rc gh cf s x.us w X) (x.G F sh ep s) w j y:=by
 intro j y hj
 have:j<4:=(aED.1 hj).1
 have:j=0∨j=1∨j=2∨j=3:=by omega
 rcases this with rfl|rfl|rfl|rfl<;>(injection hj with hj;subst hj)
 ·exact⟨ep,0,2,_,[_,_],rfl,V.e0,rfl,by decide,⟨_,_,rfl,gD rfl,_,_,rfl,gD rfl,rfl⟩,fun v hv=>by simp at hv;rcases hv with rfl|rfl<;>rfl,fun i hi=>by
   have:i=0∨i=1:=by simp at hi;omega
   rcases this with rfl|rfl<;>rfl,fun _=>⟨rfl,rfl⟩⟩
 ·exact⟨x.fb,0,24,_,_,rfl,V.e1,rfl,by decide,⟨_,_,rfl,⟨by decide,V.lp.1,gh,lD,V.lp.2⟩,iS (y:=pV s.d s.c x.vi x.vf)
   ⟨_,_,rfl,cP _,_,_,rfl,CB CC V.l1,_,_,rfl,cP _,_,_,rfl,cP _,_,_,rfl,CB CD V.l2,_,_,rfl,cP _,_,_,rfl,cP _,_,_,rfl,CB CE V.l3,_,_,rfl,cP _,_,_,rfl,cP _,
     _,_,rfl,cP _,_,_,rfl,cP _,_,_,rfl,cP _,_,_,rfl,cP _,_,_,rfl,cP _,_,_,rfl,cP _,_,_,rfl,cP _,rfl⟩ (adW cB V.li V.lf)⟩,
   VY V.lp.1 V.l1.one V.l2.one V.l3.one V.li.one V.lf.one,fun i hi=>by simp[vJ,vI],fun _=>⟨rfl,rfl⟩⟩
 ·refine⟨x.hb,0,4,_,[_,_,_,_],rfl,V.e2,rfl,aD1 4,⟨_,_,rfl,cP _,_,_,rfl,cX e1 (x.vb_one _),_,_,rfl,cX e2 (x.va_one _),_,_,rfl,cX gU rfl,rfl⟩,fun v hv=>?_,fun i hi=>?_,fun _=>⟨rfl,rfl⟩⟩
  ·simp at hv;rcases hv with rfl|rfl|rfl|rfl
   ·rfl
   ·exact x.vb_one _
   ·exact x.va_one _
   ·rfl
  ·have:i=0∨i=1∨i=2∨i=3:=by simp[ad0]at hi;omega
   rcases this with rfl|rfl|rfl|rfl<;>rfl
 ·exact⟨sh,0,19,_,_,rfl,V.e3,rfl,by decide,iS (MJ cQ)
   ⟨_,_,rfl,cX (cM 0 (by omega)) (V.c1 0 (by omega)),_,_,rfl,cX (cM 1 (by omega)) (V.c1 1 (by omega)),_,_,rfl,cX (cM 2 (by omega)) (V.c1 2 (by omega)),_,_,rfl,cX (cM 3 (by omega)) (V.c1 3 (by omega)),_,_,rfl,cX (cM 4 (by omega)) (V.c1 4 (by omega)),
     _,_,rfl,cX (cM 5 (by omega)) (V.c1 5 (by omega)),_,_,rfl,cX (cM 6 (by omega)) (V.c1 6 (by omega)),_,_,rfl,cX (cM 7 (by omega)) (V.c1 7 (by omega)),_,_,rfl,cX (cM 8 (by omega)) (V.c1 8 (by omega)),_,_,rfl,cX (cM 9 (by omega)) (V.c1 9 (by omega)),_,_,rfl,gD rfl,rfl⟩,
   VZ V.c1,fun i hi=>by simp[lZ],fun _=>⟨rfl,rfl⟩⟩
theorem xG.run0 (V:xG F w sh ep rc gh cf s x)(hX:kT X=true)(e1:(cY rc gh cf s x.us w X).A 4300=some (x.vb s.beh))(e2:(cY rc gh cf s x.us w X).A 4304=some (x.va s.ah)){call:bM}(ha:cH (cY rc gh cf s x.us w X) prog call){f:FuncId}{ps:List PC}{chk:AV->M->Bool}{xs:List Value}(hc:lY (Env.ini (cY rc gh cf s x.us w X) (qG sh ep x) (fun _=>none)) (cY rc gh cf s x.us w X) (x.G F sh ep s) w ps xs)(h:(match call f (bX (bQ 2 yW).2 ps).1 {H:=tB (bQ 2 yW).1,nb:=yW.length,nc:=(bX (bQ 2 yW).2 ps).2}with
   |some (r,m')=>chk r m'
   |none=>false)=true):
  Calls prog f xs.toArray w fun e w'=>∃y ρ' r m',e=.returned y/\chk r m'=true/\aO ρ' r=some y/\Out (cY rc gh cf s x.us w X) (x.G F sh ep s) (Env.ini (cY rc gh cf s x.us w X) (qG sh ep x) (fun _=>none)) w ρ' m' w':=by
 have hb:∀{b q},qG sh ep x b=some q->∃c,b<4/\fF sh ep s x b=c/\c=some q:=fun {b q} hq=>by
  unfold qG at hq;split at hq
  ·exact⟨_,by omega,hq,rfl⟩
  ·exact⟨_,by omega,hq,rfl⟩
  ·exact⟨_,by omega,hq,rfl⟩
  ·exact⟨_,by omega,hq,rfl⟩
  ·cases hq
 refine BA (ML hX) ha (ib:=yW) (nc0:=2) rfl rfl h (by decide) (qG sh ep x) (fun _=>none) (fun i hi=>?_) (fun i hi=>rfl) (fun b b' q q' h1 h2 hd=>?_) w ⟨fun g h=>aEL h V.l0,fun _ _=>rfl⟩ (fun b q hq h=>?_) (fun b q hq hg=>?_) (V.ini0 hX e1 e2) xs hc
 ·have hi:4<=i:=hi;unfold qG;split<;>first|omega|rfl
 ·obtain⟨_,_,k1,rfl⟩:=hb h1;obtain⟨_,_,k2,rfl⟩:=hb h2;exact V.inj b b' q q' k1 k2 hd
 ·obtain⟨_,_,k1,rfl⟩:=hb hq;exact absurd h (Nat.not_lt.2 (V.lo _ (V.inF _ (nZ k1))))
 ·obtain⟨_,_,k1,rfl⟩:=hb hq;exact hg.2 (nZ k1)
theorem xG.out0 (V:xG F w sh ep rc gh cf s x)(e1:(cY rc gh cf s x.us w X).A 4300=some (x.vb s.beh))(e2:(cY rc gh cf s x.us w X).A 4304=some (x.va s.ah))(O:Out (cY rc gh cf s x.us w X) (x.G F sh ep s) (Env.ini (cY rc gh cf s x.us w X) (qG sh ep x) (fun _=>none)) w ρ' m' w'){k sp j c:Nat}{runP:eG}(hc:FI (sX k sp j c) runP m'=true){s':Eg}(hj:pJ (cY rc gh cf s x.us w X) k sp j c s'.d s'.c)(hd:s'.beh=s.beh)(hh:s'.ah=s.ah)(hn:qC (cY rc gh cf s x.us w X) runP)(hi:∀G w2 y,fG (cY rc gh cf s x.us w X) G w2 runP y->y=.int .i64 s'.run):
  ∃x',xG (fun g=>F g∨(w.heap.size<=g/\g<w'.heap.size)) w' sh ep rc gh cf s' x':=by
 unfold FI at hc
 simp only[aD3]at hc
 obtain⟨h0,h1,h3,h2⟩:=hc
 have f0:=O.fix 0 _ (rfl:qG sh ep x 0=_)
 have f1:=O.fix 1 _ (rfl:qG sh ep x 1=_)
 have f2:=O.fix 2 _ (rfl:qG sh ep x 2=_)
 obtain⟨L0,vc,a0,b0,c0⟩:=Out.at0 O h0 ⟨trivial,trivial,trivial⟩ (rfl:qG sh ep x 0=_) rfl
 obtain⟨L1,vd,a1,b1,c1⟩:=Out.at0 O h1 ⟨⟨by decide,_,lD⟩,hZ adY (PP hj)⟩ (rfl:qG sh ep x 1=_) rfl
 obtain⟨L3,ve,a3,b3,c3⟩:=Out.at0 O h3 PQ (rfl:qG sh ep x 3=_) rfl
 obtain⟨L2,vg,a2,b2,c2⟩:=Out.at0 O h2 ⟨trivial,⟨_,e1⟩,⟨_,e2⟩,hn,trivial⟩ (rfl:qG sh ep x 2=_) rfl
 obtain⟨y0,r0,rfl,d0,y1,r1,rfl,d1,-⟩:=b0
 rw[tV f1 d0,tV f2 d1]at a0
 obtain⟨la,r2,rfl,d2,b1⟩:=b1
 obtain⟨u1,u2,rfl,hu,b1,ba⟩:=kA (a:=MI) b1
 obtain⟨v1,v2,v3,r3,ea,l1,l2,l3⟩:=MM CC CD CE b1
 have:r3=[]:=by
  rw[ea,aD2,show(vI v1 v2 v3).length=17 from rfl,show MI.length=17 from rfl]at hu;exact aD8 (by omega)
 subst this
 rw[aET]at ea
 obtain⟨vi,vf,r4,eb,li,lf⟩:=yU hj ba
 subst ea eb
 obtain⟨r5,rfl⟩:=J0 f0 b3
 obtain⟨q0,_,rfl,g0,q1,_,rfl,g1,q2,_,rfl,g2,q3,r6,rfl,g3,-⟩:=b2
 rw[aV g0,dX e1 g1,dX e2 g2,hi _ _ _ (show fG _ _ _ runP q3 from g3)]at a2
 have hk:=O.size
 let x':vH:={x with lp:=la,v1:=v1,v2:=v2,v3:=v3,vi:=vi,vf:=vf}
 have ht:∀{g:Nat} {o:Obj},w'.heap[g]?=some o->g<w'.heap.size:=fun h=>(aD5.1 h).1
 have lv:∀g,x'.live sh ep s' g->x.live sh ep s g:=fun g h=>by
  unfold vH.live at h⊢;rw[hd,hh]at h;exact h
 obtain⟨n1,n2,n3,n4,n5,n6⟩:=V.n1
 have hf:∀g,g≠ep->g≠x.fb->g≠x.hb->g≠sh->∀j q,qG sh ep x j=some q->q.1≠g:=fun g k1 k2 k3 k4 j q h=>by
  unfold qG at h;split at h
  ·injection h with h;subst h;exact fun e=>k1 e.symm
  ·injection h with h;subst h;exact fun e=>k2 e.symm
  ·injection h with h;subst h;exact fun e=>k3 e.symm
  ·injection h with h;subst h;exact fun e=>k4 e.symm
  ·cases h
 have up:∀b,((x.G F sh ep s b∨w.heap.size<=b)/\¬dD ρ' m' b)->b<w'.heap.size->w'.heap[b]?=w'.heap[b]?/\x'.G (fun g=>F g∨(w.heap.size<=g/\g<w'.heap.size)) sh ep s' b:=fun b hb hl=>by
  refine⟨rfl,?_,fun hx=>?_⟩
  ·rcases hb.1 with h|h
   ·exact .inl h.1
   ·exact .inr ⟨h,hl⟩
  ·have hx:=lv b hx;rcases hb.1 with h|h
   ·exact h.2 hx
   ·have:=V.lt b (V.inF b hx);omega
 have ua:∀b,x.G F sh ep s b->b<w.heap.size->w'.heap[b]?=w.heap[b]?/\x'.G (fun g=>F g∨(w.heap.size<=g/\g<w'.heap.size)) sh ep s' b:=fun b hb hl=>by
  refine⟨O.keep b hl (hf b (fun e=>hb.2 (.inl e)) (fun e=>hb.2 (.inr (.inl e))) (fun e=>hb.2 (.inr (.inr (.inl e)))) (fun e=>hb.2 (.inr (.inr (.inr (.inl e)))))),.inl hb.1,fun hx=>hb.2 (lv b hx)⟩
 obtain⟨_,hone,ga,ho,hp⟩:=(show fG _ _ _ (.ls 7) la from d2)
 have hq:gh=ga:=by
  have:some gh=some ga:=lD.symm.trans ho;injection this
 subst hq
 refine⟨x',a0,?_,?_,?_,fun l hl=>?_,fun a ha=>?_,l1.mono up,l2.mono up,l3.mono up,li.mono up,lf.mono up,⟨hone,hp.mono up⟩,V.n1,fun hs=>V.n2 (by rw[<-hd];exact hs),fun hs=>V.n3 (by rw[<-hh];exact hs),fun hs hr=>V.n4 (by rw[<-hd];exact hs) (by rw[<-hh];exact hr),fun g hg=> .inl (V.inF g (lv g hg)),fun g hg=>?_,V.c1,fun g hg=>?_,aEI V.l0 hk⟩
 ·have e:List.take 24 (la::(vI v1 v2 v3++(pV s'.d s'.c vi vf++r4)))=vJ la v1 v2 v3 (pV s'.d s'.c vi vf):=by simp[vJ,vI,pV]
  rw[e]at a1;exact a1
 ·rw[hd,hh];exact a2
 ·have e:List.take 19 (lZ rc cf ep++r5)=lZ rc cf ep:=by simp[lZ,Rc.l]
  rw[e]at a3;exact a3
 ·rw[hd]at hl;have hs:s.beh.isSome=true:=by rw[hl];rfl
  obtain⟨m1,m2,m3,m4⟩:=V.n2 hs;obtain⟨arr,k4,k5,k6,k7,k8,k9⟩:=V.rb l hl;exact⟨arr,(O.keep _ (aD5.1 k4).1 (hf _ m1 m2 m3 m4)).trans k4,k5,k6,k7,k8.mono ua,k9⟩
 ·rw[hh]at ha;have hs:s.ah.isSome=true:=by rw[ha];rfl
  obtain⟨m1,m2,m3,m4⟩:=V.n3 hs;obtain⟨arr,k4,k5,k6,k7,k8,k9,ka⟩:=V.ra a ha;exact⟨arr,(O.keep _ (aD5.1 k4).1 (hf _ m1 m2 m3 m4)).trans k4,k5,k6,k7,k8,k9,ka⟩
 ·rcases hg with hg|hg
  ·exact aEL (V.lt g hg) hk
  ·exact hg.2
 ·rcases hg with hg|hg
  ·exact V.lo g hg
  ·exact aEI V.l0 hg.1
end
end
section
variable {f:Option Nat->Option Nat->Bool}{na:Option Nat}
def tX:eG:= .agg [.at_ 4100,.at_ 4104,.at_ 4108,.at_ 4112,.at_ 4116,.at_ 4120,.at_ 4124,.at_ 4128]
def MN:eG:= .agg [.val (.int .i64 6),.val (.int .i64 4),.val (.bool true)]
def TO:eG:= .agg [.val (.bool true),.ls 1,.val (.int .i64 2),.val (.bool false),.ls 2,.val (.int .i64 2),.val (.bool false),.ls 3,.val (.int .i64 0),.val (.bool true),
 .val (.int .i64 6),.val (.int .i64 4),.val (.int .i64 2),.val (.int .i64 1),.val (.int .i64 2),.val (.int .i64 6),.val (.int .i64 20)]
def PR:eG:=sW (.val (.bool false)) 4 (.at_ 36) 5 (.at_ 204)
def gV (k:Nat):dO:=⟨278,[.ls k],.ls k⟩
def MO:dO:=⟨243,[.ls 7],tX⟩
def yX:List dO:=[gV 4,gV 5,MO]
def jK (d:Nat):Value:=sB [UInt8.ofNat (48+d)]
def ajU (a b:List UInt8)(n:Int):dO:=⟨94,[.val (sB a),.val (sB b)],.val (.int .i64 n)⟩
def ZP (d:Nat)(b:Bool):List dO:=yX++[ajU [116,121,112,101,32,UInt8.ofNat (48+d)] [116,121,112,101] 0,⟨473,[.ls 7,.val (jK d)],.val (.bool false)⟩,⟨476,[.ls 7,.val (jK d)],.tup [.agg [.val (.bool false),.ls 6],.val (.int .i64 0)]⟩,
 ⟨477,[PR,MN,.agg [.val (.bool false),.ls 6]],oT b⟩]
def TP (z b:Bool):List dO:=yX++[⟨502,[PR,MN,.val (.int .i64 0)],FC z b⟩]
def au3:List dO:=yX++[⟨245,[PR],.val (.bool true)⟩,⟨205,[PR],.tup [.at_ 204,.at_ 204]⟩]
def ao7:List dO:=yX++[⟨542,[TO,pG (.val (.bool false)) 4 (.at_ 36) 5],.tup [pG (.val (.bool false)) 8 (.at_ 68) 9,.val (.int .i64 0)]⟩,⟨309,[pG (.val (.bool false)) 8 (.at_ 68) 9],.at_ 224⟩]
def au4 (i:Nat):eG:=sW (.val (.bool false)) (20+2*i) (.at_ (6000+16*i)) (21+2*i) (.at_ (6004+16*i))
def au5 (i:Nat):List dO:=yX++[gV (20+2*i),gV (21+2*i),⟨245,[au4 i],.val (.bool true)⟩,⟨246,[pG (.val (.bool false)) (20+2*i) (.at_ (6000+16*i)) (21+2*i),.val (.int .i64 6),.val (.int .i64 4)],.val (.bool true)⟩,
 ⟨247,[tX],.tup [.ls 7,.val .nilIface]⟩]
def ZQ (r:Int)(b:Bool):Tb:=mR [⟨.neq,.lit (.int .i64 r),.atom 4004,.lit (.bool b)⟩] [] [] []
def iT:Tb:=mR [] [] [] []
def au6:Tb:=mR [⟨.eql,.atom 204,.atom 204,.lit (.bool true)⟩,⟨.sub,.atom 204,.lit (.int .i64 1),.atom 228⟩] [] [⟨.atom 228,.lit (.int .i64 0),.atom 232⟩] []
def lE (d:Nat):List UInt8:=[116,121,112,101,32,UInt8.ofNat (48+d)]
def jO:List UInt8:=[101,114,97,115,101,32,98,97,99,107]
def tY:List UInt8:=[109,111,118,101,32,108,101,102,116]
def lF:List UInt8:=[99,111,109,109,105,116]
def nE:List UInt8:=[117,110,100,111]
def tC:List UInt8:=[111,107]
def II (n:Nat):List UInt8:=[101,114,114,111,114,32,UInt8.ofNat (48+n)]
noncomputable def FJ (B:aE)(T:Tb)(E:List dO)(line:List UInt8)(chk:AV->M->Bool)(nb na:Option Nat):Bool:=
 match dR B T (bT E) 30 (bX (bQ 2 (ZO nb na)).2 [.ptr 3,.p (.val (sB line))]).1 {H:=tB (bQ 2 (ZO nb na)).1,nb:=(ZO nb na).length,nc:=(bX (bQ 2 (ZO nb na)).2 [.ptr 3,.p (.val (sB line))]).2}with
 |some (r,m)=>chk r m
 |none=>false
noncomputable def V1 (B:aE)(T:Tb)(E:List dO)(line:List UInt8)(chk:AV->M->Bool):Bool:=
 match dR B T (bT E) 30 (bX (bQ 2 yW).2 [.ptr 3,.p (.val (sB line))]).1 {H:=tB (bQ 2 yW).1,nb:=yW.length,nc:=(bX (bQ 2 yW).2 [.ptr 3,.p (.val (sB line))]).2}with
 |some (r,m)=>chk r m
 |none=>false
def xJ (nb:Option Nat):Option (Nat×List PC):=some (nb.getD 0+1,jZ 0 (nb.getD 0)++(kS++iI))
def FK (nb:Option Nat):Option (Nat×List PC):=nb.map fun n=>(n,jZ 0 n)
def PS (told:List UInt8)(st:List PC)(beh:Option (Nat×List PC))(na:Option Nat)(run:eG)(r:AV)(m:M):Bool:=fN 0 (.val (sB told)) r&&adV st beh na run m
def ad1 (told:List UInt8)(st:List PC)(run:eG)(r:AV)(m:M):Bool:=fN 0 (.val (sB told)) r&&FI st run m
def ad2:List PC:=sX 8 68 9 224
def au7:List PC:=sX 8 68 9 232
def au8:List PC:=sX 4 36 5 232
def au9 (i:Nat):List PC:=sX (20+2*i) (6000+16*i) (21+2*i) (6004+16*i)
noncomputable def fR (B:aE)(d:Nat)(p:Bool)(nb na:Option Nat):Bool:=FJ B (ZQ 1 p) (ZP d true) (lE d) (PS tC ad2 (if p then xJ nb else FK nb) (na.map fun _=>0) (.val (.int .i64 1))) nb na
noncomputable def tZ (B:aE)(d:Nat):Bool:=V1 B iT (ZP d false) (lE d) (ad1 (II 4) kS (.at_ 4004))
noncomputable def PT (B:aE)(p:Bool)(nb na:Option Nat):Bool:=FJ B (ZQ 2 p) (TP false true) jO (PS tC au7 (if p then xJ nb else FK nb) (na.map fun _=>0) (.val (.int .i64 2))) nb na
noncomputable def V7 (B:aE)(z:Bool):Bool:=V1 B iT (TP z false) jO (ad1 (II (if z then 7 else 4)) kS (.at_ 4004))
noncomputable def ao8 (B:aE):Bool:=V1 B au6 au3 tY (ad1 tC au8 (.val (.int .i64 0)))
noncomputable def ZR (B:aE)(nb na:Option Nat):Bool:=FJ B iT ao7 lF (PS tC ad2 (xJ nb) (na.map fun _=>0) (.val (.int .i64 0))) nb na
noncomputable def TQ (B:aE)(n:Nat)(na:Option Nat):Bool:=FJ B iT (au5 n) nE (PS tC (au9 n) (some (n,jZ 0 n)) (some (na.getD 0+1)) (.val (.int .i64 0))) (some (n+1)) na
noncomputable def PU (B:aE)(nb na:Option Nat):Bool:=FJ B iT yX nE (PS (II 7) kS (FK nb) na (.at_ 4004)) nb na
def uA:List (Option Nat):=[none,some 0,some 1,some 2,some 3,some 4,some 5]
theorem rG {o:Option Nat}(h:o.getD 0<=5):o∈uA:=by
 cases o with
 |none=>simp[uA]
 |some n=>
  simp only[aFR]at h
  have:n=0∨n=1∨n=2∨n=3∨n=4∨n=5:=by omega
  rcases this with rfl|rfl|rfl|rfl|rfl|rfl<;>simp[uA]
def cT (l:List (Option Nat))(f:Option Nat->Option Nat->Bool):Bool:=l.all fun nb=>uA.all fun na=>!Nat.ble (nb.getD 0+na.getD 0) 5 || f nb na
def oA:List (Option Nat):=[none,some 0]
def oB:List (Option Nat):=[some 1,some 2]
def oC:List (Option Nat):=[some 3,some 4,some 5]
theorem FL (hA:cT oA f=true)(hB:cT oB f=true)(hC:cT oC f=true){nb:Option Nat}(hs:nb.getD 0+na.getD 0<=5):f nb na=true:=by
 have key:∀l,nb∈l->cT l f=true->f nb na=true:=fun l hl h=>by
  have h1:=aD7.1 (aD7.1 h nb hl) na (rG (by omega));rw[aG9 hs]at h1;simpa using h1
 have hm:nb∈oA++(oB++oC):=rG (o:=nb) (by omega);rcases aEQ.1 hm with hm|hm
 ·exact key _ hm hA
 ·rcases aEQ.1 hm with hm|hm
  ·exact key _ hm hB
  ·exact key _ hm hC
def pW (f:Option Nat->Option Nat->Bool):Bool:=[1,2,3,4,5].all fun n=>f (some n) none&&f (some n) (some 0)
theorem PV (h:pW f=true){n:Nat}(h1:1<=n)(h5:n<=5)(ha:na=none∨na=some 0):f (some n) na=true:=by
 have h2:=aD7.1 h n (by have:n=1∨n=2∨n=3∨n=4∨n=5:=by omega
                        rcases this with rfl|rfl|rfl|rfl|rfl<;>simp)
 rw[aD3]at h2;rcases ha with rfl|rfl
 ·exact h2.1
 ·exact h2.2
end
section
variable {l:List Int}{d:Dr}{k:Int}{s:Eg}
structure uQ (d:Dr):Prop where
 ng:d.neg=false
 di:Dg d.int
 df:Dg d.frac
 li:d.int.length<=6
 lf:d.frac.length<=4
 sp:d.sep=true∨d.frac=[]
def P10 (l:List Int):Prop:=At l/\l.count 10<=1
theorem ad3 (h:Dg l):l.count 10=0:=List.count_eq_zero.2 fun hm=>by have:=h 10 hm;omega
theorem oD (h:uQ d):P10 (aJ d):=by
 refine⟨((At.of_dg h.di).append (by split<;>intro x hx<;>simp at hx;omega)).append (At.of_dg h.df),?_⟩;unfold aJ;rw[aF2,aF2,ad3 h.di,ad3 h.df];split<;>simp
theorem yY (h:P10 l):oP l:=by
 unfold oP;rcases sG iQ l with⟨h1,_⟩|⟨k,hk,h1,h2,_⟩
 ·left;omega
 ·right;rw[h1];intro x hx e;subst e;have hl:l=l.take k++l[k]::l.drop (k+1):=by simp
  have h3:l[k]=10:=by
   have:=h2;rw[aD9,aEB hk]at this;simpa [iQ]using this
  have hc:=h.2;rw[hl,aF2,h3,List.count_cons_self]at hc;have:0<(l.drop (k+1)).count 10:=List.count_pos_iff.2 (by simpa using hx);omega
theorem MP (h:P10 l)(c:Nat)(hk:0<=k/\k<=9):P10 (l.take c++[k]++l.drop c):=by
 refine⟨((h.1.take c).append (fun x hx=>by simp at hx;omega)).append (h.1.drop c),?_⟩;rw[aF2,aF2];have h2:=h.2;rw[<-aFD c l,aF2]at h2;have:[k].count 10=0:=List.count_eq_zero.2 fun hm=>by simp at hm;omega
 omega
theorem MQ (h:P10 l)(c:Nat):P10 (l.take (c-1)++[]++l.drop c):=by
 refine⟨((h.1.take _).append (fun x hx=>by cases hx)).append (h.1.drop c),?_⟩;rw[aET,aF2];have h2:=h.2
 have e:l=l.take (c-1)++((l.take c).drop (c-1)++l.drop c):=by
  rw[<-aEF]
  conv=>lhs;rw[<-aFD c l]
  congr 1;have:l.take (c-1)=(l.take c).take (c-1):=by rw[List.take_take];congr 1;omega
  rw[this,aFD]
 rw[e,aF2,aF2]at h2;omega
theorem J1 (h:P10 l):aJ (aN false l)=l/\(aN false l).neg=false/\Dg (aN false l).int/\Dg (aN false l).frac/\((aN false l).sep=true∨(aN false l).frac=[]):=by
 have h1:=yY h;unfold oP at h1;unfold aN;rcases sG iQ l with⟨e,h2⟩|⟨k,hk,e,h2,h3⟩
 ·rw[aD6 (by omega)];refine⟨by simp[aJ],rfl,fun x hx=>?_,fun x hx=>(by cases hx),.inr rfl⟩;obtain⟨j,hj,rfl⟩:=aGZ.1 hx;have hj:j<l.length:=hj;have:=h2 j hj;rw[aD9,aEB hj]at this;have h4:=h.1 _ (aG3 hj);simp[iQ]at this;show 0<=l[j]/\l[j]<=9;omega
 ·have hn:¬dG iQ l<0:=by omega
  have h5:∀x∈l.drop ((dG iQ l).toNat+1),x≠10:=by
   rcases h1 with h1|h1
   ·exact absurd h1 hn
   ·exact h1
  rw[aD4 hn];rw[e]at h5⊢
  have hl:l[k]=10:=by
   have:=h2;rw[aD9,aEB hk]at this;simpa [iQ]using this
  refine⟨?_,rfl,fun x hx=>?_,fun x hx=>?_,.inl rfl⟩
  ·simp only[aJ,if_true,aGL]
   conv=>rhs;rw[<-aFD k l,aFN hk,hl]
   simp
  ·obtain⟨j,hj,rfl⟩:=aGZ.1 hx;simp only[aGL,aF6]at hj;have:=h3 j (by omega);rw[aD9,aEB (by omega)]at this;have h4:=h.1 _ (aG3 (show j<l.length by omega));simp only[aGL,List.getElem_take];simp[iQ]at this;omega
  ·have h4:=h.1 x (aGI hx);have:=h5 x hx;omega
structure mU (s:Eg):Prop where
 d:uQ s.d
 c:s.c<=(aJ s.d).length
 b:∀q∈s.beh.getD [],uQ q.1/\q.2<=(aJ q.1).length
 r:s.run≠0->∃l,s.beh=some l/\1<=l.length/\(s.ah=none∨s.ah=some 0)
def dF (s:Eg)(r:Int):Option (List (Dr×Nat)):=if r=0∨r≠s.run then some (s.beh.getD []++[(s.d,s.c)])else s.beh
def stepT (k:Int)(s:Eg):Eg×Int:=if fZ (aN false (lX s.d s.c [k])) 6 4=true then(⟨aN false (lX s.d s.c [k]),s.c+1,dF s 1,s.ah.map fun _=>0,1⟩,0)else(s,4)
def oV (s:Eg):Eg×Int:=if s.c=0 then(s,7)else if fZ (aN false (pH s.d s.c)) 6 4=true then(⟨aN false (pH s.d s.c),s.c-1,dF s 2,s.ah.map fun _=>0,2⟩,0)else(s,4)
def CF (s:Eg):Eg×Int:=(⟨s.d,s.c-1,s.beh,s.ah,0⟩,0)
def vR (D:Dr)(s:Eg):Eg×Int:=(⟨D,(aJ D).length,dF s 0,s.ah.map fun _=>0,0⟩,0)
def kB (s:Eg):Eg×Int:=match (s.beh.getD []).getLast? with
 |none=>(s,7)
 |some q=>(⟨q.1,q.2,some (s.beh.getD []).dropLast,some (s.ah.getD 0+1),0⟩,0)
theorem mU.push (h:mU s)(r:Int):∀q∈(dF s r).getD [],uQ q.1/\q.2<=(aJ q.1).length:=by
 intro q hq;unfold dF at hq;split at hq
 ·simp only[aFR,aEQ,aGT]at hq;rcases hq with hq|rfl
  ·exact h.b q hq
  ·exact⟨h.d,h.c⟩
 ·exact h.b q hq
theorem mU.push_r (h:mU s){r:Int}(hr:r≠0):∃l,dF s r=some l/\1<=l.length:=by
 unfold dF;split
 ·exact⟨_,rfl,by simp⟩
 ·rename_i hn
  have ha:s.run≠0:=by
   intro e;apply hn;right;rw[e];exact hr
  obtain⟨l,h1,h2,_⟩:=h.r ha;exact⟨l,h1,h2⟩
theorem ad4 (o:Option Nat):(o.map fun _=>0)=none∨(o.map fun _=>0)=some 0:=by cases o<;>simp
theorem J2 {m k:Nat}(h:fZ d m k=true):d.int.length<=m/\d.frac.length<=k:=by
 unfold fZ at h;simpa using h
theorem ajV (d:Dr)(c:Nat)(al:List Int)(h:c<=(aJ d).length):(lX d c al).length=(aJ d).length+al.length:=by
 simp[lX];omega
theorem ajW (d:Dr)(c:Nat)(h:c<=(aJ d).length)(h0:c≠0):(pH d c).length+1=(aJ d).length:=by
 simp[pH];omega
theorem FM (h:mU s)(hk:0<=k/\k<=9):mU (stepT k s).1:=by
 unfold stepT;split
 ·rename_i hf;have hp:=J1 (MP (oD h.d) s.c hk);have hp:aJ (aN false (lX s.d s.c [k]))=lX s.d s.c [k]/\_:=hp;obtain⟨e,h1,h2,h3,h4⟩:=hp;obtain⟨f1,f2⟩:=J2 hf;refine⟨⟨h1,h2,h3,f1,f2,h4⟩,?_,h.push 1,fun _=>?_⟩
  ·show s.c+1<=(aJ (aN false (lX s.d s.c [k]))).length;rw[e,ajV _ _ _ h.c];have:=h.c;simp;omega
  ·obtain⟨l,h5,h6⟩:=h.push_r (r:=1) (by decide);exact⟨l,h5,h6,ad4 _⟩
 ·exact h
theorem FN (h:mU s):mU (oV s).1:=by
 unfold oV;split
 ·exact h
 ·rename_i h0;split
  ·rename_i hf;have hp:=J1 (MQ (oD h.d) s.c);have hp:aJ (aN false (pH s.d s.c))=pH s.d s.c/\_:=hp;obtain⟨e,h1,h2,h3,h4⟩:=hp;obtain⟨f1,f2⟩:=J2 hf;refine⟨⟨h1,h2,h3,f1,f2,h4⟩,?_,h.push 2,fun _=>?_⟩
   ·show s.c-1<=(aJ (aN false (pH s.d s.c))).length;rw[e];have:=ajW s.d s.c h.c h0;have:=h.c;omega
   ·obtain⟨l,h5,h6⟩:=h.push_r (r:=2) (by decide);exact⟨l,h5,h6,ad4 _⟩
  ·exact h
theorem FO (h:mU s):mU (CF s).1:=⟨h.d,by show s.c-1<=(aJ s.d).length;have:=h.c;omega,h.b,fun hn=>absurd rfl hn⟩
theorem FP (h:mU s){D:Dr}(hD:uQ D):mU (vR D s).1:=⟨hD,aD1 _,h.push 0,fun hn=>absurd rfl hn⟩
theorem FQ (h:mU s):mU (kB s).1:=by
 unfold kB;split
 ·exact h
 ·rename_i q hq;obtain⟨h1,h2⟩:=h.b q (List.mem_of_getLast? hq);exact⟨h1,h2,fun q hq=>h.b q (List.dropLast_subset _ hq),fun hn=>absurd rfl hn⟩
end
section
variable {B:aE}{k sp j c:Nat}{us:List Value}{X:List (Nat×Value)}{T:Tb}{E:List dO}{line told:List UInt8}{runP:eG}{s':Eg}
structure Wd (w:World):Prop where
 tabs:Lib.Utf8Tabs 1 2 w
 most:∃m,w.cell? ⟨0,0,none⟩=some (.int .i64 m)
structure DC (B:aE):Prop where
 k:∀g,g<3->B.K g
 w:Wd B.W
theorem DC.wd (h:DC B){w:World}(hu:eN B w):Wd w:=by
 have hc:∀p:Addr,p.block<3->w.cell? p=B.W.cell? p:=fun p hp=>by
  unfold World.cell?;rw[hu.old _ (h.k _ hp)]
 obtain⟨m,hm⟩:=h.w.most;exact⟨⟨fun c hx=>by rw[hc _ (show 1<3 by omega)];exact h.w.tabs.1 c hx,fun i hi=>⟨by rw[hc _ (show 2<3 by omega)];exact(h.w.tabs.2 i hi).1,by rw[hc _ (show 2<3 by omega)];exact(h.w.tabs.2 i hi).2⟩⟩,m,by rw[hc _ (show 0<3 by omega)];exact hm⟩
structure sQ (rc:Rc) (gh:Value):Prop where
 recd:∀B,B.A (gid 7)=some gh->sP B rc->aK B prog MO
 sgn:∀B d,d<10->B.A (gid 7)=some gh->DC B->aK B prog ⟨473,[.ls 7,.val (jK d)],.val (.bool false)⟩
 read:∀B (d:Nat),d<10->B.A (gid 7)=some gh->DC B->cG B 6 [(d:Int)]->aK B prog ⟨476,[.ls 7,.val (jK d)],.tup [.agg [.val (.bool false),.ls 6],.val (.int .i64 0)]⟩
 new:∀B,B.A (gid 7)=some gh->sP B rc->DC B->aK B prog ⟨247,[tX],.tup [.ls 7,.val .nilIface]⟩
structure Kp (F:Nat->Prop) (w w':World):Prop where
 os:w'.os=w.os
 tape:w'.tape=w.tape
 output:w'.output=w.output
 size:w.heap.size<=w'.heap.size
 keep:∀k,k<w.heap.size->¬F k->w'.heap[k]?=w.heap[k]?
def PW (F:Nat->Prop)(w:World)(sh ep:Nat)(rc:Rc)(gh:Value)(cf:Nat->Value)(s:Eg):Prop:=∃x,xG F w sh ep rc gh cf s x
def F' (F:Nat->Prop)(w w':World):Nat->Prop:=fun g=>F g∨(w.heap.size<=g/\g<w'.heap.size)
theorem jL {ρ:Env}{v y:Value}{r:AV}(h:fN 0 (.val v) r=true)(hy:aO ρ r=some y):y=v:=by
 unfold fN at h;have:=eF h;subst this;unfold aO at hy;injection hy with hy
 exact hy.symm
theorem MR (h:DC B){a b:List UInt8}{n:Int}(hs:a.length<4294967281)(hn:Lib.index a b=n):aK B prog (ajU a b n):=by
 refine⟨⟨trivial,trivial,trivial⟩,fun w hu xs ha=>?_⟩;obtain⟨y0,_,rfl,a0,y1,_,rfl,a1,rfl⟩:=ha;rw[show y0=_ from a0,show y1=_ from a1];obtain⟨m,hm⟩:=(h.wd hu).most;refine(Tryz.stringslite_Index ⟨a.toArray⟩ ⟨b.toArray⟩ m w (by simpa [ByteArray.size]using hs) hm).mono ?_;rintro e w' ⟨rfl,rfl⟩;refine⟨_,rfl,?_,Below.refl _ _⟩;show Value.int .i64 _=.int .i64 n;rw[<-hn]
theorem eR {l:List Int}(h:cG B k l)(hl:l.length<=1000000):aK B prog (gV k):=by
 refine aU [DA h] ⟨.ls k,fun N w x=>aC w x l/\cW N x l,jM h,fun _ _ _ hx=>kM h hx.1 hx.2⟩ ?_;rintro w _ ⟨x,_,rfl,hx,rfl⟩;refine(jI x l w hx hl).mono ?_;rintro e w' ⟨v',rfl,ho,hb⟩;exact⟨_,rfl,⟨aC.of_own ho,fun _ g hg=>(ho.lt g hg).1⟩,hb⟩
theorem FR {a b:Int}{r:Bool}(h:(a !=b)=r)(t:TypeId)(ox oy:Operand)(w:World):(do eqGuard .neq t ox oy (.int .i64 a) (.int .i64 b);binOp .neq t (.int .i64 a) (.int .i64 b)).run prog w=.ok (.bool r) w:=by
 subst h;simp[eqGuard,binOp,Op.intCmp,bne]
section
variable {F:Nat->Prop}{w:World}{sh ep:Nat}{rc:Rc}{gh:Value}{cf:Nat->Value}{s:Eg}{x:vH}
theorem xK (h:Wd w):DC (cY rc gh cf s us w X):=⟨fun _ hg=>hg,h⟩
theorem mI (V:xG F w sh ep rc gh cf s x)(hX:kT X=true)(hl:∀l,s.beh=some l->l.length<=14)(hT:kY prog (cY rc gh cf s x.us w X) T)(hE:∀e∈E,aK (cY rc gh cf s x.us w X) prog e){behP:Option (Nat×List PC)}{nb na na':Option Nat}(hd:s.beh.map List.length=nb)(hf:s.ah=na)(h:FJ (cY rc gh cf s x.us w X) T E line (PS told (sX k sp j c) behP na' runP) nb na=true)(hg:pJ (cY rc gh cf s x.us w X) k sp j c s'.d s'.c)(ha:(behP=none/\s'.beh=none)∨∃l pa,s'.beh=some l/\behP=some (l.length,pa)/\pa.length=l.length*14/\hU (cY rc gh cf s x.us w X) pa/\∀ρ G w2 vs,gT ρ (cY rc gh cf s x.us w X) G w2 pa vs->vs.length=l.length*14->IA G w2 rc l vs)(hh:s'.ah=na')(hi:qC (cY rc gh cf s x.us w X) runP)(hb:∀G w2 y,fG (cY rc gh cf s x.us w X) G w2 runP y->y=.int .i64 s'.run):
  Calls prog 30 #[.pointer (some ⟨sh,0,none⟩),sB line] w fun e w'=>e=.returned (sB told)/\PW (F' F w w') w' sh ep rc gh cf s'/\Kp F w w':=by
 refine(V.run (X:=X) (f:=30) (ps:=[.ptr 3,.p (.val (sB line))]) (xs:=[.pointer (some ⟨sh,0,none⟩),sB line]) hX hl (bY hT (bB hE)) ⟨_,_,rfl,gD rfl,_,_,rfl,cP _,rfl⟩ hd hf h).mono ?_
 rintro e w' ⟨y,ρ',r,m',rfl,hc,hy,O⟩
 unfold PS at hc
 rw[aD3]at hc
 refine⟨by rw[jL hc.1 hy],V.out O hc.2 hg ha hh hi hb,O.os,O.tape,O.output,O.size,fun k hk hn=>O.keep k hk fun i q hq e=>hn ?_⟩
 rw[<-e]
 exact V.inF _ (nZ hq)
theorem uR (V:xG F w sh ep rc gh cf s x)(hX:kT X=true)(e1:(cY rc gh cf s x.us w X).A 4300=some (x.vb s.beh))(e2:(cY rc gh cf s x.us w X).A 4304=some (x.va s.ah))(hT:kY prog (cY rc gh cf s x.us w X) T)(hE:∀e∈E,aK (cY rc gh cf s x.us w X) prog e)(h:V1 (cY rc gh cf s x.us w X) T E line (ad1 told (sX k sp j c) runP)=true)(hd:pJ (cY rc gh cf s x.us w X) k sp j c s'.d s'.c)(ha:s'.beh=s.beh)(hf:s'.ah=s.ah)(hg:qC (cY rc gh cf s x.us w X) runP)(hb:∀G w2 y,fG (cY rc gh cf s x.us w X) G w2 runP y->y=.int .i64 s'.run):
  Calls prog 30 #[.pointer (some ⟨sh,0,none⟩),sB line] w fun e w'=>e=.returned (sB told)/\PW (F' F w w') w' sh ep rc gh cf s'/\Kp F w w':=by
 refine(V.run0 (X:=X) (f:=30) (ps:=[.ptr 3,.p (.val (sB line))]) (xs:=[.pointer (some ⟨sh,0,none⟩),sB line]) hX e1 e2 (bY hT (bB hE)) ⟨_,_,rfl,gD rfl,_,_,rfl,cP _,rfl⟩ h).mono ?_
 rintro e w' ⟨y,ρ',r,m',rfl,hc,hy,O⟩
 unfold ad1 at hc
 rw[aD3]at hc
 refine⟨by rw[jL hc.1 hy],V.out0 e1 e2 O hc.2 hd ha hf hg hb,O.os,O.tape,O.output,O.size,fun k hk hn=>O.keep k hk fun i q hq e=>hn ?_⟩
 rw[<-e]
 have hq:qG sh ep x i=some q:=hq
 unfold qG at hq
 split at hq
 ·injection hq with hq;subst hq;exact V.inF _ (.inl rfl)
 ·injection hq with hq;subst hq;exact V.inF _ (.inr (.inl rfl))
 ·injection hq with hq;subst hq;exact V.inF _ (.inr (.inr (.inl rfl)))
 ·injection hq with hq;subst hq;exact V.inF _ (.inr (.inr (.inr (.inl rfl))))
 ·cases hq
theorem uB (hX:kT X=true)(hl:∀l,s.beh=some l->l.length<=14):
  (FK (s.beh.map List.length)=none/\s.beh=none)∨∃l pa,s.beh=some l/\FK (s.beh.map List.length)=some (l.length,pa)/\pa.length=l.length*14/\hU (cY rc gh cf s us w X) pa/\∀ρ G w2 vs,gT ρ (cY rc gh cf s us w X) G w2 pa vs->vs.length=l.length*14->IA G w2 rc l vs:=by
 cases hb:s.beh with
 |none=>exact .inl ⟨rfl,rfl⟩
 |some l=>
  refine .inr ⟨l,jZ 0 l.length,rfl,rfl,nY _ _,?_,fun ρ G w2 vs h hv=>MK cQ l 0 vs (fun q t hq=>FH hX (by rw[hb];rfl) (hl l hb) q t hq) h hv⟩
  have key:∀(k:List (Dr×Nat)) (i:Nat),(∀q t,k[q]?=some t->pJ (cY rc gh cf s us w X) (20+2*(i+q)) (6000+16*(i+q)) (21+2*(i+q)) (6004+16*(i+q)) t.1 t.2)->hU (cY rc gh cf s us w X) (jZ i k.length):=by
   intro k;induction k with
   |nil=>intro i _;trivial
   |cons t k ih=>
    intro i h
    refine hZ (hZ (PP (h 0 t rfl)) ⟨⟨_,cQ.t.1⟩,⟨_,cQ.t.2.1⟩,⟨_,cQ.t.2.2.1⟩,⟨_,cQ.t.2.2.2.1⟩,⟨_,cQ.t.2.2.2.2.1⟩,⟨_,cQ.t.2.2.2.2.2.1⟩,⟨_,cQ.t.2.2.2.2.2.2.1⟩,⟨_,cQ.t.2.2.2.2.2.2.2⟩,trivial⟩) (ih (i+1) fun q t' hq=>?_)
    have:=h (q+1) t' hq
    rwa[show i+(q+1)=i+1+q by omega]at this
  exact key l 0 (fun q t hq=>FH hX (by rw[hb];rfl) (hl l hb) q t hq)
theorem yZ (hX:kT X=true)(hl:∀l,s.beh=some l->l.length<=14):
  ∃l pa,some (s.beh.getD []++[(s.d,s.c)])=some l/\xJ (s.beh.map List.length)=some (l.length,pa)/\pa.length=l.length*14/\hU (cY rc gh cf s us w X) pa/\∀ρ G w2 vs,gT ρ (cY rc gh cf s us w X) G w2 pa vs->vs.length=l.length*14->IA G w2 rc l vs:=by
 have hc:(kS++iI).length=14:=rfl
 have hw:hU (cY rc gh cf s us w X) (kS++iI):=hZ (PP cB) ⟨⟨_,cQ.t.1⟩,⟨_,cQ.t.2.1⟩,⟨_,cQ.t.2.2.1⟩,⟨_,cQ.t.2.2.2.1⟩,⟨_,cQ.t.2.2.2.2.1⟩,⟨_,cQ.t.2.2.2.2.2.1⟩,⟨_,cQ.t.2.2.2.2.2.2.1⟩,⟨_,cQ.t.2.2.2.2.2.2.2⟩,trivial⟩
 have one:∀ρ G w2 vs,gT ρ (cY rc gh cf s us w X) G w2 (kS++iI) vs->vs.length=14->IA G w2 rc [(s.d,s.c)] vs:=fun ρ G w2 vs h hv=>by
  obtain⟨a1,a2,rfl,ha,k1,k2⟩:=kA (a:=kS) (b:=iI) h;obtain⟨vi,vf,r1,e1,j1,j2⟩:=yU cB k1;obtain⟨r2,e2⟩:=DB cQ k2
  have z1:r1=[]:=by
   rw[e1,aD2,show(pV s.d s.c vi vf).length=6 from rfl,show kS.length=6 from rfl]at ha;exact aD8 (by omega)
  have z2:r2=[]:=by
   rw[aD2,ha,e2,aD2,show rc.l.length=8 from rfl,show kS.length=6 from rfl]at hv;exact aD8 (by omega)
  subst z1 z2;rw[aET]at e1 e2;exact⟨vi,vf,[],by rw[e1,e2,aET],j1,j2,rfl⟩
 cases hb:s.beh with
 |none=>exact⟨[(s.d,s.c)],kS++iI,rfl,rfl,hc,hw,fun ρ G w2 vs h hv=>one ρ G w2 vs h hv⟩
 |some l=>
  rcases uB (w:=w) (rc:=rc) (gh:=gh) (cf:=cf) (us:=us) hX hl with⟨_,h⟩|⟨l',pa,h1,h2,h3,h4,h5⟩
  ·rw[hb]at h;cases h
  ·rw[hb]at h1;injection h1 with h1
   subst h1;rw[hb]at h2;injection h2 with h2
   injection h2 with _ h2
   subst h2;refine⟨l++[(s.d,s.c)],jZ 0 l.length++(kS++iI),rfl,by simp[xJ],by rw[aD2,h3,hc,aD2];simp;omega,hZ h4 hw,fun ρ G w2 vs h hv=>?_⟩;obtain⟨a1,a2,rfl,ha,k1,k2⟩:=kA (a:=jZ 0 l.length) h;rw[aD2,ha,h3,aD2]at hv;refine(h5 ρ G w2 a1 k1 (by rw[ha,h3])).append (one ρ G w2 a2 k2 (by simp at hv;omega))
end
end
section
variable {B:aE}{G:Nat->Prop}{w:World}{v:Value}{bs:List Value}{σ:Nat->Nat}
def gPC (k:Nat):Value->PC
 |.tuple a=>match a.toList with
  |[.int _ b]=> .ptr b.toNat
  |[.int _ b,.int _ n,.int _ sz]=> .row b.toNat n.toNat sz.toNat k
  |_=> .any
 |y=> .p (.val y)
def aeA (k:Nat):List Value->List PC
 |[]=>[]
 |y::l=>gPC k y::aeA (k+1) l
def gIB (j:Nat):Value->IB
 |.agg a=>match a.toList with
  |.int _ t::ys=>⟨t.toNat,aeA (100*j) ys,false⟩
  |_=>⟨0,[],false⟩
 |_=>⟨0,[],false⟩
def BB (j:Nat):List Value->List IB
 |[]=>[]
 |y::l=>gIB j y::BB (j+1) l
def zB:Value->Nat
 |.agg a=>a.size-1
 |_=>0
theorem zC:∀(l:List Value) (k:Nat),(aeA k l).length=l.length
 |[],_=>rfl
 |_::l,k=>by simp[aeA,zC l (k+1)]
theorem FU:∀(l:List Value) (j:Nat),(BB j l).length=l.length
 |[],_=>rfl
 |_::l,j=>by simp[BB,FU l (j+1)]
theorem PX:∀(l:List Value) (s j:Nat),(BB s l)[j]?=(l[j]?).map (gIB (s+j))
 |[],_,_=>rfl
 |_::l,s,0=>rfl
 |_::l,s,j+1=>by
  show(BB (s+1) l)[j]?=(l[j]?).map _;rw[PX l (s+1) j,show s+1+j=s+(j+1) by omega]
def xL (w:World)(f:Nat->Option (Nat×Nat×Nat×Nat))(k:Nat):Option Nat:=
 if k<700 then(match f (k/100)with
  |some (g,o,_,_)=>match w.heap[g]? with
   |some (.cells arr _ _)=>match arr[o+k%100]? with
    |some (.slice _ _ c)=>some c
    |_=>none
   |_=>none
  |none=>none)else none
theorem aeB {f:Nat->Option (Nat×Nat×Nat×Nat)}{g o z m j i:Nat}{arr:Array Value}{t:TypeId}(hf:f j=some (g,o,z,m))(hh:w.heap[g]?=some (.cells arr t (0,0)))(hj:j<7)(hi:i<100){u y:Value}(hu:arr[o+i]?=some u)(h:NU f u y):
  IsC (Env.ini B f (xL w f)) B G w (gPC (100*j+i) y) u:=by
 have ha:∀A n c,u=.slice A n c->xL w f (100*j+i)=some c:=fun A n c e=>by
  unfold xL;rw[aD6 (by omega),show(100*j+i)/100=j by omega,show(100*j+i)%100=i by omega,hf];simp only[hh,hu,e]
 unfold NU at h
 split at h
 ·rename_i a;unfold gPC;split at h
  ·rename_i k1 b hl;obtain⟨⟨g1,o1,z1,m1⟩,h1,rfl⟩:=h;simp only[hl];exact gD h1
  ·rename_i k1 b k2 n k3 sz hl;obtain⟨⟨g1,o1,z1,m1⟩,c,h1,rfl,h2,h3,h4⟩:=h;simp only[hl];exact yV (ρ:=Env.ini B f (xL w f)) h1 (ha _ _ _ rfl) h2.1 h3 h4 h2.2
  ·exact False.elim h
 ·rename_i y' hn;subst h
  have:gPC (100*j+i) u=.p (.val u):=by
   unfold gPC;split
   ·rename_i a;exact absurd rfl (hn a)
   ·rfl
  rw[this];rfl
theorem J3 {B:aE}{G:Nat->Prop}{w:World}{f:Nat->Option (Nat×Nat×Nat×Nat)}{g o z m j:Nat}{arr:Array Value}{t:TypeId}(hf:f j=some (g,o,z,m))(hh:w.heap[g]?=some (.cells arr t (0,0)))(hj:j<7):∀(ys:List Value) (i:Nat),i+ys.length<100->
  (∀i' y,ys[i']?=some y->∃u,arr[o+(i+i')]?=some u/\u.oneCell'=true/\NU f u y)->lY (Env.ini B f (xL w f)) B G w (aeA (100*j+i) ys) ((arr.toList.drop (o+i)).take ys.length)/\∀v∈(arr.toList.drop (o+i)).take ys.length,v.oneCell'=true
 |[],_,_,_=>⟨rfl,fun v hv=>by simp at hv⟩
 |y::ys,i,hl,h=>by
  obtain⟨u,hu,h1,h2⟩:=h 0 y rfl;rw[aE2]at hu
  have ha:o+i<arr.toList.length:=by
   have:=(aD5.1 hu).1;simpa using this
  have hd:arr.toList.drop (o+i)=u::arr.toList.drop (o+i+1):=by
   rw[aFN ha];congr 1;have:=(aD5.1 hu).2;simpa using this
  obtain⟨k1,k2⟩:=J3 hf hh hj ys (i+1) (by simp at hl;omega) (fun i' y' hy=>by
   have:=h (i'+1) y' hy;rwa[show i+(i'+1)=i+1+i' by omega]at this) (B:=B) (G:=G)
  rw[hd];refine⟨⟨u,(arr.toList.drop (o+i+1)).take ys.length,by simp,aeB hf hh hj (by simp at hl;omega) hu h2,k1⟩,fun v hv=>?_⟩;simp only[aEN,aE1,aER]at hv;rcases hv with rfl|hv
  ·exact h1
  ·exact k2 v hv
theorem apQ (h:DW G w v bs)(hl:bs.length<=7)(hc:∀y∈bs,zB y<100):
  ∃blk cap,(∀i,(BB 0 bs).length<=i->blk i=none)/\(∀i,700<=i->cap i=none)/\(∀b b' q q',blk b=some q->blk b'=some q'->b≠b'->q.1≠q'.1)/\(∀b q,blk b=some q->G q.1/\q.1<w.heap.size)/\
   (∀(B:aE) (G':Nat->Prop) j x,(BB 0 bs)[j]?=some x->MG (Env.ini B blk cap) B G' w j x)/\∀B:aE,aO (Env.ini B blk cap) (.ptr 0 0)=some v:=by
 obtain⟨f,h1,h2,h3,h4,q,h5,h6⟩:=h
 refine⟨f,xL w f,fun i hi=>h3 i (by rw[FU]at hi;exact hi),fun i hi=>by unfold xL;rw[aD4 (by omega)],h1,h2,fun B G' j x hx=>?_,fun B=>?_⟩
 ·rw[PX]at hx
  cases hy:bs[j]? with
  |none=>rw[hy]at hx;cases hx
  |some y=>
   rw[hy]at hx
   injection hx with hx
   subst hx
   have hj:j<bs.length:=(aED.1 hy).1
   have hg:=h4 j y hy
   have hn:=hc y (aE6 hy)
   rw[aEV]
   unfold R7 at hg
   split at hg
   ·rename_i a;split at hg
    ·rename_i k t ys ha;obtain⟨g,o,z,arr,k1,k2,k3,k4,k5⟩:=hg
     have hd:ys.length<100:=by
      have hf:a.size-1<100:=hn;have:a.toList.length=ys.length+1:=by rw[ha];rfl
      simp at this;omega
     obtain⟨c1,c2⟩:=J3 (B:=B) (G:=G') k1 k2 (by omega) ys 0 (by omega) (fun i' y' hb=>by rw[aEV];exact k5 i' y' hb);unfold gIB;simp only[ha];refine⟨g,o,z,arr,_,by rw[zC];exact k1,k2,k3,by rw[zC];exact k4,c1,c2,fun i hi=>?_,fun h=>by cases h⟩;rw[zC]at hi;rw[aE5,aD6 hi,aFX];simp
    ·exact False.elim hg
   ·exact False.elim hg
 ·obtain⟨g,o,z,m⟩:=q;rw[h6];exact gD h5
def oPC (σ:Nat->Nat):Value->PC
 |.tuple a=>match a.toList with
  |[.int _ b]=> .ptr (σ b.toNat)
  |[.int _ b,.int _ n,.int _ sz]=> .rox (σ b.toNat) n.toNat sz.toNat
  |_=> .p (.tup [])
 |y=> .p (.val y)
def okC (bs:List Value):Value->Bool
 |.tuple a=>match a.toList with
  |[.int _ b]=>Nat.blt b.toNat bs.length
  |[.int _ b,.int _ n,.int _ sz]=>(match bs[b.toNat]? with|some y=>Nat.ble (zB y) (n.toNat*sz.toNat)|none=>false)
  |_=>false
 |_=>true
def apS (n:List Value)(σ:Nat->Nat)(m:M)(b:Nat):Value->Bool
 |.agg a=>match a.toList with
  |.int _ t::ys=>ys.all (okC n)&&dE m b t.toNat (ys.map (oPC σ))
  |_=>false
 |_=>false
def aeC (n:List Value)(σ:Nat->Nat)(m:M)(s:Nat):List Value->Bool
 |[]=>true
 |y::l=>apS n σ m (σ s) y&&aeC n σ m (s+1) l
def anO (σ:Nat->Nat)(n:Nat):Bool:=(List.range n).all fun i=>(List.range n).all fun j=>Nat.beq i j || !Nat.beq (σ i) (σ j)
theorem V8 {n:List Value}{m:M}:∀{l:List Value} {s:Nat},aeC n σ m s l=true->∀j y,l[j]?=some y->apS n σ m (σ (s+j)) y=true
 |[],_,_,j,y,h=>by simp at h
 |x::l,s,h,j,y,hy=>by
  unfold aeC at h;rw[aD3]at h
  cases j with
  |zero=>injection hy with hy;subst hy;exact h.1
  |succ j=>
   have:=V8 h.2 j y hy
   rwa[show s+1+j=s+(j+1) by omega]at this
theorem apT (σ:Nat->Nat):∀y,WfC B (oPC σ y):=by
 intro y;unfold oPC;split
 ·split
  ·trivial
  ·trivial
  ·exact trivial
 ·trivial
theorem V9 (σ:Nat->Nat):∀ys:List Value,hU B (ys.map (oPC σ))
 |[]=>trivial
 |y::ys=>⟨apT σ y,V9 σ ys⟩
theorem PY {ρ:Env}:∀{l:List PC} {vs:List Value},gT ρ B G w l vs->∀(i:Nat) (p:PC),l[i]?=some p->∃u,vs[i]?=some u/\PJ ρ B G w p u
 |[],_,_,i,p,h=>by simp at h
 |_::l,_,h,i,p,hp=>by
  obtain⟨y,r,rfl,h1,h2⟩:=h
  cases i with
  |zero=>injection hp with hp;subst hp;exact⟨y,rfl,h1⟩
  |succ i=>exact PY h2 i p hp
def MT (ρ:Env)(σ:Nat->Nat)(bs:List Value)(j:Nat):Option (Nat×Nat×Nat×Nat):=match bs[j]? with
 |some y=>match ρ.blk (σ j)with
  |some (g,o,z,_)=>some (g,o,z,zB y)
  |none=>none
 |none=>none
theorem akH {ρ0 ρ':Env}{w':World}{m':M}(O:Out B G ρ0 w ρ' m' w')(h0:∀j,ρ0.blk j=none)(h:aeC bs σ m' 0 bs=true)(hd:anO σ bs.length=true)(hj:0<bs.length)(hv:aO ρ' (.ptr (σ 0) 0)=some v):
  DW (fun g=>w.heap.size<=g) w' v bs:=by
 have key:∀j y,bs[j]?=some y->∃t ys a g o z m arr vs,y=.agg a/\a.toList=t::ys/\zB y=ys.length/\(∃k n,t=.int k n/\w'.heap[g]?=some (.cells arr n.toNat (0,0)))/\ρ'.blk (σ j)=some (g,o,z,m)/\dD ρ' m' g/\arr.size=z/\o+m<=z/\ys.length<=m/\gT ρ' B (fun g=>(G g∨w.heap.size<=g)/\¬dD ρ' m' g) w' (ys.map (oPC σ)) vs/\(∀u∈vs,u.oneCell'=true)/\(∀i,i<ys.length->arr[o+i]?=vs[i]?)/\(∀c∈ys,okC bs c=true)/\∃t' qs,dE m' (σ j) t' qs=true:=by
  intro j y hy;have hb:=V8 h j y hy;rw[aEV]at hb;unfold apS at hb;split at hb
  ·rename_i a;split at hb
   ·rename_i k t ys hl;rw[aD3]at hb;obtain⟨hk,hb⟩:=hb;obtain⟨g,o,z,m,arr,vs,e1,e2,e3,e4,e5,e6,e7,e8,e9,ea⟩:=O.block hb (V9 σ ys);rw[aFV]at e6 e8 ea;refine⟨_,ys,a,g,o,z,m,arr,vs,rfl,hl,?_,⟨k,t,rfl,e3⟩,e1,e2,e4,e5,e6,e7,e9,ea,fun c hc=>aD7.1 hk c hc,_,_,hb⟩;unfold zB;have:a.toList.length=ys.length+1:=by rw[hl];rfl
    simp at this;simp only;omega
   ·cases hb
  ·cases hb
 have hf:∀b q,MT ρ' σ bs b=some q->∃y t ys a g o z m arr vs,bs[b]?=some y/\q=(g,o,z,ys.length)/\y=.agg a/\a.toList=t::ys/\ρ'.blk (σ b)=some (g,o,z,m)/\dD ρ' m' g/\w'.heap[g]?=some arr/\arr=arr/\vs=([]:List Value)/\∃t' qs,dE m' (σ b) t' qs=true:=by
  intro b q hq;unfold MT at hq
  cases hy:bs[b]? with
  |none=>rw[hy]at hq;cases hq
  |some y=>
   obtain⟨t,ys,a,g,o,z,m,arr,vs,k1,k2,k3,⟨kk,n,k4,k5⟩,k6,k7,k8,k9,kf,ka,kb,kc,kd,ke⟩:=key b y hy
   rw[hy]at hq
   simp only[k6,k3]at hq
   injection hq with hq
   exact⟨y,t,ys,a,g,o,z,m,_,[],rfl,hq.symm,k1,k2,k6,k7,k5,rfl,rfl,ke⟩
 have hA:∀g,dD ρ' m' g->w.heap.size<=g:=fun g hg=>by
  rcases O.live g hg with hx|⟨j,q,hq,_⟩
  ·exact hx
  ·rw[h0 j]at hq;cases hq
 refine⟨MT ρ' σ bs,fun b b' q q' hq hB hC=>?_,fun b q hq=>?_,fun b hb=>?_,fun j y hy=>?_,?_⟩
 ·obtain⟨y,t,ys,a,g,o,z,m,arr,vs,j1,j2,j3,j4,j5,j6,j7,_,_,t1,q1,j8⟩:=hf b q hq;obtain⟨y',t',ya,a',g',o',z',m2,aa,va,i1,i2,i3,i4,i5,i6,i7,_,_,t2,q2,i8⟩:=hf b' q' hB;have hb:=(aED.1 j1).1;have hD:=(aED.1 i1).1
  have hs:σ b≠σ b':=fun e=>by
   have:=aD7.1 (aD7.1 hd b (aEE.2 hb)) b' (aEE.2 hD);rw[e,aFQ]at this;rcases this with h|h
   ·exact hC (aEA h)
   ·simp at h
  have:=O.ne j8 i8 hs j5 i5;rw[j2,i2];exact this
 ·obtain⟨y,t,ys,a,g,o,z,m,arr,vs,j1,j2,j3,j4,j5,j6,j7,_⟩:=hf b q hq;rw[j2];exact⟨hA g j6,(aD5.1 j7).1⟩
 ·unfold MT;rw[aFI hb]
 ·obtain⟨t,ys,a,g,o,z,m,arr,vs,k1,k2,k3,⟨kk,n,k4,k5⟩,k6,k7,k8,k9,kf,ka,kb,kc,kd,ke⟩:=key j y hy;subst k1 k4;unfold R7;simp only[k2];refine⟨g,o,z,arr,?_,k5,k8,by omega,fun i c hc=>?_⟩
  ·unfold MT;rw[hy];simp only[k6,k3]
  ·have hi:=(aED.1 hc).1;obtain⟨u,hu,ho⟩:=PY ka i (oPC σ c) (by rw[aFT,hc];rfl);refine⟨u,by rw[kc i hi];exact hu,kb u (aE6 hu),?_⟩
   have hE:∀b g1 o1 z1 m1,ρ'.blk (σ b)=some (g1,o1,z1,m1)->b<bs.length->∃q,MT ρ' σ bs b=some q/\q.1=g1/\q.2.1=o1/\q.2.2.1=z1/\q.2.2.2<=m1:=fun b g1 o1 z1 m1 hb hr=>by
    obtain⟨y',ht⟩:∃y',bs[b]?=some y':=⟨_,aEB hr⟩;obtain⟨t',ya,a',g',o',z',m2,aa,va,i1,i2,i3,_,i6,_,_,i9,ia,_⟩:=key b y' ht;rw[hb]at i6;injection i6 with i6
    injection i6 with e1 i6
    injection i6 with e2 i6
    injection i6 with e3 e4
    subst e1 e2 e3 e4;refine⟨(g1,o1,z1,zB y'),?_,rfl,rfl,rfl,by show zB y'<=m1;omega⟩;unfold MT;rw[ht];simp only[hb]
   have ha:=kd c (aE6 hc);unfold NU;unfold oPC at ho;unfold okC at ha;split
   ·rename_i a';simp only at ho ha;split
    ·rename_i kg b1 hp;simp only[hp]at ho ha;obtain⟨g1,o1,z1,m1,hh,rfl⟩:=ho;obtain⟨q1,q2,q3,q4,q5,q6⟩:=hE _ _ _ _ _ hh (cast Nat.blt_eq ha);exact⟨q1,q2,by rw[q3,q4]⟩
    ·rename_i kg b1 kh n1 ki sa hp;simp only[hp]at ho ha;obtain⟨g1,o1,z1,m1,c1,hh,rfl,hz,hF⟩:=ho
     cases hy1:bs[b1.toNat]? with
     |none=>rw[hy1]at ha;cases ha
     |some y1=>
      rw[hy1]at ha
      have hr:=(aED.1 hy1).1
      obtain⟨t',ya,a',g',o',z',m2,aa,va,i1,i2,i3,_,i6,_,i8,i9,ia,_⟩:=key _ y1 hy1
      rw[hh]at i6
      injection i6 with i6
      injection i6 with e1 i6
      injection i6 with e2 i6
      injection i6 with e3 e4
      subst e1 e2 e3 e4
      have h5:=aEJ ha
      have h6:=aE4 sa.toNat hz.1
      refine⟨(g1,o1,z1,zB y1),c1,?_,rfl,hz,by show zB y1<=_;omega,?_⟩
      ·unfold MT;rw[hy1];simp only[hh]
      ·show o1+c1*sa.toNat<=z1;rcases hF with h|h<;>omega
    ·rename_i n1 n2;split at ha
     ·exact n1 _ _ ‹_›
     ·exact n2 _ _ _ _ _ _ ‹_›
     ·cases ha
   ·rename_i y' hn;split at ho
    ·rename_i a';exact absurd rfl (hn a')
    ·exact ho
 ·obtain⟨y,hy⟩:∃y,bs[0]?=some y:=⟨_,aEB hj⟩;obtain⟨t,ys,a,g,o,z,m,arr,vs,k1,k2,k3,⟨kk,n,k4,k5⟩,k6,k7,_⟩:=key 0 y hy;refine⟨(g,o,z,zB y),?_,?_⟩
  ·unfold MT;rw[hy];simp only[k6]
  ·unfold aO at hv;rw[k6]at hv;injection hv with hv
   rw[<-hv];rfl
end
section
variable {B:aE}{G:Nat->Prop}{w:World}{a b us:List Value}{q sz n:Nat}{v vl:Value}{ρ0:Env}
def lG (i n:Nat):List eG:=(List.range n).map fun k=> .at_ (8000+4*(i+k))
theorem BD (i n:Nat):lG i (n+1)=.at_ (8000+4*i)::lG (i+1) n:=by
 simp only[lG,List.range_succ_eq_map,aFB,List.map_map,aE2];congr 2
 funext k;show eG.at_ _=.at_ _;congr 1;simp only[Nat.succ_eq_add_one];omega
theorem zF:∀(l:List Value) (i:Nat),(∀q v,l[q]?=some v->B.A (8000+4*(i+q))=some v/\v.oneCell'=true)->kW B G w (lG i l.length) l
 |[],_,_=>rfl
 |v::l,i,h=>by
  rw[aEN,BD];refine⟨v,l,rfl,h 0 v rfl,zF l (i+1) fun q u hq=>?_⟩;have:=h (q+1) u hq;rwa[show i+(q+1)=i+1+q by omega]at this
theorem lH:∀(l:List Value) (i:Nat) (ys:List Value),(∀q v,l[q]?=some v->B.A (8000+4*(i+q))=some v)->kW B G w (lG i l.length) ys->ys=l
 |[],_,_,_,h=>h
 |v::l,i,_,h,hy=>by
  rw[aEN,BD]at hy;obtain⟨y,r,rfl,h1,h2⟩:=hy;rw[bF (h 0 v rfl) h1,lH l (i+1) r (fun q u hq=>?_) h2];have:=h (q+1) u hq;rwa[show i+(q+1)=i+1+q by omega]at this
theorem BE:∀(n i:Nat),(∀q,q<n->∃v,B.A (8000+4*(i+q))=some v)->lJ B (lG i n)
 |0,_,_=>trivial
 |n+1,i,h=>by
  rw[BD];refine⟨h 0 (aHK n),BE n (i+1) fun q hq=>?_⟩;have:=h (q+1) (Nat.succ_lt_succ hq);rwa[show i+(q+1)=i+1+q by omega]at this
def two (a b:List Value):Nat->Option Value:=fun i=>if i%4=0 then(if 8000<=i then(if i<9000 then a[(i-8000)/4]? else b[(i-9000)/4]?)else none)else none
theorem FY:∀i x,two a b i=some x->i%2≠1:=fun i x h=>by
 unfold two at h;split at h
 ·omega
 ·cases h
theorem P1 (ha:a.length<=250)(h:a[q]?=some v):two a b (8000+4*(0+q))=some v:=by
 have hq:=(aED.1 h).1;unfold two;rw[aD6 (by omega),aD6 (by omega),aD6 (by omega),show(8000+4*(0+q)-8000)/4=q by omega,h]
theorem WB (h:b[q]?=some v):two a b (8000+4*(250+q))=some v:=by
 unfold two;rw[aD6 (by omega),aD6 (by omega),aD4 (by omega),show(8000+4*(250+q)-9000)/4=q by omega,h]
def WC (a:List AV):List AV:=[.agg a]
def oX:Option Nat->List IB
 |none=>[]
 |some n=>[⟨43,dH 250 (40*n),false⟩]
def apU (o:Option Nat)(m:Int):List PC:=[(match o with|none=> .p (.val (.slice none 0 0))|some n=> .row 0 n 40 0),.p (.agg (lG 0 40)),.p (.val (.int .i64 m))]
def IJ (na t sz:Nat)(qs:List PC)(a:AV)(m:M):Bool:=match a with
 |.lit (.slice none 0 0)=>Nat.beq qs.length 0
 |.slc b o n s c=>Nat.beq o 0&&(Nat.beq (n*sz) qs.length&&(Nat.beq s sz&&(CV (.rox b n sz) (.slc b o n s c)&&(dE m b t qs&&Nat.ble na b))))
 |_=>false
def BF:AV->Nat
 |.slc b _ _ _ _=>b
 |_=>1000000
noncomputable def akI (B:aE)(o:Option Nat)(k:Int):Bool:=match dR B iT JK 23 (bX (bQ 1 (oX o)).2 (apU o k)).1 {H:=tB (bQ 1 (oX o)).1,nb:=(oX o).length,nc:=(bX (bQ 1 (oX o)).2 (apU o k)).2}with
 |some (r,m)=>IJ (oX o).length 43 40 (dH 250 (40*o.getD 0)++dH 0 40) r m&&zE (bQ 1 (oX o)).1 m
 |none=>false
theorem aeG (B:aE):([none,some 0,some 1,some 2,some 3,some 4,some 5].all fun o=>akI B o 20&&akI B o 1048576)=true:=by kernel_rfl
theorem uU:∀(l:List Value) (i:Nat) (vs:List Value),(∀q v,l[q]?=some v->B.A (8000+4*(i+q))=some v)->gT ρ0 B G w (dH i l.length) vs->∀q,q<l.length->vs[q]?=l[q]?
 |[],_,_,_,_,q,hq=>absurd hq (Nat.not_lt_zero q)
 |v::l,i,vs,h,hv,q,hq=>by
  obtain⟨y,r,rfl,h1,h2⟩:=hv
  cases q with
  |zero=>exact aEK some (dX (h 0 v rfl) h1)
  |succ q=>
   refine uU l (i+1) r (fun q' u ha=>?_) h2 q (by simpa using hq)
   have:=h (q'+1) u ha
   rwa[show i+(q'+1)=i+1+q' by omega]at this
theorem P2 {ρ0:Env}{B:aE}{G:Nat->Prop}{w:World}:∀{a b:List PC} {x:List Value},gT ρ0 B G w (a++b) x->gT ρ0 B G w b (x.drop a.length)
 |[],_,x,h=>h
 |_::l,b,_,h=>by
  obtain⟨y,r,rfl,_,h2⟩:=h;exact P2 (a:=l) (b:=b) h2
theorem P3 {ρ0:Env}{B:aE}{G:Nat->Prop}{w:World}:∀{a b:List PC} {x:List Value},gT ρ0 B G w (a++b) x->gT ρ0 B G w a x
 |[],_,_,_=>trivial
 |_::l,b,_,h=>by
  obtain⟨y,r,rfl,h1,h2⟩:=h;exact⟨y,r,rfl,h1,P3 (a:=l) (b:=b) h2⟩
theorem zG:∀(n i:Nat),(∀q,q<n->∃v,B.A (8000+4*(i+q))=some v)->hU B (dH i n)
 |0,_,_=>trivial
 |n+1,i,h=>⟨h 0 (aHK _),zG n (i+1) fun q hq=>by
   have:=h (q+1) (Nat.succ_lt_succ hq);rwa[show i+(q+1)=i+1+q by omega]at this⟩
theorem rH {ρ':Env}{w':World}{m':M}(O:Out B G ρ0 w ρ' m' w'){na t:Nat}{qs:List PC}(hnew:∀b k q,na<=b->m'.H.get b=some k->ρ'.blk b=some q->w.heap.size<=q.1){a:AV}(h:IJ na t sz qs a m'=true){x:Value}(hx:aO ρ' a=some x)(ha:hU B qs){vs:List Value}(hl:vs.length=qs.length)(hv:∀us,gT ρ' B (fun g=>(G g∨w.heap.size<=g)/\¬dD ρ' m' g) w' qs us->∀j,j<vs.length->us[j]?=vs[j]?):x.oneCell'=true/\nS (fun g=>w.heap.size<=g) w' t sz x vs/\∀g,x.ownBlock=some g->∃k q,m'.H.get (BF a)=some k/\ρ'.blk (BF a)=some q/\q.1=g:=by
 unfold IJ at h;split at h
 ·have h0:=aEA h;unfold aO at hx;injection hx with hx
  subst hx;exact⟨rfl,⟨none,0,0,rfl,aD1 _,by omega,by omega,.inl ⟨rfl,rfl⟩⟩,fun g hg=>by simp[Value.ownBlock]at hg⟩
 ·rename_i b o n s c;simp only[aD3]at h;obtain⟨h1,h2,h3,h4,h5,h6⟩:=h;have h2:=aEA h2;obtain⟨g,o2,z,m2,c2,e1,rfl,e2,e3⟩:=O.mat (.rox b n sz) _ x h4 trivial hx;obtain⟨g',o3,z',m3,arr,us,f1,f2,f3,f4,f5,f6,f7,f8,f9,f10⟩:=O.block h5 ha;rw[f1]at e1;injection e1 with e1
  injection e1 with ea e1
  injection e1 with eb e1
  injection e1 with ec ed
  subst ea eb ec ed
  obtain⟨k,hk⟩:∃k,m'.H.get b=some k:=by
   unfold dE at h5
   cases hg:m'.H.get b with
   |none=>rw[hg]at h5;cases h5
   |some k=>exact⟨k,rfl⟩
  refine⟨rfl,⟨_,_,c2,rfl,e2.1,e2.2,by omega,.inr ⟨g',o3,arr,rfl,hnew b k _ (aEJ h6) hk f1,f3,?_,fun j hj=>?_⟩⟩,fun g hg=>⟨k,_,hk,f1,?_⟩⟩
  ·rw[f4];rcases e3 with e3|e3<;>omega
  ·rw[f10 j (by omega)];exact hv us f7 j hj
  ·simpa [Value.ownBlock]using hg
 ·cases h
theorem nS.own {t:Nat}{ys:List Value}(h:nS G w t sz v ys):nS (fun g=>v.ownBlock=some g) w t sz v ys:=by
 obtain⟨A,n,c,rfl,h2,h3,h4,h5⟩:=h;refine⟨A,n,c,rfl,h2,h3,h4,h5.imp id ?_⟩;rintro⟨b,off,arr,rfl,_,hb,hs,hc⟩;exact⟨b,off,arr,rfl,by simp[Value.ownBlock],hb,hs,hc⟩
theorem aeH {G0:Nat->Prop}(h:nS G0 w 43 40 vl us)(hu:us.length=40*n)(h1:∀u∈us,u.oneCell'=true):
  ∃(o:Option Nat) (blk:Nat->Option (Nat×Nat×Nat×Nat)) (cap:Nat->Option Nat),o.getD 0=n/\(∀i,(oX o).length<=i->blk i=none)/\(∀i,1<=i->cap i=none)/\(∀b b' q q',blk b=some q->blk b'=some q'->b≠b'->q.1≠q'.1)/\(∀b q,blk b=some q->vl.ownBlock=some q.1)/\
   ∀(B:aE) (G:Nat->Prop),(∀q v,us[q]?=some v->B.A (8000+4*(250+q))=some v)->(∀j x,(oX o)[j]?=some x->MG (Env.ini B blk cap) B G w j x)/\
    IsC (Env.ini B blk cap) B G w (match o with|none=> .p (.val (.slice none 0 0))|some n=> .row 0 n 40 0) vl:=by
 obtain⟨A,n',c,rfl,ha,hd,hl,hA⟩:=h
 obtain rfl:n=n':=by omega
 rcases hA with⟨rfl,rfl⟩|⟨b,off,arr,rfl,_,hb,hs,hc⟩
 ·exact⟨none,fun _=>none,fun _=>none,by simp;omega,fun _ _=>rfl,fun _ _=>rfl,(fun _ _ _ _ h=>by cases h),(fun _ _ h=>by cases h),fun B G _=>⟨(fun _ _ h=>by cases h),by
   obtain rfl:n=0:=by omega
   rfl⟩⟩
 ·refine⟨some n,fun i=>if i=0 then some (b,off,arr.size,40*n)else none,fun i=>if i=0 then some c else none,rfl,fun i hi=>aD4 (by simp[oX]at hi;omega),fun i hi=>aD4 (by omega),fun b1 b2 q q' e1 e2 hf=>?_,fun b1 q e1=>?_,fun B G hB=>⟨fun j x hj=>?_,?_⟩⟩
  ·by_cases h0:b1=0
   ·simp only[aD4 (show ¬b2=0 by omega)]at e2
    cases e2
   ·simp only[aD4 h0]at e1
    cases e1
  ·by_cases h0:b1=0
   ·simp only[aD6 h0]at e1;injection e1 with e1
    subst e1;simp[Value.ownBlock]
   ·simp only[aD4 h0]at e1
    cases e1
  ·cases j with
   |succ j=>simp[oX]at hj
   |zero=>
    simp only[oX,List.getElem?_cons_zero,Option.some.injEq]at hj
    subst hj
    have hlen:(dH 250 (40*n)).length=40*n:=gK _ _
    refine⟨b,off,arr.size,arr,us,by rw[hlen];rfl,hb,rfl,by rw[hlen];omega,?_,h1,fun i hi=>hc i (by rw[hlen]at hi;omega),fun h=>by cases h⟩
    have:=oU (ρ0:=Env.ini B (fun i=>if i=0 then some (b,off,arr.size,40*n)else none) (fun i=>if i=0 then some c else none)) (B:=B) (G:=G) (w:=w) us 250 fun q v hq=>⟨hB q v hq,h1 v (aE6 hq)⟩
    rwa[hu]at this
  ·show(if n+0<=c/\40*n<=0+(c-0)*40/\off+0+(c-0)*40<=arr.size/\c<=9223372036854775807 then some (Value.slice (some ⟨b,off+0,none⟩) n (c-0))else none)=_;rw[aD6 (by omega)];rfl
set_option maxRecDepth 100000 in
theorem P4 {fs:List Value}(hn:n<=5)(h:nS (fun _=>True) w 43 40 vl us)(hu:us.length=40*n)(hf:fs.length=40)(h1:∀u∈us,u.oneCell'=true)(h2:∀u∈fs,u.oneCell'=true){k:Int}(hk:k=20∨k=1048576):
  Calls prog 23 #[vl,.agg fs.toArray,.int .i64 k] w fun e w'=>∃v',e=.returned v'/\v'.oneCell'=true/\nS (fun g=>w.heap.size<=g) w' 43 40 v' (us++fs)/\Below w.heap.size w w':=by
 have hat:∀q v,fs[q]?=some v->two fs us (8000+4*(0+q))=some v/\v.oneCell'=true:=fun q v hq=>⟨P1 (by omega) hq,h2 v (aE6 hq)⟩
 have hd:∀q v,us[q]?=some v->two fs us (8000+4*(250+q))=some v:=fun q v hq=>WB hq
 obtain⟨o,blk,cap,ho,p1,p2,p3,_,pa⟩:=aeH h hu h1
 obtain⟨p4,p5⟩:=pa ⟨fun _=>False,w,two fs us⟩ (fun _=>False) hd
 have ha:akI ⟨fun _=>False,w,two fs us⟩ o k=true:=by
  have:=aD7.1 (aeG ⟨fun _=>False,w,two fs us⟩) o (rG (by omega));rw[aD3]at this;rcases hk with rfl|rfl
  ·exact this.1
  ·exact this.2
 unfold akI at ha
 have hc:=zF (B:=⟨fun _=>False,w,two fs us⟩) (G:=fun _=>False) (w:=w) fs 0 hat
 rw[hf]at hc
 refine(mL FY (bY (bD aH aH aH aH) qX) (sh:=id) (sv:=id) (fun _ _ _ h=>h) (nc0:=1) (ib:=oX o) (ps:=apU o k) (chk:=fun r m=>IJ (oX o).length 43 40 (dH 250 (40*o.getD 0)++dH 0 40) r m) ha (by cases o<;>simp[oX]) blk cap p1 p2 p3 w ⟨fun _ h=>False.elim h,fun _ h=>False.elim h⟩ (fun _ _ _ h=>h) (G:=fun _=>False) (fun _ _ _ h=>h) p4 [vl,.agg fs.toArray,.int .i64 k]
  ⟨_,_,rfl,p5,_,_,rfl,⟨fs,rfl,hc⟩,_,_,rfl,rfl,rfl⟩).mono ?_
 rintro e w' ⟨x,ρ',r,m',rfl,hk,hx,O,hb,_,hnew⟩
 rw[ho]at hk
 obtain⟨q1,q2,_⟩:=rH O hnew hk hx (hZ (zG _ _ fun q hq=>⟨_,hd q _ (aEB (by omega))⟩) (zG _ _ fun q hq=>⟨_,(hat q _ (aEB (by omega))).1⟩)) (vs:=us++fs) (by rw[aD2,aD2,gK,gK];omega) fun vs f7 j hj=>by
  rcases aEU j (40*n)with hg|hg
  ·have h8:=P3 (a:=dH 250 (40*n)) (b:=dH 0 40) f7;rw[<-hu]at h8;rw[aEG (by omega)];exact uU us 250 vs hd h8 j (by omega)
  ·have h8:=P2 (a:=dH 250 (40*n)) (b:=dH 0 40) f7;rw[gK]at h8;have:=uU fs 0 _ (fun q v hq=>(hat q v hq).1) (by rw[hf];exact h8) (j-40*n) (by rw[aD2]at hj;omega);rw[aFX,show 40*n+(j-40*n)=j by omega]at this;rw[aEO (by omega),hu];exact this
 exact⟨x,rfl,q1,q2,hb⟩
end
structure Lc where
 dig:Int->List UInt8
 dec:List UInt8
 grp:List UInt8
 ahead:List (List UInt8)
 behind:List (List UInt8)
 p:Int
 q:Int
abbrev It:=Int×List UInt8×Int
def F6 (x:It):List Value:=[.int .i64 x.1,sB x.2.1,.int .i64 x.2.2]
def eV (l:List It):List Value:=l.flatMap F6
theorem kU (a b:List It):eV (a++b)=eV a++eV b:=by simp[eV]
def sR (left p q:Int):Bool:=if left<1∨p<1∨left<p then false else if left=p then true else decide (q>0)&&((left-p)%q ==0)
def cU (ts:List (List UInt8)):List It:=ts.map fun t=>(0,t,-1)
def xM (L:Lc)(l:List Int)(n k:Nat):List It:=(2,L.dig (l.getD k 0),(k:Int))::(if sR ((n:Int)-1-k) L.p L.q=true then [(3,L.grp,-1)]else [])
def dY (L:Lc)(l:List Int)(n:Nat):Nat->List It
 |0=>[]
 |k+1=>dY L l n k++xM L l n k
def kO (L:Lc)(l:List Int)(n:Nat):Nat->List It
 |0=>[]
 |k+1=>kO L l n k++[(2,L.dig (l.getD k 0),(n:Int)+1+k)]
def bC (L:Lc)(d:Dr):List It:=
 cU L.ahead++dY L d.int d.int.length d.int.length++(if d.sep=true then [(4,L.dec,(d.int.length:Int))]else [])++kO L d.frac d.int.length d.frac.length++cU L.behind
def eI (w:World)(v:Value)(ts:List (List UInt8)):Prop:=
 ∃A c,v=.slice A ts.length c/\ts.length<=c/\True/\(0<ts.length->∃b off,A=some ⟨b,off,none⟩/\∀j,j<ts.length->w.cell? ⟨b,off+j*2,none⟩=some (.bool false)/\w.cell? ⟨b,off+j*2+1,none⟩=some (sB (ts.getD j [])))
theorem J5:∃i,prog.info? 388=some i/\i.zero=some (.agg #[.int .i64 0,sB [],.int .i64 0])/\i.size=3/\i.bytes=32:=by
 have h:(prog.info? 388).map (fun i=>(i.zero,i.size,i.bytes))=some (some (.agg #[.int .i64 0,sB [],.int .i64 0]),3,32):=by kernel_rfl
 cases hx:prog.info? 388 with
 |none=>rw[hx]at h;cases h
 |some i=>
  rw[hx]at h
  simp only[aFH,Option.some.injEq,Prod.mk.injEq]at h
  exact⟨i,rfl,h.1,h.2.1,h.2.2⟩
theorem ae4 (a p q:Int)(w:World)(ha:-1000000<=a)(hb:a<=1000000)(hp:0<=p)(hc:p<=1000000)(hq:0<=q)(hd:q<=1000000):
  Calls prog 358 #[.int .i64 a,.int .i64 p,.int .i64 q] w fun e w'=>e=.returned (.bool (sR a p q))/\w=w':=by
 obtain⟨r,hr⟩:∃r,sR a p q=r:=⟨_,rfl⟩
 rw[hr]
 unfold sR at hr
 by_cases h1:a<1
 ·rw[aD6 (.inl h1)]at hr;subst hr;go_enter func358,ntmps358;go_wp2;go_ret;exact⟨rfl,rfl⟩
 ·by_cases h2:p<1
  ·rw[aD6 (.inr (.inl h2))]at hr;subst hr;go_enter func358,ntmps358;go_wp2;go_ret;exact⟨rfl,rfl⟩
  ·by_cases h3:a<p
   ·rw[aD6 (.inr (.inr h3))]at hr;subst hr;go_enter func358,ntmps358;go_wp2;go_ret;exact⟨rfl,rfl⟩
   ·rw[aD4 (by omega)]at hr;by_cases h4:a=p
    ·rw[aD6 h4]at hr;subst hr h4;go_enter func358,ntmps358;go_wp2;go_ret;exact⟨rfl,rfl⟩
    ·rw[aD4 h4]at hr;have e4:(a ==p)=false:=by simpa using h4
     by_cases h5:0<q
     ·have hw:IntKind.i64.wrap (a-p)=a-p:=aR _ (by omega) (by omega);have hf:q≠0:=by omega
      rw[aE8 (by omega:q>0),Bool.true_and]at hr;have HR:=aHL hr;clear hr h4;go_enter func358,ntmps358;go_wp2;go_ret;exact⟨jQ HR.out,rfl⟩
     ·rw[aEC (by omega:¬q>0),Bool.false_and]at hr;subst hr;go_enter func358,ntmps358;go_wp2;go_ret;exact⟨rfl,rfl⟩
theorem akK (wr:World)(o:Obj)(a b:Int)(x:List UInt8):∀j u,(F6 (a,x,b))[j]?=some u->
  ((wr.alloc o).alloc (Obj.cells #[.int .i64 a,.string ⟨x.toArray⟩,.int .i64 b] 388)).cell? ((⟨wr.heap.size+1,0,none⟩:Addr).add j)=some u:=
 World.news_of_block (cs:=#[.int .i64 a,.string ⟨x.toArray⟩,.int .i64 b]) (t:=388) (fr:=(0,0)) (by have:=aHO (wr.alloc o) (Obj.cells #[.int .i64 a,.string ⟨x.toArray⟩,.int .i64 b] 388);simpa using this)
theorem uD (wr:World)(a b:Int)(x:List UInt8):∀j u,(F6 (a,x,b))[j]?=some u->
  (wr.alloc (Obj.cells #[.int .i64 a,.string ⟨x.toArray⟩,.int .i64 b] 388)).cell? ((⟨wr.heap.size,0,none⟩:Addr).add j)=some u:=
 World.news_of_block (cs:=#[.int .i64 a,.string ⟨x.toArray⟩,.int .i64 b]) (t:=388) (fr:=(0,0)) (aHO wr _)
theorem oY (x:It):∀u∈F6 x,u.oneCell'=true:=by
 intro u hu;simp[F6]at hu;rcases hu with rfl|rfl|rfl<;>rfl
theorem J6 (ts:List (List UInt8))(k:Nat)(h:k<ts.length):cU (ts.take (k+1))=cU (ts.take k)++[(0,ts.getD k [],-1)]:=by
 have e:ts.getD k []=ts[k]:=by simp[aD9,aEB h]
 rw[<-aF8 h,e];simp only[cU,aGU,aFB,aGS]
set_option maxRecDepth 100000 in
theorem xN (lp v:Value)(ts:List (List UInt8))(w:World)(h:eI w v ts)(hn:ts.length<=1000):
  Calls prog 356 #[lp,v] w fun e w'=>∃v',e=.returned v'/\w'.ownsRow w.heap.size 388 3 v' ts.length (eV (cU ts))/\Below w.heap.size w w':=by
 obtain⟨i0,hi,ho,hp,hq⟩:=J5
 obtain⟨m,hm⟩:∃m,ts.length=m:=⟨_,rfl⟩
 obtain⟨A,c,rfl,hr,hv,hA⟩:=h
 rw[hm]at hr hA hn⊢
 obtain⟨b,off,hb⟩:∃(b off:Nat),(0<m->A=some ⟨b,off,none⟩/\b<w.heap.size/\∀j,j<m->w.cell? ⟨b,off+j*2,none⟩=some (.bool false)/\w.cell? ⟨b,off+j*2+1,none⟩=some (sB (ts.getD j []))):=by
  by_cases h0:0<m
  ·obtain⟨b,off,rfl,hc⟩:=hA h0;exact⟨b,off,fun _=>⟨rfl,aHQ w _ (hc 0 h0).1,hc⟩⟩
  ·exact⟨0,0,fun h=>absurd h h0⟩
 have HC:=aHL hb
 have HM:=aHL hm
 have HT:Hid (ts.take m=ts):=by show ts.take m=ts;rw[<-hm];exact aFM
 have HS:=aHL (fun k (hk:k<m)=>J6 ts k (by omega))
 clear hA hb hm
 go_enter func356,ntmps356
 go_wp2_with fail
 go_loopw [5,10] (fun v i wr=>∃(k:Nat) (pv:Value),i=.int .i64 k/\pv=v/\k<=m/\Aside (wr.ownsRow w.heap.size 388 3 pv k (eV (cU (ts.take k)))/\Below w.heap.size w wr)) (fun _ i _=>m-(intOf i).toNat)
 case atStart=>exact⟨0,_,rfl,rfl,by omega,aHN _ _ _ _,Below.refl _ _⟩
 case round=>
  obtain⟨k,pv,rfl,rfl,hk,HA⟩:=hrel
  by_cases hg:k<m
  ·obtain⟨hA,hl,hh⟩:=HC.out (by omega);subst hA;have c1:wr.cell? ⟨b,off+k*2,none⟩=some (.bool false):=(HA.out.2.cell (p:=⟨b,off+k*2,none⟩) hl).trans (hh k hg).1;have c2:wr.cell? ⟨b,off+k*2+1,none⟩=some (sB (ts.getD k [])):=(HA.out.2.cell (p:=⟨b,off+k*2+1,none⟩) hl).trans (hh k hg).2;obtain⟨x,hx⟩:∃x,ts.getD k []=x:=⟨_,rfl⟩;have hs:=HS.out k hg;rw[hx]at c2 hs;unfold sB at c2;have Ha:=aHL hs;have ht:=HA.out.2.size;clear hh hx hs
   go_wp2_with(first
    |(at_builtin
      refine aHU _ rfl _ _ 331 rfl w.heap.size 388 i0 (.agg #[.int .i64 0,sB [],.int .i64 0]) 3 32 underlying331 hi ho hp hq rfl (by decide) pv k (eV (cU (ts.take k))) (by simp[Act.eval,Act.put]) ((HA.out.1.alloc _).alloc _) ⟨wr.heap.size+1,0,none⟩ 1 1 (F6 (0,x,-1)) (by simp[Act.eval,Act.put]) rfl (akK wr _ 0 (-1) x) (oY _) (by unfold maxLen;omega) (by omega) (by simp;omega) ?_
      intro v8 w8 hd ha hf
      have X8:Aside (w8.ownsRow w.heap.size 388 3 v8 (k+1) (eV (cU (ts.take (k+1))))/\Below w.heap.size w w8):=⟨by rw[Ha.out,kU];simpa [eV]using hd,((HA.out.2.alloc ht _).alloc (by simp;omega) _).grown ha (by simp;omega) (fun j hj=>by have:=(HA.out.1.lt j hj).1;omega)⟩
      clear hd ha hf))
   go_roundw
   case rel=>exact⟨k+1,_,by go_num,rfl,by omega,X8.out⟩
   case measure=>simp[intOf];omega
  ·obtain rfl:k=m:=by omega
   go_wp2;go_ret;refine⟨_,rfl,?_,HA.out.2⟩;have:=HA.out.1;rwa[HT.out]at this
section
variable {S:Nat->Prop}{w W:World}{lp:Value}{r:Rc}{L:Lc}
section
variable {P:Program}(w:World)
theorem CW (base:Nat)(t ty e:TypeId)(i:TypeInfo)(z:Value)(size bytes:Nat)(ht:P.underlying t=some (.slice e))(hi:P.info? e=some i)(hz:i.zero=some z)(hc:i.size=size)(hl:i.bytes=bytes)(hn:z.cells.size=size)(ho:0<size)(v:Value)(n:Nat)(xs:List Value)(ha:w.ownsRow base e size v n xs)(b2:Nat)(u:Value)(m:Nat)(ys:List Value)(hu:w.ownsRow b2 e size u m ys)(h1:∀y∈ys,y.oneCell'=true)(hp:n+m<=maxLen)(hb:(n+m)*bytes<=140737488355328)(hd:base<=w.heap.size):
  ∃v' w',(Builtin.append_ #[t,t] ty #[v,u]).run P w=.ok v' w'/\w'.ownsRow base e size v' (n+m) (xs++ys)/\w.grownBy w' v.ownBlock:=by
 rcases hu.2 with⟨rfl,hm⟩|⟨g,cap,cur,rfl,hg,hh,hx,hA,hq,hf⟩
 ·subst hm;have hr:ys=[]:=aD8 (by simpa using hu.1);subst hr;refine⟨v,w,?_,by simpa using ha,⟨rfl,rfl,rfl,aD1 _,fun _ _ _=>rfl⟩⟩;rcases ha.2 with⟨rfl,rfl⟩|⟨g,cap,cur,rfl,_,_,hs,_⟩
  ·simp[Builtin.append_,aHV ht,sizeOf,typeInfo,hi,Builtin.lenOf,Builtin.firstCells,loadCells,loadCellsFrom]
  ·simp[Builtin.append_,aHV ht,sizeOf,typeInfo,hi,Builtin.lenOf,Builtin.firstCells,loadCells,loadCellsFrom,hs,storeCells]
 ·obtain⟨v',w',k1,k2,k3,_⟩:=run_append_own (P:=P) w base t ty e i z size bytes ht hi hz hc hl hn ho v n xs ha ⟨g,0,none⟩ m cap ys hu.1 (fun j u hj=>by
   have hv:j<ys.length:=(aED.1 hj).1;have hk:(⟨g,0,none⟩:Addr).add j=⟨g,j,none⟩:=by unfold Addr.add;split<;>simp_all
   rw[hk,aHM w g j _ _ _ hh]
   have h3:cur.toList[j]?=ys[j]?:=by
    rw[<-hf,aE5,aD6 (by rw[<-hu.1];exact hv)]
   rw[<-aFK,h3];exact hj) h1 hp hb hd
  exact⟨v',w',k1,k2,k3⟩
theorem kP {ops:Array Oper}{rest:List Oper}{o:Oper}{a:Act}{Q:Exit->Act->World->Prop}(hf:o.guard=none)(s x:Operand)(t:TypeId)(ho:o.op=.call {callee:= .builtin .append,args:=#[s,x],argTypes:=#[t,t]})(base:Nat)(e:TypeId)(i:TypeInfo)(z:Value)(size bytes:Nat)(ht:P.underlying t=some (.slice e))(hi:P.info? e=some i)(hz:i.zero=some z)(hb:i.size=size)(hg:i.bytes=bytes)(hh:z.cells.size=size)(hj:0<size)(v:Value)(n:Nat)(xs:List Value)(hs:a.eval s=v)(hd:w.ownsRow base e size v n xs)(b2:Nat)(u:Value)(m:Nat)(ys:List Value)(hx:a.eval x=u)(hu:w.ownsRow b2 e size u m ys)(h1:∀y∈ys,y.oneCell'=true)(hk:n+m<=maxLen)(ha:(n+m)*bytes<=140737488355328)(hc:base<=w.heap.size)(h:∀v' w',w'.ownsRow base e size v' (n+m) (xs++ys)->w.grownBy w' v.ownBlock->wpList P ops Q rest (a.put o.dst v') w'):
  wpList P ops Q (o::rest) a w:=by
 refine wpList_plain hf fun K hK=>?_
 obtain⟨v',w',hr,h2,h3⟩:=CW (P:=P) w base t o.type e i z size bytes ht hi hz hb hg hh hj v n xs hd b2 u m ys hu h1 hk ha hc
 unfold Oper.wp execOp
 simp only[ho,resolve,invoke,builtin,aH2,aH3,aH1,aGP,aFB,aGS,hs,hx,hr]
 exact hK _ _ (h v' w' h2 h3)
end
structure IC (S:Nat->Prop) (w W:World):Prop where
 os:W.os=w.os
 tape:W.tape=w.tape
 output:W.output=w.output
 size:w.heap.size<=W.heap.size
 block:∀g,S g->W.heap[g]?=w.heap[g]?
theorem IC.refl (S:Nat->Prop)(w:World):IC S w w:=⟨rfl,rfl,rfl,aD1 _,fun _ _=>rfl⟩
theorem IC.trans {W':World}(h:IC S w W)(k:IC S W W'):IC S w W':=⟨k.os.trans h.os,k.tape.trans h.tape,k.output.trans h.output,aEI h.size k.size,fun g hg=>(k.block g hg).trans (h.block g hg)⟩
theorem IC.of_below {B:Nat}(hb:Below B w W)(hS:∀g,S g->g<B):IC S w W:=⟨hb.os,hb.tape,hb.output,hb.size,fun g hg=>hb.block g (hS g hg)⟩
structure TS (S:Nat->Prop) (w:World) (lp:Value) (r:Rc) (L:Lc):Prop where
 lt:∀g,S g->g<w.heap.size
 arnd:∀W,IC S w W->Calls prog 289 #[lp,.bool false] W fun e w'=>∃va vb,e=.returned (.tuple #[va,vb])/\eI w' va L.ahead/\eI w' vb L.behind/\Below W.heap.size W w'
 sizs:∀W,IC S w W->Calls prog 355 #[lp] W fun e w'=>e=.returned (.tuple #[.int .i64 L.p,.int .i64 L.q])/\Below W.heap.size W w'
 recd:∀W,IC S w W->Calls prog 243 #[lp] W fun e w'=>e=.returned r.v/\Below W.heap.size W w'
 digt:∀W,IC S w W->∀d:Int,0<=d->d<=9->Calls prog 357 #[lp,.int .i64 d] W fun e w'=>e=.returned (sB (L.dig d))/\Below W.heap.size W w'
 dec:L.dec=r.dec
 grp:L.grp=r.grp
 p0:0<=L.p
 p1:L.p<=1000
 q0:0<=L.q
 q1:L.q<=1000
 la:L.ahead.length<=100
 lb:L.behind.length<=100
theorem TS.sam (h:TS S w lp r L)(hs:IC S w W):TS S W lp r L:=
 ⟨fun g hg=>aEL (h.lt g hg) hs.size,fun W' h'=>h.arnd W' (hs.trans h'),fun W' h'=>h.sizs W' (hs.trans h'),fun W' h'=>h.recd W' (hs.trans h'),fun W' h'=>h.digt W' (hs.trans h'),h.dec,h.grp,h.p0,h.p1,h.q0,h.q1,h.la,h.lb⟩
theorem TS.below (h:TS S w lp r L)(hb:Below w.heap.size w W):TS S W lp r L:=h.sam (.of_below hb h.lt)
theorem F7 (l:List It):∀u∈eV l,u.oneCell'=true:=by
 intro u hu;obtain⟨x,_,hx⟩:=List.mem_flatMap.1 hu;exact oY x u hx
theorem gL (ts:List (List UInt8)):(cU ts).length=ts.length:=by simp[cU]
theorem J7 (L:Lc)(l:List Int)(n:Nat):∀k,(dY L l n k).length<=2*k
 |0=>by simp[dY]
 |k+1=>by
  have:=J7 L l n k;simp only[dY,xM,aD2,aEN];split<;>simp<;>omega
theorem P7 (L:Lc)(l:List Int)(n:Nat):∀k,(kO L l n k).length=k
 |0=>rfl
 |k+1=>by
  have:=P7 L l n k;simp[kO,this]
end
section
variable {w w' W1:World}{B n ty q g8:Nat}{v pv vb v8:Value}{ts bh:List (List UInt8)}{its:List It}{x:It}
theorem ae7 {e:TypeId}{size:Nat}{xs:List Value}(h:w.ownsRow B e size v n xs)(hb:Below w.heap.size w w'):w'.ownsRow B e size v n xs:=by
 obtain⟨h1,h2⟩:=h;refine⟨h1,?_⟩;rcases h2 with h2|⟨g,cp,cur,rfl,hc,hh,ha⟩
 ·exact .inl h2
 ·exact .inr ⟨g,cp,cur,rfl,hc,(hb.block g (aD5.1 hh).1).trans hh,ha⟩
theorem sJ {l:List Int}{m:Nat}(h:aC w v l)(hm:l.length=m):∃A c b off,v=.slice A m c/\(0<m->A=some ⟨b,off,none⟩/\b<w.heap.size/\∀j,j<m->w.cell? ⟨b,off+j,none⟩=some (.int .i64 (l.getD j 0))):=by
 subst hm;obtain⟨A,c,rfl,_,_,hA⟩:=h;by_cases h0:0<l.length
 ·obtain⟨b,off,rfl,hc⟩:=hA h0;exact⟨_,c,b,off,rfl,fun _=>⟨rfl,aHQ w _ (hc 0 h0),hc⟩⟩
 ·exact⟨A,c,0,0,rfl,fun h=>absurd h h0⟩
theorem eI.below (h:eI w v ts)(hb:Below B w w')(hB:w.heap.size<=B):eI w' v ts:=by
 obtain⟨A,c,e,h1,h2,h3⟩:=h;refine⟨A,c,e,h1,h2,fun hp=>?_⟩;obtain⟨b,off,e2,hc⟩:=h3 hp;refine⟨b,off,e2,fun j hj=>?_⟩;have hl:=aHQ w _ (hc j hj).1;exact⟨(hb.cell (p:=⟨b,off+j*2,none⟩) (by show b<B;have:b<w.heap.size:=hl;omega)).trans (hc j hj).1,(hb.cell (p:=⟨b,off+j*2+1,none⟩) (by show b<B;have:b<w.heap.size:=hl;omega)).trans (hc j hj).2⟩
theorem F8 (h:eI w v ts):∀k,v.ownBlock=some k->0<ts.length->k<w.heap.size:=by
 obtain⟨A,c,rfl,h1,h2,h3⟩:=h;intro k hk hp;obtain⟨b,off,rfl,hc⟩:=h3 hp;have:=aHQ w _ (hc 0 hp).1;simp[Value.ownBlock]at hk;subst hk;exact this
structure CG (ty:Nat) (W1 w:World) (pv vb:Value) (bh:List (List UInt8)) (q:Nat) (its:List It):Prop where
 own:w.ownsRow W1.heap.size ty 3 pv q (eV its)
 len:q=its.length
 bl:Below W1.heap.size W1 w
 pb:eI w vb bh
theorem CG.below (h:CG ty W1 w pv vb bh q its)(hb:Below w.heap.size w w'):CG ty W1 w' pv vb bh q its:=
 ⟨ae7 h.own hb,h.len,h.bl.trans (hb.mono h.bl.size),h.pb.below hb (aD1 _)⟩
theorem eI.grown {row:Option Nat}(h:eI w v ts)(hg:w.grownBy w' row)(hr:0<ts.length->∀k,v.ownBlock=some k->row≠some k):eI w' v ts:=by
 obtain⟨A,c,rfl,h1,h2,h3⟩:=h;refine⟨A,c,rfl,h1,h2,fun hp=>?_⟩;obtain⟨b,off,rfl,hc⟩:=h3 hp;refine⟨b,off,rfl,fun j hj=>?_⟩;have hl:=aHQ w _ (hc j hj).1;have ha:=hg.block b hl (fun e=>hr hp b rfl e.symm);exact⟨(aHW (a:=⟨b,off+j*2,none⟩) ha).trans (hc j hj).1,(aHW (a:=⟨b,off+j*2+1,none⟩) ha).trans (hc j hj).2⟩
theorem CG.add (h:CG ty W1 w pv vb bh q its)(hc:0<bh.length->∀k,vb.ownBlock=some k->pv.ownBlock≠some k)(o:Obj)(ha:w'.ownsRow W1.heap.size ty 3 v8 (q+1) (eV its++F6 x))(hg:(w.alloc o).grownBy w' pv.ownBlock):CG ty W1 w' v8 vb bh (q+1) (its++[x]):=by
 have hb:Below w.heap.size w (w.alloc o):=(Below.refl _ w).alloc (aD1 _) _;refine⟨by rw[kU];simpa [eV]using ha,by rw[aD2,<-h.len];rfl,(h.bl.alloc h.bl.size o).grown hg (by have:=h.bl.size;simp;omega) (fun j hj=>(h.own.lt j hj).1),(h.pb.below hb (aD1 _)).grown hg hc⟩
theorem WI {H N c:Nat}(h:pv.ownBlock=some g8∨g8=H)(hN:N<=H):∀g,(Value.slice (some ⟨g8,0,none⟩) n c).ownBlock=some g->pv.ownBlock=some g∨N<=g:=by
 intro g hg;have hg:g8=g:=by simpa [Value.ownBlock]using hg
 subst hg;exact h.imp id (fun e=>by omega)
theorem CG.ne (h:CG ty W1 w pv vb bh q its)(ha:0<bh.length->∀k,vb.ownBlock=some k->pv.ownBlock≠some k)(hat:∀g,v8.ownBlock=some g->pv.ownBlock=some g∨w.heap.size<=g):0<bh.length->∀k,vb.ownBlock=some k->v8.ownBlock≠some k:=by
 intro hp k hk e;rcases hat k e with h1|h1
 ·exact ha hp k hk h1
 ·have:=F8 h.pb k hk hp;omega
theorem CG.step {c8:Nat}(h:Aside (CG ty W1 w pv vb bh q its/\(0<bh.length->∀k,vb.ownBlock=some k->pv.ownBlock≠some k)))(o:Obj)(ha:w'.ownsRow W1.heap.size ty 3 (.slice (some ⟨g8,0,none⟩) (q+1) c8) (q+1) (eV its++F6 x))(hg:(w.alloc o).grownBy w' pv.ownBlock)(hat:pv.ownBlock=some g8∨g8=(w.alloc o).heap.size):
  Aside (CG ty W1 w' (.slice (some ⟨g8,0,none⟩) (q+1) c8) vb bh (q+1) (its++[x])/\(0<bh.length->∀k,vb.ownBlock=some k->(Value.slice (some ⟨g8,0,none⟩) (q+1) c8).ownBlock≠some k)):=
 ⟨h.out.1.add h.out.2 o ha hg,h.out.1.ne h.out.2 (WI hat (by simp))⟩
set_option maxRecDepth 100000 in
theorem ZX (S:Nat->Prop)(lp:Value)(r:Rc)(L:Lc)(vi vf:Value)(d:Dr)(w:World)(h:TS S w lp r L)(hd:qF w vi vf d)(hn:d.neg=false):
  Calls prog 287 #[lp,mT vi vf d] w fun e w'=>∃v',e=.returned v'/\w'.ownsRow w.heap.size 388 3 v' (bC L d).length (eV (bC L d))/\Below w.heap.size w w':=by
 obtain⟨i0,hi,hF,hG,hH⟩:=J5
 obtain⟨IL,hK⟩:∃l,bC L d=l:=⟨_,rfl⟩
 rw[hK]
 unfold bC at hK
 obtain⟨W1,h0,hs1,z1,hO⟩:∃W1,w.alloc (Obj.cells #[.bool d.neg,vi,.bool d.sep,vf] 260)=W1/\W1.heap.size=w.heap.size+1/\gZ W1 w.heap.size (.bool d.neg) vi (.bool d.sep) vf/\Below w.heap.size w W1:=
  ⟨_,rfl,by simp,gZ.new _ _ _ _ _,(Below.refl _ w).alloc (aD1 _) _⟩
 have h3:=h.below hO
 have Hb:=aHL (fun W (hB:Below W1.heap.size W1 W)=>h3.below hB)
 obtain⟨n,hR⟩:∃q,d.int.length=q:=⟨_,rfl⟩
 obtain⟨m,hS⟩:∃q,d.frac.length=q:=⟨_,rfl⟩
 obtain⟨Ai,ci,bi,oi,rfl,h4⟩:=sJ hd.ii hR
 obtain⟨Af,cf,bf,of,rfl,h5⟩:=sJ hd.jf hS
 have da:=fun j=>hd.di.getD j
 have db:=fun j=>hd.df.getD j
 have ln:=hd.li
 have lm:=hd.lf
 rw[hR]at ln hK
 rw[hS]at lm hK
 obtain⟨p0,p1,q0,q1,la,lb⟩:0<=L.p/\L.p<=1000/\0<=L.q/\L.q<=1000/\L.ahead.length<=100/\L.behind.length<=100:=⟨h.p0,h.p1,h.q0,h.q1,h.la,h.lb⟩
 have h6:=h.grp
 have h7:=h.dec
 obtain⟨neg,li,sp,lf⟩:=d
 simp only at hn
 subst hn
 simp only[mT]at *
 have HZ:=aHL (fun W (hB:Below W1.heap.size W1 W)=>z1.below hB (by omega))
 have HW:=aHL h0
 have HB:=aHL hO
 have Hg:=aHL hK
 have Hk:=aHL h4
 have Hh:=aHL h5
 have Hl:=aHL da
 have Hi:=aHL db
 have Hm:=aHL h6
 have Hn:=aHL h7
 obtain⟨na,hT⟩:∃q,L.ahead.length=q:=⟨_,rfl⟩
 obtain⟨nb,hV⟩:∃q,L.behind.length=q:=⟨_,rfl⟩
 have He:=aHL hT
 have Hc:=aHL hV
 rw[hT]at la
 rw[hV]at lb
 obtain⟨P,hP⟩:∃q,L.p=q:=⟨_,rfl⟩
 obtain⟨Q,hQ⟩:∃q,L.q=q:=⟨_,rfl⟩
 have HP:=aHL hP
 have HQ:=aHL hQ
 rw[hP]at p0 p1
 rw[hQ]at q0 q1
 have x0:=z1.c0
 clear h0 z1 hO hK h hd h3 h4 h5 da db h6 h7 hT hV hP hQ hR hS
 go_enter func287,ntmps287
 go_wp2_with fail
 rw[HW.out]
 go_wp2_with fail
 refine((Hb.out W1 (Below.refl _ _)).arnd W1 (IC.refl _ _)).mono ?_
 rintro e w2 ⟨va,vb,rfl,ha,hb,b2⟩
 clear x0
 go_wp2_with fail
 refine((Hb.out w2 b2).sizs w2 (IC.refl _ _)).mono ?_
 rintro e w3 ⟨rfl,ba⟩
 have b3:=b2.trans (ba.mono b2.size)
 rw[HP.out,HQ.out]
 go_wp2_with fail
 refine(xN lp va L.ahead w3 (ha.below ba (aD1 _)) (by rw[He.out];omega)).mono ?_
 rintro e w4 ⟨v4,rfl,o4,bc⟩
 have b4:=b3.trans (bc.mono b3.size)
 have h8:=hb.below (ba.trans (bc.mono ba.size)) (aD1 _)
 have Z4:=HZ.out _ b4
 have c1:=Z4.c1
 have hs4:=b4.size
 have O4:Aside (CG 388 W1 w4 v4 vb L.behind na (cU L.ahead)/\(0<L.behind.length->∀k,vb.ownBlock=some k->v4.ownBlock≠some k)):=by
  have hx:=eZ (B':=W1.heap.size) o4 b3.size;rw[He.out]at hx;refine⟨⟨hx,by rw[gL,He.out],b4,h8⟩,fun hp k hk e=>?_⟩;have h1:=(o4.lt k e).1;have h2:=F8 hb k hk hp;have:=ba.size;omega
 clear ha hb b2 ba b3 o4 bc h8 b4 Z4
 have hw1:IntKind.i64.wrap ((n:Int)-1)=(n:Int)-1:=aR _ (by omega) (by omega)
 go_wp2_with fail
 clear c1
 go_loopw [9,32] (fun v i wr=>∃(k q:Nat) (pv:Value),i=.int .i64 k/\pv=v/\k<=n/\q<=100+2*k/\Aside (CG 388 W1 wr pv vb L.behind q (cU L.ahead++dY L li n k)/\(0<L.behind.length->∀k,vb.ownBlock=some k->pv.ownBlock≠some k))) (fun _ i _=>n-(intOf i).toNat)
 case atStart=>exact⟨0,na,_,rfl,rfl,by omega,by omega,by show CG 388 _ _ _ _ _ _ (cU L.ahead++[]);rw[aET];exact O4.out.1,O4.out.2⟩
 case round=>
  obtain⟨k,q,pv,rfl,rfl,hk,hq,HA⟩:=hrel
  have Z:=HZ.out _ HA.out.1.bl
  by_cases hL:k<n
  ·obtain⟨hA,hM,hv⟩:=Hk.out (by omega);subst hA;have hws:=HA.out.1.bl.size;have c1:=Z.c1;have c2:wr.cell? ⟨bi,oi+k,none⟩=some (.int .i64 (li.getD k 0)):=((HB.out.trans (HA.out.1.bl.mono (by omega))).cell (p:=⟨bi,oi+k,none⟩) hM).trans (hv k hL);obtain⟨x,hx⟩:∃x,li.getD k 0=x:=⟨_,rfl⟩;have ho:=Hl.out k;obtain⟨b,hb⟩:∃b,sR ((n:Int)-1-k) L.p L.q=b:=⟨_,rfl⟩;have Hf:Hid (xM L li n k=(2,L.dig x,(k:Int))::(if b=true then [(3,L.grp,-1)]else [])):=by show _=_;unfold xM;rw[hx,hb]
   rw[HP.out,HQ.out]at hb;rw[hx]at c2 ho;obtain⟨ho,h9⟩:=ho;have hw2:IntKind.i64.wrap ((n:Int)-1-(k:Int))=(n:Int)-1-(k:Int):=aR _ (by omega) (by omega);have Hj:=aHL (fun W=>ae4 ((n:Int)-1-k) P Q W (by omega) (by omega) p0 (by omega) q0 (by omega));rw[hb]at Hj;clear hv hx hb Z;have Ha:=(Hb.out wr HA.out.1.bl).digt wr (IC.refl _ _) x ho (by omega);go_wp2_with fail
   refine Ha.mono ?_;rintro e w5 ⟨rfl,b5⟩;have X5:=aside (And.intro (HA.out.1.below b5) HA.out.2);obtain⟨dx,hC⟩:∃u,L.dig x=u:=⟨_,rfl⟩;rw[hC]at Hf⊢;unfold sB;have hD:=X5.out.1.bl.size;clear c1 c2 Ha hC b5
   go_wp2_with(first
    |(at_builtin
      refine wpList_append_lies _ rfl _ _ 331 rfl W1.heap.size 388 i0 (.agg #[.int .i64 0,sB [],.int .i64 0]) 3 32 underlying331 hi hF hG hH rfl (by decide) pv q (eV (cU L.ahead++dY L li n k)) (by simp[Act.eval,Act.put]) (X5.out.1.own.alloc _) ⟨w5.heap.size,0,none⟩ 1 1 (F6 (2,dx,(k:Int))) (by simp[Act.eval,Act.put]) rfl (uD _ _ _ _) (oY _) (by decide) (by unfold maxLen;omega) (by omega) (by simp;omega) _ rfl ?_
      intro g8 c8 w8 hE hr hN hW
      have X8:=CG.step X5 _ hE hr hN
      clear hE hr hN hW)
    |(go_at_call 358;refine(Hj.out _).mono ?_;rintro e w9 ⟨rfl,rfl⟩))
   all_goals first
    |(have hbf:b=false:=by assumption
      subst hbf
      refine⟨⟨k+1,q+1,_,by go_num,rfl,by omega,by omega,?_⟩,by simp[intOf];omega⟩
      have e:cU L.ahead++dY L li n (k+1)=cU L.ahead++dY L li n k++[(2,dx,(k:Int))]:=by
       show cU L.ahead++(dY L li n k++xM L li n k)=_;rw[Hf.out,aEF];rfl
      rw[e]
      exact X8.out)
    |(have hbt:b=true:=by assumption
      subst hbt
      refine((Hb.out w8 X8.out.1.bl).recd w8 (IC.refl _ _)).mono ?_
      rintro e wa ⟨rfl,bb⟩
      have Xa:=aside (And.intro (X8.out.1.below bb) X8.out.2)
      have hX:=Xa.out.1.bl.size
      unfold Rc.v sB
      clear bb
      go_wp2_with fail
      change(_:Act->World->Prop) (Act.put _ _ (.string ⟨r.grp.toArray⟩)) _
      go_wp2_with(first
       |(at_builtin
         refine wpList_append_lies _ rfl _ _ 331 rfl W1.heap.size 388 i0 (.agg #[.int .i64 0,sB [],.int .i64 0]) 3 32 underlying331 hi hF hG hH rfl (by decide) (.slice (some ⟨g8,0,none⟩) (q+1) c8) (q+1) (eV (cU L.ahead++dY L li n k++[(2,dx,(k:Int))])) (by simp[Act.eval,Act.put]) (Xa.out.1.own.alloc _) ⟨wa.heap.size,0,none⟩ 1 1 (F6 (3,r.grp,-1)) (by simp[Act.eval,Act.put]) rfl (uD _ _ _ _) (oY _) (by decide) (by unfold maxLen;omega) (by omega) (by simp;omega) _ rfl ?_
         intro g9 c9 w9 hh hg hs hI
         have X9:=CG.step Xa _ hh hg hs
         clear hh hg hs hI))
      go_roundw
      case measure=>simp[intOf];omega
      refine⟨k+1,q+1+1,_,by go_num,rfl,by omega,by omega,?_⟩
      have e:cU L.ahead++dY L li n (k+1)=cU L.ahead++dY L li n k++[(2,dx,(k:Int))]++[(3,r.grp,-1)]:=by
       show cU L.ahead++(dY L li n k++xM L li n k)=_;rw[Hf.out,Hm.out,aEF,aEF];rfl
      rw[e]
      exact X9.out)
  ·obtain rfl:k=n:=by omega
   clear hk hL;have s1:=Z.c1;have s2:=Z.c2;have s3:=Z.c3;have hws:=HA.out.1.bl.size;clear Z s1
   cases sp with
   |false=>
    go_wp2_with fail
    have hw3:IntKind.i64.wrap ((k:Int)+1)=(k:Int)+1:=aR _ (by omega) (by omega)
    go_loopw [9,75] (fun v i wr=>∃(j z:Nat) (px:Value),i=.int .i64 j/\px=v/\j<=m/\z<=200+j/\Aside (CG 388 W1 wr px vb L.behind z (cU L.ahead++dY L li k k++kO L lf k j)/\(0<L.behind.length->∀k,vb.ownBlock=some k->px.ownBlock≠some k))) (fun _ i _=>m-(intOf i).toNat)
    case atStart=>exact⟨0,q,_,rfl,rfl,by omega,by omega,by show CG 388 _ _ _ _ _ _ (cU L.ahead++dY L li k k++[]);rw[aET];exact HA.out.1,HA.out.2⟩
    case round=>
     obtain⟨j,z,px,rfl,rfl,hj,hz,HX⟩:=hrel
     have hY:=HX.out.1.bl.size
     by_cases hL:j<m
     ·obtain⟨hA,hM,hv⟩:=Hh.out (by omega);subst hA;have y3:=(HZ.out _ HX.out.1.bl).c3;have y4:wr.cell? ⟨bf,of+j,none⟩=some (.int .i64 (lf.getD j 0)):=((HB.out.trans (HX.out.1.bl.mono (by omega))).cell (p:=⟨bf,of+j,none⟩) hM).trans (hv j hL);obtain⟨x,hx⟩:∃x,lf.getD j 0=x:=⟨_,rfl⟩;have ho:=Hi.out j;rw[hx]at y4 ho;obtain⟨ho,h9⟩:=ho;have hw4:IntKind.i64.wrap ((k:Int)+1+(j:Int))=(k:Int)+1+(j:Int):=aR _ (by omega) (by omega);have Hd:Hid (kO L lf k (j+1)=kO L lf k j++[(2,L.dig x,(k:Int)+1+j)]):=by show _=_;rw[<-hx];rfl
      have Ha:=(Hb.out wr HX.out.1.bl).digt wr (IC.refl _ _) x ho (by omega);clear hv hx;go_wp2_with fail
      refine Ha.mono ?_;rintro e w5 ⟨rfl,b5⟩;have X5:=aside (And.intro (HX.out.1.below b5) HX.out.2);obtain⟨dx,hC⟩:∃u,L.dig x=u:=⟨_,rfl⟩;rw[hC]at Hd⊢;unfold sB;have hD:=X5.out.1.bl.size;clear y3 y4 Ha hC b5
      go_wp2_with(first
       |(at_builtin
         refine wpList_append_lies _ rfl _ _ 331 rfl W1.heap.size 388 i0 (.agg #[.int .i64 0,sB [],.int .i64 0]) 3 32 underlying331 hi hF hG hH rfl (by decide) px z (eV (cU L.ahead++dY L li k k++kO L lf k j)) (by simp[Act.eval,Act.put]) (X5.out.1.own.alloc _) ⟨w5.heap.size,0,none⟩ 1 1 (F6 (2,dx,(k:Int)+1+j)) (by simp[Act.eval,Act.put]) rfl (uD _ _ _ _) (oY _) (by decide) (by unfold maxLen;omega) (by omega) (by simp;omega) _ rfl ?_
         intro g6 c6 w6 hf hc ht hJ
         have X6:=CG.step X5 _ hf hc ht
         clear hf hc ht hJ))
      go_roundw
      case measure=>simp[intOf];omega
      refine⟨j+1,z+1,_,by go_num,rfl,by omega,by omega,?_⟩;rw[Hd.out,<-aEF];exact X6.out
     ·obtain rfl:j=m:=by omega
      go_wp2_with fail
      refine(xN lp vb L.behind wr HX.out.1.pb (by rw[Hc.out];omega)).mono ?_;rintro e w5 ⟨v5,rfl,o5,b5⟩;rw[Hc.out]at o5;have X5:=aside (And.intro (HX.out.1.below b5) o5);have hD:=X5.out.1.bl.size;clear b5 o5
      go_wp2_with(first
       |(at_builtin
         refine kP _ rfl _ _ 331 rfl W1.heap.size 388 i0 (.agg #[.int .i64 0,sB [],.int .i64 0]) 3 32 underlying331 hi hF hG hH rfl (by decide) px z (eV (cU L.ahead++dY L li k k++kO L lf k j)) (by simp[Act.eval,Act.put]) X5.out.1.own wr.heap.size v5 nb (eV (cU L.behind)) (by simp[Act.eval,Act.put]) X5.out.2 (F7 _) (by unfold maxLen;omega) (by omega) hD ?_
         intro v6 w6 hf hc
         have X6:Aside (w6.ownsRow W1.heap.size 388 3 v6 IL.length (eV IL)/\Below W1.heap.size W1 w6):=by
          have e:cU L.ahead++dY L li k k++kO L lf k j++cU L.behind=IL:=by have:=Hg.out;simpa using this
          have hl:IL.length=z+nb:=by rw[<-e,aD2,<-X5.out.1.len,gL,Hc.out]
          refine⟨?_,X5.out.1.bl.grown hc hD (fun q hq=>(X5.out.1.own.lt q hq).1)⟩;rw[hl,<-e,kU];exact hf
         clear hf hc))
      go_ret;exact⟨_,rfl,eZ X6.out.1 (by omega),HB.out.trans (X6.out.2.mono (by omega))⟩
   |true=>
    go_wp2_with fail
    refine((Hb.out wr HA.out.1.bl).recd wr (IC.refl _ _)).mono ?_
    rintro e wa ⟨rfl,bb⟩
    have Xa:=aside (And.intro (HA.out.1.below bb) HA.out.2)
    have hX:=Xa.out.1.bl.size
    have s3':=(HZ.out _ Xa.out.1.bl).c3
    unfold Rc.v sB
    clear bb s2 s3
    go_wp2_with fail
    change(_:Act->World->Prop) (Act.put _ _ (.string ⟨r.dec.toArray⟩)) _
    go_wp2_with(first
     |(at_builtin
       refine wpList_append_lies _ rfl _ _ 331 rfl W1.heap.size 388 i0 (.agg #[.int .i64 0,sB [],.int .i64 0]) 3 32 underlying331 hi hF hG hH rfl (by decide) pv q (eV (cU L.ahead++dY L li k k)) (by simp[Act.eval,Act.put]) (Xa.out.1.own.alloc _) ⟨wa.heap.size,0,none⟩ 1 1 (F6 (4,r.dec,(k:Int))) (by simp[Act.eval,Act.put]) rfl (uD _ _ _ _) (oY _) (by decide) (by unfold maxLen;omega) (by omega) (by simp;omega) _ rfl ?_
       intro g9 c9 w9 hh hg hs hI
       have X9:=CG.step Xa _ hh hg hs
       have s9:=(HZ.out _ X9.out.1.bl).c3
       clear hh hg hs hI s3'))
    have hw3:IntKind.i64.wrap ((k:Int)+1)=(k:Int)+1:=aR _ (by omega) (by omega)
    go_loopw [9,75] (fun v i wr=>∃(j z:Nat) (px:Value),i=.int .i64 j/\px=v/\j<=m/\z<=200+j/\Aside (CG 388 W1 wr px vb L.behind z (cU L.ahead++dY L li k k++[(4,r.dec,(k:Int))]++kO L lf k j)/\(0<L.behind.length->∀k,vb.ownBlock=some k->px.ownBlock≠some k))) (fun _ i _=>m-(intOf i).toNat)
    case atStart=>exact⟨0,(q+1),_,rfl,rfl,by omega,by omega,by show CG 388 _ _ _ _ _ _ (cU L.ahead++dY L li k k++[(4,r.dec,(k:Int))]++[]);rw[aET];exact X9.out.1,X9.out.2⟩
    case round=>
     obtain⟨j,z,px,rfl,rfl,hj,hz,HX⟩:=hrel
     have hY:=HX.out.1.bl.size
     by_cases hL:j<m
     ·obtain⟨hA,hM,hv⟩:=Hh.out (by omega);subst hA;have y3:=(HZ.out _ HX.out.1.bl).c3;have y4:wr.cell? ⟨bf,of+j,none⟩=some (.int .i64 (lf.getD j 0)):=((HB.out.trans (HX.out.1.bl.mono (by omega))).cell (p:=⟨bf,of+j,none⟩) hM).trans (hv j hL);obtain⟨x,hx⟩:∃x,lf.getD j 0=x:=⟨_,rfl⟩;have ho:=Hi.out j;rw[hx]at y4 ho;obtain⟨ho,h9⟩:=ho;have hw4:IntKind.i64.wrap ((k:Int)+1+(j:Int))=(k:Int)+1+(j:Int):=aR _ (by omega) (by omega);have Hd:Hid (kO L lf k (j+1)=kO L lf k j++[(2,L.dig x,(k:Int)+1+j)]):=by show _=_;rw[<-hx];rfl
      have Ha:=(Hb.out wr HX.out.1.bl).digt wr (IC.refl _ _) x ho (by omega);clear hv hx;go_wp2_with fail
      refine Ha.mono ?_;rintro e w5 ⟨rfl,b5⟩;have X5:=aside (And.intro (HX.out.1.below b5) HX.out.2);obtain⟨dx,hC⟩:∃u,L.dig x=u:=⟨_,rfl⟩;rw[hC]at Hd⊢;unfold sB;have hD:=X5.out.1.bl.size;clear y3 y4 Ha hC b5
      go_wp2_with(first
       |(at_builtin
         refine wpList_append_lies _ rfl _ _ 331 rfl W1.heap.size 388 i0 (.agg #[.int .i64 0,sB [],.int .i64 0]) 3 32 underlying331 hi hF hG hH rfl (by decide) px z (eV (cU L.ahead++dY L li k k++[(4,r.dec,(k:Int))]++kO L lf k j)) (by simp[Act.eval,Act.put]) (X5.out.1.own.alloc _) ⟨w5.heap.size,0,none⟩ 1 1 (F6 (2,dx,(k:Int)+1+j)) (by simp[Act.eval,Act.put]) rfl (uD _ _ _ _) (oY _) (by decide) (by unfold maxLen;omega) (by omega) (by simp;omega) _ rfl ?_
         intro g6 c6 w6 hf hc ht hJ
         have X6:=CG.step X5 _ hf hc ht
         clear hf hc ht hJ))
      go_roundw
      case measure=>simp[intOf];omega
      refine⟨j+1,z+1,_,by go_num,rfl,by omega,by omega,?_⟩;rw[Hd.out,<-aEF];exact X6.out
     ·obtain rfl:j=m:=by omega
      go_wp2_with fail
      refine(xN lp vb L.behind wr HX.out.1.pb (by rw[Hc.out];omega)).mono ?_;rintro e w5 ⟨v5,rfl,o5,b5⟩;rw[Hc.out]at o5;have X5:=aside (And.intro (HX.out.1.below b5) o5);have hD:=X5.out.1.bl.size;clear b5 o5
      go_wp2_with(first
       |(at_builtin
         refine kP _ rfl _ _ 331 rfl W1.heap.size 388 i0 (.agg #[.int .i64 0,sB [],.int .i64 0]) 3 32 underlying331 hi hF hG hH rfl (by decide) px z (eV (cU L.ahead++dY L li k k++[(4,r.dec,(k:Int))]++kO L lf k j)) (by simp[Act.eval,Act.put]) X5.out.1.own wr.heap.size v5 nb (eV (cU L.behind)) (by simp[Act.eval,Act.put]) X5.out.2 (F7 _) (by unfold maxLen;omega) (by omega) hD ?_
         intro v6 w6 hf hc
         have X6:Aside (w6.ownsRow W1.heap.size 388 3 v6 IL.length (eV IL)/\Below W1.heap.size W1 w6):=by
          have e:cU L.ahead++dY L li k k++[(4,r.dec,(k:Int))]++kO L lf k j++cU L.behind=IL:=by have:=Hg.out;rw[Hn.out]at this;simpa using this
          have hl:IL.length=z+nb:=by rw[<-e,aD2,<-X5.out.1.len,gL,Hc.out]
          refine⟨?_,X5.out.1.bl.grown hc hD (fun q hq=>(X5.out.1.own.lt q hq).1)⟩;rw[hl,<-e,kU];exact hf
         clear hf hc))
      go_ret;exact⟨_,rfl,eZ X6.out.1 (by omega),HB.out.trans (X6.out.2.mono (by omega))⟩
end
section
variable {w:World}{B:Nat}{e:TypeId}{v:Value}{l:List It}
theorem bsize:(prog.info? 89).map (·.size)=some 2:=by kernel_rfl
theorem av0:liesAt prog prog.depth 89 (2/prog.cellsOf 89) 0 89 1=true:=by kernel_rfl
set_option maxRecDepth 100000 in
theorem CH (b:Nat)(w:World)(h0:w.cell? ⟨b,0,none⟩=some (.pointer (some ⟨b,0,none⟩))):
  Calls prog 58 #[.pointer (some ⟨b,0,none⟩)] w fun e w'=>e=.returned (.tuple #[])/\w=w':=by
 obtain⟨j,hj,ha⟩:=aE9.1 bsize
 have HJ:=aHL ha
 clear ha
 go_enter func58,ntmps58
 go_wp2
 rw[Lib.run_neq_ptr_same w _ underlying87 hj]
 go_wp2
 go_end0
 exact⟨rfl,rfl⟩
set_option maxRecDepth 100000 in
theorem zH (b:Nat)(w:World)(h0:w.cell? ⟨b,0,none⟩=some (.pointer none))(ha:w.shape? b=some (89,2))(hc:w.frozen? ⟨b,0,none⟩=false):
  Calls prog 58 #[.pointer (some ⟨b,0,none⟩)] w fun e w'=>e=.returned (.tuple #[])/\w.setCell ⟨b,0,none⟩ (.pointer (some ⟨b,0,none⟩))=w':=by
 obtain⟨j,hj,hb⟩:=aE9.1 bsize
 have HJ:=aHL hb
 have Ha:=aHL ha
 clear hb ha
 go_enter func58,ntmps58
 go_wp2
 rw[Lib.run_to_unsafe w ⟨b,0,none⟩ underlying87 underlying182 hj (by rw[HJ.out];decide) Ha.out (Nat.zero_lt_succ 1)]
 simp only[Result.andThen]
 rw[Oper.upon_value]
 go_wp2
 rw[run_callFunc_extern func96 (by kernel_rfl) (by kernel_rfl) (by kernel_rfl) (e:=Extern.AbiNoEscape.same) (by kernel_rfl)]
 rw[Lib.run_noEscape]
 simp only[Result.andThen]
 rw[Oper.upon_value]
 go_wp2
 rw[Lib.run_from_unsafe w ⟨b,0,none⟩ underlying182 underlying87 hj Ha.out av0]
 simp only[Result.andThen]
 rw[Oper.upon_value]
 go_wp2
 go_end0
 exact⟨rfl,rfl⟩
theorem TT (B b:Nat)(bs:List Value)(w:World)(h:Lib.IsBuilder 89 5 B b bs w):
  Calls prog 58 #[.pointer (some ⟨b,0,none⟩)] w fun e w'=>e=.returned (.tuple #[])/\Lib.BuilderAt 89 5 B b (.pointer (some ⟨b,0,none⟩)) bs w'/\Below B w w':=by
 rcases h with h|h
 ·refine(zH b w h.cell0 h.shape h.frozen0).mono ?_;rintro e w' ⟨rfl,rfl⟩;exact⟨rfl,h.used _,(Below.refl _ _).setCell (p:=⟨b,0,none⟩) h.1 _⟩
 ·refine(CH b w h.cell0).mono ?_;rintro e w' ⟨rfl,rfl⟩;exact⟨rfl,h,Below.refl _ _⟩
theorem F9:(prog.info? 5).map (fun i=>(i.zero,i.size,i.bytes))=some (some (.int .u8 0),1,1):=by kernel_rfl
set_option maxRecDepth 100000 in
theorem ZY (B b:Nat)(bs l:List UInt8)(w:World)(h:Lib.IsBuilder 89 5 B b (Lib.byteCells bs) w)(hlen:bs.length+l.length<=140737488355328)(hz:B<=w.heap.size):
  Calls prog 32 #[.pointer (some ⟨b,0,none⟩),.string ⟨l.toArray⟩] w fun e w'=>(∃x,e=.returned x)/\Lib.IsBuilder 89 5 B b (Lib.byteCells (bs++l)) w'/\Below B w w':=by
 obtain⟨i0,hi,hn,ho,hp⟩:=aHT F9
 obtain⟨cs,hg⟩:∃c,Lib.byteCells bs=c:=⟨_,rfl⟩
 have hq:cs.length=bs.length:=by rw[<-hg];simp[Lib.byteCells]
 have hh:Lib.byteCells (bs++l)=cs++Lib.strCells ⟨l.toArray⟩:=by rw[<-hg];simp[Lib.byteCells,Lib.strCells]
 rw[hh]
 rw[hg]at h
 have hj:(⟨l.toArray⟩:ByteArray).size=l.length:=rfl
 obtain⟨s,hs⟩:∃s:ByteArray,⟨l.toArray⟩=s:=⟨_,rfl⟩
 rw[hs]at hj⊢
 clear hs hh hg
 go_enter func32,ntmps32
 go_wp2_with fail
 refine(TT B b cs w h).mono ?_
 rintro e w1 ⟨rfl,hr,b1⟩
 obtain⟨hl,v,hc,hd,ht⟩:=hr
 have c0:w1.cell? ⟨b,0,none⟩=some (.pointer (some ⟨b,0,none⟩)):=by rw[aHY hc];rfl
 have c1:w1.cell? ⟨b,1,none⟩=some v:=by rw[aHY hc];rfl
 have hA:=b1.size
 go_wp2_with(at_builtin;refine Lib.wpList_append_own_string _ rfl _ _ 79 9 rfl B 5 i0 underlying79 underlying9 hi hn ho hp _ _ _ rfl hd s rfl ?c3 ?c4 ?c5 ?_)
 case c3=>unfold maxLen;omega
 case c4=>omega
 case c5=>omega
 intro v' w2 ha hb _
 have hv:b<w1.heap.size:=(aD5.1 hc).1
 have hf:w2.heap[b]?=some (.cells #[.pointer (some ⟨b,0,none⟩),v] 89 (0,0)):=by
  rw[hb.block b hv (fun e=>ht e.symm)];exact hc
 have d0:w2.cell? ⟨b,0,none⟩=some (.pointer (some ⟨b,0,none⟩)):=by rw[aHY hf];rfl
 have d1:w2.cell? ⟨b,1,none⟩=some v:=by rw[aHY hf];rfl
 have f1:w2.frozen? ⟨b,1,none⟩=false:=Lib.frozen_of_heap hf 1
 obtain⟨ao,n',cap,rfl⟩:∃ao n' cap,v'=.slice ao n' cap:=by
  rcases ha.2 with⟨h1,_⟩|⟨g,cap,cur,h1,_⟩
  ·exact⟨none,0,0,h1⟩
  ·exact⟨_,_,cap,h1⟩
 have hx:(Lib.strCells s).length=s.size:=Lib.strCells_length s
 have X:=aside (Lib.BuilderAt.put (T:=89) (e:=5) hl hf (bs':=cs++Lib.strCells s) (by rw[aD2,hx,hq,hj];exact ha) (by decide))
 have Y:=aside ((b1.grown hb (by omega) (fun k hk=>(hd.lt k hk).1)).setCell (p:=⟨b,1,none⟩) hl (.slice ao n' cap))
 clear hb ha hf c0 c1
 go_wp2
 go_ret2
 exact⟨⟨_,rfl⟩,.inr X.out,Y.out⟩
def iU (l:List It):List UInt8:=l.flatMap fun x=>x.2.1
theorem GA (l:List It)(x:It):iU (l++[x])=iU l++x.2.1:=by simp[iU]
theorem l6 (a b:List It):iU (a++b)=iU a++iU b:=by simp[iU]
def mN (l:List It)(k:Nat):It:=l.getD k (0,[],0)
theorem ae8 (l:List It)(k:Nat)(h:k<l.length):(eV l)[k*3]?=some (.int .i64 (mN l k).1)/\(eV l)[k*3+1]?=some (sB (mN l k).2.1)/\(eV l)[k*3+2]?=some (.int .i64 (mN l k).2.2):=by
 induction l generalizing k with
 |nil=>simp at h
 |cons x l ih=>
  cases k with
  |zero=>simp[eV,F6,mN]
  |succ k=>
   have:=ih k (by simpa using h)
   have ed:mN (x::l) (k+1)=mN l k:=by simp[mN]
   rw[ed]
   have e:∀j,(eV (x::l))[(k+1)*3+j]?=(eV l)[k*3+j]?:=fun j=>by
    show(F6 x++eV l)[(k+1)*3+j]?=_;rw[aEO (by simp[F6];omega)];congr 1;simp[F6];omega
   refine⟨?_,?_,?_⟩
   ·have h0:=e 0;simp only[aE2]at h0;rw[h0];exact this.1
   ·rw[e 1];exact this.2.1
   ·rw[e 2];exact this.2.2
def mO (w:World)(v:Value)(l:List It):Prop:=
 ∃A c b,v=.slice A l.length c/\l.length<=c/\c<=9223372036854775807/\(0<l.length->A=some ⟨b,0,none⟩/\b<w.heap.size/\∀k,k<l.length->w.cell? ⟨b,k*3,none⟩=some (.int .i64 (mN l k).1)/\w.cell? ⟨b,k*3+1,none⟩=some (sB (mN l k).2.1)/\w.cell? ⟨b,k*3+2,none⟩=some (.int .i64 (mN l k).2.2))
theorem mO.of_own (h:w.ownsRow B e 3 v l.length (eV l)):mO w v l:=by
 rcases h.2 with⟨rfl,h0⟩|⟨g,cap,cur,rfl,hg,hh,hb,hd,hf,ha⟩
 ·exact⟨none,0,0,by rw[h0],by omega,by omega,fun hp=>by omega⟩
 ·refine⟨some ⟨g,0,none⟩,cap,g,rfl,hb,hd,fun hp=>⟨rfl,(aD5.1 hh).1,fun k hk=>?_⟩⟩
  have hc:∀j,j<l.length*3->w.cell? ⟨g,j,none⟩=(eV l)[j]?:=fun j hj=>by
   rw[aHM w g j _ _ _ hh,<-ha,aE5,aD6 (by omega),aFK]
  have:=ae8 l k hk;exact⟨(hc _ (by omega)).trans this.1,(hc _ (by omega)).trans this.2.1,(hc _ (by omega)).trans this.2.2⟩
theorem mO.below {w':World}(h:mO w v l)(hb:Below B w w')(hB:w.heap.size<=B):mO w' v l:=by
 obtain⟨A,c,b,e,h1,h2,h3⟩:=h;refine⟨A,c,b,e,h1,h2,fun hp=>?_⟩;obtain⟨e2,hl,hc⟩:=h3 hp;have ha:b<B:=by omega
 refine⟨e2,aEL hl hb.size,fun k hk=>?_⟩;have:=hc k hk;exact⟨(hb.cell (p:=⟨b,k*3,none⟩) ha).trans this.1,(hb.cell (p:=⟨b,k*3+1,none⟩) ha).trans this.2.1,(hb.cell (p:=⟨b,k*3+2,none⟩) ha).trans this.2.2⟩
theorem ZZ {T:TypeId}{b:Nat}{bs:List Value}(h:Lib.IsBuilder T e B b bs w)(o:Obj):Lib.IsBuilder T e B b bs (w.alloc o):=by
 rcases h with h|h
 ·have hl:=h.lt;obtain⟨hB,v,hb,ho,hn⟩:=h;exact .inl ⟨hB,v,(Below.heap_alloc _ _ _ hl).trans hb,ho.alloc o,hn⟩
 ·have hl:=h.lt;obtain⟨hB,v,hb,ho,hn⟩:=h;exact .inr ⟨hB,v,(Below.heap_alloc _ _ _ hl).trans hb,ho.alloc o,hn⟩
set_option maxRecDepth 100000 in
theorem TU (v:Value)(l:List It)(w:World)(h:mO w v l)(hl:(iU l).length<=1000000)(hn:l.length<=100000):
  Calls prog 288 #[v] w fun e w'=>e=.returned (sB (iU l))/\Below w.heap.size w w':=by
 obtain⟨m,hm⟩:∃q,l.length=q:=⟨_,rfl⟩
 obtain⟨A,c,b,rfl,hh,hj,ha⟩:=h
 rw[hm]at hh ha hn⊢
 have HC:=aHL ha
 have HM:=aHL hm
 have HT:Hid (l.take m=l):=by show l.take m=l;rw[<-hm];exact aFM
 have HS:=aHL (fun k (hk:k<m)=>(by
  have e:mN l k=l[k]'(by omega):=by simp[mN,aD9,aEB (by omega:k<l.length)]
  rw[<-aF8 (by omega:k<l.length),e];exact GA _ _:iU (l.take (k+1))=iU (l.take k)++(mN l k).2.1))
 have Ha:=aHL (fun k (hk:k<m)=>(by
  have:=aEK List.length (aFD (k+1) l);have e:iU l=iU (l.take (k+1))++iU (l.drop (k+1)):=by rw[<-l6,aFD]
  rw[e]at hl;simp at hl;omega:(iU (l.take (k+1))).length<=1000000))
 clear ha hm
 go_enter func288,ntmps288
 have HF:Hid (Lib.IsBuilder 89 5 w.heap.size w.heap.size (Lib.byteCells (iU (l.take 0))) (w.alloc (Obj.cells #[.pointer none,.slice none 0 0] 89))):=Lib.fresh_isBuilder _ _ w
 have HB0:Hid (Below w.heap.size w (w.alloc (Obj.cells #[.pointer none,.slice none 0 0] 89))):=(Below.refl _ w).alloc (aD1 _) _
 go_wp2_with fail
 go_loopw [8] (fun i wr=>∃k:Nat,i=.int .i64 k/\k<=m/\Aside (Lib.IsBuilder 89 5 w.heap.size w.heap.size (Lib.byteCells (iU (l.take k))) wr/\Below w.heap.size w wr)) (fun i _=>m-(intOf i).toNat)
 case atStart=>exact⟨0,rfl,by omega,HF.out,HB0.out⟩
 case round=>
  obtain⟨k,rfl,hk,HA⟩:=hrel
  by_cases hc:k<m
  ·obtain⟨hA,hb,hd⟩:=HC.out (by have:=HM.out;omega);subst hA;obtain⟨e1,e2,e3⟩:=hd k (by have:=HM.out;omega);obtain⟨x,hx⟩:∃x,mN l k=x:=⟨_,rfl⟩;have hs:=HS.out k hc;have hle:=Ha.out k hc;rw[hx]at e1 e2 e3 hs;obtain⟨tg,tx,tm⟩:=x;unfold sB at e2;simp only at e1 e2 e3 hs;have c1:wr.cell? ⟨b,k*3,none⟩=some (.int .i64 tg):=(HA.out.2.cell (p:=⟨b,k*3,none⟩) hb).trans e1;have c2:wr.cell? ⟨b,k*3+1,none⟩=some (.string ⟨tx.toArray⟩):=(HA.out.2.cell (p:=⟨b,k*3+1,none⟩) hb).trans e2;have c3:wr.cell? ⟨b,k*3+2,none⟩=some (.int .i64 tm):=(HA.out.2.cell (p:=⟨b,k*3+2,none⟩) hb).trans e3;have Hb:=aHL hs;rw[hs,aD2]at hle;have hi:=HA.out.2.size;clear hd hx hs e1 e2 e3;go_wp2_with fail
   refine(ZY w.heap.size w.heap.size (iU (l.take k)) tx _ (ZZ HA.out.1 _) (by omega) (by simp;omega)).mono ?_;rintro e w5 ⟨⟨x,rfl⟩,hf,b5⟩;have X5:Aside (Lib.IsBuilder 89 5 w.heap.size w.heap.size (Lib.byteCells (iU (l.take (k+1)))) w5/\Below w.heap.size w w5):=⟨by rw[Hb.out];exact hf,(HA.out.2.alloc hi _).trans b5⟩;clear hf b5 c1 c2 c3;go_wp2;go_roundw
   case rel=>exact⟨k+1,by go_num,by omega,X5.out⟩
   case measure=>simp[intOf];omega
  ·obtain rfl:k=m:=by omega
   go_wp2_with fail
   have hg:=HA.out.1;rw[HT.out]at hg;refine(Tryz.Builder_String_any w.heap.size w.heap.size (iU l) wr hg HA.out.2.size).mono ?_;rintro e w5 ⟨rfl,b5⟩;go_wp2;go_ret;exact⟨rfl,HA.out.2.trans b5⟩
end
end Go.Proofs.YtoeiaflkdcbkdaaGreatDoor
