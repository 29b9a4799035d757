/- The statement TopShell is proved here: whatever the input, the law answers true and its input reads as it did. No condition beyond the statement. -/
import Derived.Deep.CutBlock
import Derived.OpenShut
import Derived.ShutString
import Derived.ChangeOld
import Derived.ChangeArms
import Derived.LaidMore
import Derived.Stop.Joined
import Derived.Lib.LaidU8
import Derived.Lib.LaidU8T
import Derived.PinnedBridge
import Derived.Shelf.Vars
import Derived.Test.YtoeiaflkdcbkdaaGreatDoorCards
import Derived.HandedShaped
import Derived.Test.YtoeiaflkdcbkdaaGreatDoorK34
import Derived.Test.YtoeiaflkdcbkdaaGreatDoorK12
import Derived.Test.YtoeiaflkdcbkdaaGreatDoorK13
import Derived.Test.YtoeiaflkdcbkdaaGreatDoorK14
import Derived.Test.YtoeiaflkdcbkdaaGreatDoorK15
import Derived.Test.YtoeiaflkdcbkdaaGreatDoorK16
import Derived.Test.YtoeiaflkdcbkdaaGreatDoorK17
import Derived.Test.YtoeiaflkdcbkdaaGreatDoorK21
set_option maxHeartbeats 16000000
set_option linter.unusedVariables false
set_option linter.unusedSimpArgs false
namespace Go.Proofs.YtoeiaflkdcbkdaaGreatDoor
open Go.RowKit Go.Sym Go.Proofs.Tryz
section
variable {B:aE}{G:Nat->Prop}{blk:Nat->Option (Nat×Nat×Nat×Nat)}{cap:Nat->Option Nat}{w w':World}{ρ':Env}{x v:Value}{sz:Nat}{vs:List Value}
theorem asZ {m':M}(O:Out B G (Env.ini B blk cap) w ρ' m' w'):(Env.ini B blk cap).le ρ':=⟨fun {i x} h=>O.fix i x h,fun {i x} h=>O.capf i x h,fun {i x} h=>O.has i x h⟩
theorem mQ {s:St}{a':Act}(O:Out B G (Env.ini B blk cap) w ρ' s.m w')(ht:nL ρ' s a'){k:Nat}{v:AV}(h:jP s.ts k v=true)(hv:aO (Env.ini B blk cap) v=some x):a'.tmps[k]?=some x:=by
 unfold jP at h;split at h
 case h_2=>cases h
 rename_i y hy;have:=eF h;subst this;obtain⟨z,h1,h2⟩:=ht.ts.at_ hy;rw[jS (asZ O) _ hv]at h2;injection h2 with h2
 subst h2;exact h1
theorem G7 {ρ0:Env}:∀l:List Value,lY ρ0 B G w (ahG l) l
 |[]=>rfl
 |v::l=>⟨v,l,rfl,rfl,G7 l⟩
theorem DT {t n:Nat}{tb:Nat}(h:nS (fun b=>b=tb) w t sz v vs)(hn:0<n)(hs:0<sz)(hl:vs.length=n*sz):∃off c arr,v=.slice (some ⟨tb,off,none⟩) n c/\n<=c/\c<=9223372036854775807/\w.heap[tb]?=some (.cells arr t (0,0))/\off+c*sz<=arr.size/\∀j,j<vs.length->arr[off+j]?=vs[j]?:=by
 obtain⟨A,m,c,rfl,h1,h2,h3,h4⟩:=h;have:m=n:=aHG hs (h3.symm.trans hl);subst this;rcases h4 with⟨rfl,rfl⟩|⟨b,off,arr,rfl,rfl,hb,hs,hc⟩
 ·omega
 ·exact⟨off,c,arr,rfl,h1,h2,hb,hs,hc⟩
section
variable {K:Nat->Prop}{w:World}{X:List (Nat×Value)}{p:qL}{s s':Eg}{j:Nat}{pv sv nv mv v1 v2 v3 vi vf vb va:Value}
theorem as0 (H:G6 (rB K w j pv sv nv mv v1 v2 v3 s vi vf vb va X) p s'){lc rl:List Value}(P:p.Pre K w lc rl s'){K2:Nat->Prop}(hO:∀b,K b->b<w.heap.size->w'.heap[b]?=w.heap[b]?/\K2 b)(hN:∀b,G b->b<w'.heap.size->w'.heap[b]?=w'.heap[b]?/\K2 b){y:Value}(h1:fG (rB K w j pv sv nv mv v1 v2 v3 s vi vf vb va X) G w' (liP p.a 8 5100) x)(h2:fG (rB K w j pv sv nv mv v1 v2 v3 s vi vf vb va X) G w' (liP p.a 9 5104) y):
  jJ K2 w' x s'.d.int/\jJ K2 w' y s'.d.frac:=by
 cases hp:p.a with
 |true=>
  rw[hp]at h1 h2
  exact⟨(yT H.l h1).mono hN,(yT H.r h2).mono hN⟩
 |false=>
  rw[hp]at h1 h2
  rw[bF H.i0 h1,bF H.f0 h2]
  exact⟨(P.i hp).1.mono hO,(P.i hp).2.mono hO⟩
theorem XO {t:Nat}{ys:List Value}(h:nS G w t sz v ys):∀g,v.ownBlock=some g->G g/\g<w.heap.size:=by
 obtain⟨A,n,c,rfl,_,_,_,h4⟩:=h;intro g hg;rcases h4 with⟨rfl,_⟩|⟨b,off,arr,rfl,hG,hb,_⟩
 ·simp[Value.ownBlock]at hg
 ·have:g=b:=by simpa [Value.ownBlock]using hg.symm
  subst this;exact⟨hG,(aD5.1 hb).1⟩
theorem amL (H:G6 (rB K w j pv sv nv mv v1 v2 v3 s vi vf vb va X) p s')(P:p.Pre K w (aY (aI j) pv sv nv mv) (bH v1 v2 v3) s')(hG:∀g,G g->w.heap.size<=g){ρ:Env}(hO:∀b,K b->b<w.heap.size->w'.heap[b]?=w.heap[b]?)(h:gT ρ (rB K w j pv sv nv mv v1 v2 v3 s vi vf vb va X) G w' ((G4 p.a p.b p.c).map .p) vs)(hl:vs.length=43):
  ∃vc vd ve vg,vs=eCs (aY (aI j) pv sv nv mv) (bH v1 v2 v3) s' vc vd ve vg/\qK (fun g=>K g∨w.heap.size<=g) w' (aY (aI j) pv sv nv mv) (bH v1 v2 v3) s' vc vd ve vg p.us p.ax:=by
 have hO:∀b,K b->b<w.heap.size->w'.heap[b]?=w.heap[b]?/\(K b∨w.heap.size<=b):=fun b h hd=>⟨hO b h hd,.inl h⟩
 have hN:∀b,G b->b<w'.heap.size->w'.heap[b]?=w'.heap[b]?/\(K b∨w.heap.size<=b):=fun b h _=>⟨rfl,.inr (hG b h)⟩
 have hf:kW (rB K w j pv sv nv mv v1 v2 v3 s vi vf vb va X) G w' (G4 p.a p.b p.c) vs:=by
  have key:∀(l:List eG) (vs:List Value),gT ρ (rB K w j pv sv nv mv v1 v2 v3 s vi vf vb va X) G w' (l.map .p) vs->vs.length=l.length->kW (rB K w j pv sv nv mv v1 v2 v3 s vi vf vb va X) G w' l vs:=by
   intro l;induction l with
   |nil=>intro vs _ h;exact aD8 h
   |cons q l ih=>
    rintro vs ⟨y,r,rfl,h1,h2⟩ hl
    exact⟨y,r,rfl,h1,ih r h2 (by simpa using hl)⟩
  exact key _ _ h hl
 obtain⟨a0,_,rfl,k0,yb,_,rfl,kb,ya,_,rfl,ka,yr,_,rfl,kr,rfl⟩:=gW hf
 obtain⟨ys,_,rfl,k1,y0,_,rfl,b0,y1,_,rfl,b1,y2,_,rfl,b2,y3,_,rfl,b3,y4,_,rfl,b4,y5,_,rfl,b5,rfl⟩:=gW k0
 have e1:=lH (aY (aI j) pv sv nv mv++bH v1 v2 v3) 0 ys (fun q v hq=>rAl hq) k1
 obtain⟨l1,l2⟩:=as0 H P hO hN b1 b3
 rw[e1,show y0=_ from b0,bF H.sep b2,bF H.c b4,bF H.c b5,bF H.run kr]
 have hb:(p.b=true/\nS G w' 43 40 yb p.us)∨(p.b=false/\yb=p.vb/\nS K w 43 40 p.vb p.us):=by
  cases hp:p.b with
  |true=>
   rw[hp]at kb
   obtain⟨_,_,gh,q2,q3⟩:=(show fG _ _ _ (.ls 12) yb from kb)
   rw[show(rB K w j pv sv nv mv v1 v2 v3 s vi vf vb va X).A (gid 12)=_ from H.b]at q2
   injection q2 with q2
   subst q2
   exact .inl ⟨rfl,q3⟩
  |false=>
   rw[hp]at kb
   exact .inr ⟨rfl,bF H.b0 kb,P.b hp⟩
 have ha:(p.c=true/\nS G w' 43 40 ya p.ax)∨(p.c=false/\ya=p.va/\nS K w 43 40 p.va p.ax):=by
  cases hp:p.c with
  |true=>
   rw[hp]at ka
   obtain⟨_,_,gh,q2,q3⟩:=(show fG _ _ _ (.ls 13) ya from ka)
   rw[show(rB K w j pv sv nv mv v1 v2 v3 s vi vf vb va X).A (gid 13)=_ from H.a]at q2
   injection q2 with q2
   subst q2
   exact .inl ⟨rfl,q3⟩
  |false=>
   rw[hp]at ka
   exact .inr ⟨rfl,bF H.a0 ka,P.c hp⟩
 refine⟨y1,y3,yb,ya,by unfold eCs fV pV;simp only[aEF],l1,l2,?_,P.r.mono hO,P.ul,P.u1,?_,P.al,P.a1,?_⟩
 ·rcases hb with⟨_,h7⟩|⟨_,rfl,h7⟩
  ·exact h7.mono hN
  ·exact h7.mono hO
 ·rcases ha with⟨_,h7⟩|⟨_,rfl,h7⟩
  ·exact h7.mono hN
  ·exact h7.mono hO
 ·intro g hg hc;rcases hb with⟨pb,h7⟩|⟨pb,rfl,h7⟩
  ·obtain⟨pc,e⟩:=P.n1 pb;rcases ha with⟨pa,_⟩|⟨_,rfl,_⟩
   ·rw[pc]at pa;cases pa
   ·rw[e]at hc;simp[Value.ownBlock]at hc
  ·rcases ha with⟨pc,h2⟩|⟨pc,rfl,h2⟩
   ·have a1:=(XO h7 g hg).2;have a2:=hG g (XO h2 g hc).1;omega
   ·exact P.n0 pb pc g hg hc
end
end
section
def wds:List Value:=[sB tY,sB jO,sB lF]
section
variable {K:Nat->Prop}{w:World}{X:List (Nat×Value)}{p:qL}{s s':Eg}{j:Nat}{pv sv nv mv v1 v2 v3 vi vf vb va:Value}
set_option maxRecDepth 100000 in
theorem ahM {ep tb ob:Nat}(hX:VK X=true)(hz:∀g,K g->g<w.heap.size)(hD:¬K ep)(hL:¬K tb)(hM:¬K ob)(n1:ep≠tb)(n2:ep≠ob)(n3:tb≠ob)
  (H:G6 (rB K w j pv sv nv mv v1 v2 v3 s vi vf vb va X) p s') (P:p.Pre K w (aY (aI j) pv sv nv mv) (bH v1 v2 v3) s') {T:Tb} (hT:kY prog (rB K w j pv sv nv mv v1 v2 v3 s vi vf vb va X) T) {Es:List dO} (hE:∀e∈Es,aK (rB K w j pv sv nv mv v1 v2 v3 s vi vf vb va X) prog e)
  {kp:eG} (hl:rN (rB K w j pv sv nv mv v1 v2 v3 s vi vf vb va X) T Es p.a p.b p.c kp) {lv kv v12 v13:Value} {S W S' W':List UInt8} {i:Int}
  (x1:(rB K w j pv sv nv mv v1 v2 v3 s vi vf vb va X).A 5060=some lv) (la:lv.oneCell'=true) (x2:(rB K w j pv sv nv mv v1 v2 v3 s vi vf vb va X).A 5044=some (sB S)) (x3:(rB K w j pv sv nv mv v1 v2 v3 s vi vf vb va X).A 5000=some (sB W)) (x4:(rB K w j pv sv nv mv v1 v2 v3 s vi vf vb va X).A 5064=some (.int .i64 i)) (x5:(rB K w j pv sv nv mv v1 v2 v3 s vi vf vb va X).A 5056=some (sB S')) (x6:(rB K w j pv sv nv mv v1 v2 v3 s vi vf vb va X).A 5032=some (sB W'))
  (hk:fG (rB K w j pv sv nv mv v1 v2 v3 s vi vf vb va X) (fun _=>False) w kp kv) (he:w.heap[ep]?=some (.cells (pD (aI j) pv sv nv mv v1 v2 v3 s vi vf vb va).toArray 46 (0,0))) (h1:∀u∈pD (aI j) pv sv nv mv v1 v2 v3 s vi vf vb va,u.oneCell'=true)
  (ht:nS (fun b=>b=tb) w 9 1 v12 wds) (ho:nS (fun b=>b=ob) w 54 13 v13 opsV)
  {a:Act} (sz:a.tmps.size=147) (df:a.defers=[]) (t1:a.tmps[1]?=some lv) (t6:a.tmps[6]?=some (sB S)) (t7:a.tmps[7]?=some (sB W)) (t8:a.tmps[8]?=some (.pointer (some ⟨ep,0,none⟩))) (t12:a.tmps[12]?=some v12) (t13:a.tmps[13]?=some v13) (t14:a.tmps[14]?=some (.int .i64 i)) (t15:a.tmps[15]?=some kv)
  {Q:Exit->Act->World->Prop}
  (hQ:∀(a':Act) (w':World),a'.tmps.size=147->a'.defers=[]->a'.tmps[1]?=some lv->a'.tmps[6]?=some (sB S')->a'.tmps[7]?=some (sB W')->a'.tmps[8]?=some (.pointer (some ⟨ep,0,none⟩))->a'.tmps[12]?=some v12->a'.tmps[13]?=some v13->a'.tmps[14]?=some (.int .i64 i)->
    (∃vc vd ve vg,w'.heap[ep]?=some (.cells (pD (aI j) pv sv nv mv v1 v2 v3 s' vc vd ve vg).toArray 46 (0,0))/\qK (fun g=>K g∨w.heap.size<=g) w' (aY (aI j) pv sv nv mv) (bH v1 v2 v3) s' vc vd ve vg p.us p.ax)->
    (∀k,k<w.heap.size->k≠ep->w'.heap[k]?=w.heap[k]?)->w.heap.size<=w'.heap.size->w'.os=w.os->w'.tape=w.tape->w'.output=w.output->Q .normal a' w'):
  BQ.wp prog Q a w:=by
 obtain⟨B,hB⟩:∃B,B=rB K w j pv sv nv mv v1 v2 v3 s vi vf vb va X:=⟨_,rfl⟩
 have hF:∀i x,B.A i=some x->i%2≠1:=by rw[hB];exact RN hX
 have hH:B.K=K:=by rw[hB];rfl
 have hu:eN B w:=by rw[hB];exact⟨hz,fun _ _=>rfl⟩
 have hA:∀q v,(pD (aI j) pv sv nv mv v1 v2 v3 s vi vf vb va)[q]?=some v->B.A (8000+4*(0+q))=some v/\v.oneCell'=true:=fun q v hq=>⟨by rw[hB];exact rA hq,h1 v (aE6 hq)⟩
 have hp:=fun(G:Nat->Prop) (hG:∀g,G g->w.heap.size<=g) (ρ:Env) (w':World) (hO:∀b,K b->b<w.heap.size->w'.heap[b]?=w.heap[b]?) (vs:List Value)=>amL H P hG (ρ:=ρ) hO (vs:=vs)
 have hW:hU B ((G4 p.a p.b p.c).map .p):=by
  have key:∀l:List eG,lJ B l->hU B (l.map .p):=by
   intro l;induction l with
   |nil=>intro _;trivial
   |cons q l ih=>exact fun h=>⟨h.1,ih h.2⟩
  refine key _ ?_;rw[hB];exact asW H (rW 34 (by omega))
 rw[<-hB]at hT hE hl x1 x2 x3 x4 x5 x6 hk hp
 obtain⟨oa,c1,aa,rfl,p1,p2,p3,p4,p5⟩:=DT ht (n:=3) (by decide) (by decide) rfl
 obtain⟨oc,c2,ab,rfl,q1,q2,q3,q4,q5⟩:=DT ho (n:=3) (by decide) (by decide) rfl
 clear hB
 obtain⟨blk,ha⟩:∃f:Nat->Option (Nat×Nat×Nat×Nat),f=fun i=>if i=0 then some (ep,0,43,43)else if i=1 then some (tb,oa,aa.size,3)else if i=2 then some (ob,oc,ab.size,39)else none:=⟨_,rfl⟩
 obtain⟨cap,hh⟩:∃f:Nat->Option Nat,f=fun i=>if i=1 then some c1 else if i=2 then some c2 else none:=⟨_,rfl⟩
 have k0:blk 0=some (ep,0,43,43):=by rw[ha];rfl
 have k1:blk 1=some (tb,oa,aa.size,3):=by rw[ha];rfl
 have k2:blk 2=some (ob,oc,ab.size,39):=by rw[ha];rfl
 have k3:∀i,3<=i->blk i=none:=fun i hi=>by
  rw[ha];show(if i=0 then _ else if i=1 then _ else if i=2 then _ else none)=none;rw[aD4 (by omega),aD4 (by omega),aD4 (by omega)]
 have ka:∀b q,blk b=some q->(b=0/\q.1=ep)∨(b=1/\q.1=tb)∨(b=2/\q.1=ob):=fun b q h=>by
  match b,h with
  |0,h=>rw[k0]at h;injection h with h;subst h;exact .inl ⟨rfl,rfl⟩
  |1,h=>rw[k1]at h;injection h with h;subst h;exact .inr (.inl ⟨rfl,rfl⟩)
  |2,h=>rw[k2]at h;injection h with h;subst h;exact .inr (.inr ⟨rfl,rfl⟩)
  |b+3,h=>rw[k3 _ (by omega)]at h;cases h
 have g1:cap 1=some c1:=by rw[hh];rfl
 have g2:cap 2=some c2:=by rw[hh];rfl
 have sa:aO (Env.ini B blk cap) (.slc 1 0 3 1 (.lo 1 0))=some (.slice (some ⟨tb,oa,none⟩) 3 c1):=by
  unfold aO fT;simp only[Env.ini,k1,g1];rw[aD6 (by omega)];rfl
 have sb:aO (Env.ini B blk cap) (.slc 2 0 3 13 (.lo 2 0))=some (.slice (some ⟨ob,oc,none⟩) 3 c2):=by
  unfold aO fT;simp only[Env.ini,k2,g2];rw[aD6 (by omega)];rfl
 have s8:aO (Env.ini B blk cap) (.ptr 0 0)=some (.pointer (some ⟨ep,0,none⟩)):=gD k0
 have hC:kV prog (SR B T):=VF VI hT
 have hr:cH B prog (dR B T (bT Es)):=bY hT (bB hE)
 have hI:tH B prog (EH prog (SR B T) (dR B T (bT Es))):=C8 L4 hC _ hr
 refine P0 (C:=SR B T) hC hF hr hI (n:=147) (by decide) (ks:=UO) (nc0:=3) (ib:=mZ) (ps:=G5 kp) (bs:=(bQ 3 mZ).1) (c1:=(bQ 3 mZ).2) (a:=(bX (bQ 3 mZ).2 (G5 kp)).1) (c2:=(bX (bQ 3 mZ).2 (G5 kp)).2) rfl rfl (chk:=ahH B p.a p.b p.c kp) (fun J=>?_) (by decide) blk cap k3 (fun i hi=>?_) (fun b b' q q' h h' hn=>?_) w hu (fun b q h=>?_) (G:=fun _=>False) (fun _ _ _ h=>h) (fun j' x hj=>?_)
  [lv,sB S,sB W,.pointer (some ⟨ep,0,none⟩),.slice (some ⟨tb,oa,none⟩) 3 c1,.slice (some ⟨ob,oc,none⟩) 3 c2,.int .i64 i,kv] ⟨_,_,rfl,⟨x1,la⟩,_,_,rfl,⟨x2,rfl⟩,_,_,rfl,⟨x3,rfl⟩,_,_,rfl,s8,_,_,rfl,sa,_,_,rfl,sb,_,_,rfl,⟨x4,rfl⟩,_,_,rfl,hk,rfl⟩ sz df (fun j' k hj=>?_) (fun e st ρ' a' w' hc hd O hf=>?_)
 ·have h:=hl J;unfold KT at h;split at h
  ·rename_i e s hx;rw[hx];exact h
  ·cases h
 ·rw[hh];show(if i=1 then _ else if i=2 then _ else none)=none;rw[aD4 (by omega),aD4 (by omega)]
 ·rcases ka b q h with⟨rfl,e1⟩|⟨rfl,e1⟩|⟨rfl,e1⟩<;>rcases ka b' q' h' with⟨rfl,e2⟩|⟨rfl,e2⟩|⟨rfl,e2⟩<;>rw[e1,e2]<;>first|exact absurd rfl hn|assumption|exact Ne.symm ‹_›
 ·rw[show(SR B T).B.K=K from hH];rcases ka b q h with⟨rfl,e1⟩|⟨rfl,e1⟩|⟨rfl,e1⟩<;>rw[e1]<;>assumption
 ·match j',hj with
  |0,hj=>
   injection hj with hj
   subst hj
   refine⟨ep,0,43,_,pD (aI j) pv sv nv mv v1 v2 v3 s vi vf vb va,k0,he,rfl,by decide,?_,h1,fun i hi=>by simp,fun _=>⟨rfl,rfl⟩⟩
   exact oU (pD (aI j) pv sv nv mv v1 v2 v3 s vi vf vb va) 0 hA
  |1,hj=>
   injection hj with hj
   subst hj
   exact⟨tb,oa,aa.size,aa,wds,k1,p3,rfl,by show oa+3<=aa.size;omega,G7 wds,(fun v hv=>by revert v;decide),fun i hi=>p5 i hi,fun h=>by cases h⟩
  |2,hj=>
   injection hj with hj
   subst hj
   exact⟨ob,oc,ab.size,ab,opsV,k2,q3,rfl,by show oc+39<=ab.size;omega,G7 opsV,(fun v hv=>by revert v;decide),fun i hi=>q5 i hi,fun h=>by cases h⟩
  |j'+3,hj=>simp[mZ]at hj
 ·match j',hj with
  |0,hj=>injection hj with hj;subst hj;exact⟨_,rfl,t1⟩
  |1,hj=>injection hj with hj;subst hj;exact⟨_,rfl,t6⟩
  |2,hj=>injection hj with hj;subst hj;exact⟨_,rfl,t7⟩
  |3,hj=>injection hj with hj;subst hj;exact⟨_,rfl,t8⟩
  |4,hj=>injection hj with hj;subst hj;exact⟨_,rfl,t12⟩
  |5,hj=>injection hj with hj;subst hj;exact⟨_,rfl,t13⟩
  |6,hj=>injection hj with hj;subst hj;exact⟨_,rfl,t14⟩
  |7,hj=>injection hj with hj;subst hj;exact⟨_,rfl,t15⟩
  |j'+8,hj=>simp[UO]at hj
 ·unfold ahH at hc;split at hc
  case h_2=>cases hc
  simp only[aD3]at hc;obtain⟨d1,d2,d3,d4,d5,d6,d7,d8,d9,d10,d11,d12⟩:=hc
  have hJ:a'.defers=[]:=by
   have h:=hd.ds;rw[aHB.1 d2]at h;generalize a'.defers=ds at h⊢
   cases h;rfl
  have av:∀{n:Nat} {v:Value},B.A n=some v->v.oneCell'=true->aO (Env.ini B blk cap) (.atom n)=some v:=fun {n v} h h1=>by
   unfold aO;rw[show(Env.ini B blk cap).atom n=some v from h];exact aD6 h1
  obtain⟨g,z,m,vs,y1,y2,y3,y4,y5,y6⟩:=Out.blockX O d10 hW;rw[O.fix 0 _ k0]at y1;injection y1 with y1
  injection y1 with y1 _
  subst y1
  have hs:∀k,k<w.heap.size->k≠ep->w'.heap[k]?=w.heap[k]?:=fun k hk hn=>by
   by_cases h1:k=tb
   ·subst h1;exact hf 1 _ _ _ _ k1 rfl (pQ d11)
   ·by_cases h2:k=ob
    ·subst h2;exact hf 2 _ _ _ _ k2 rfl (pQ d12)
    ·refine O.keep k hk fun b q hq e=>?_
     rcases ka b q hq with⟨_,e1⟩|⟨_,e1⟩|⟨_,e1⟩
     ·exact hn (e ▸ e1)
     ·exact h1 (e ▸ e1)
     ·exact h2 (e ▸ e1)
  obtain⟨vc,vd,ve,vg,rfl,hV⟩:=hp _ (fun g hg=>by
   rcases hg.1 with h|h
   ·exact False.elim h
   ·exact h) ρ' w' (fun b hb hK=>hs b hK fun e=>hD (e ▸ hb)) vs y4 (by rw[y5,aFV];rfl)
  exact hQ a' w' (PZ d1 hd.ts) hJ (mQ O hd d5 (av x1 la)) (mQ O hd d3 (av x5 rfl)) (mQ O hd d4 (av x6 rfl)) (mQ O hd d6 s8) (mQ O hd d7 sa) (mQ O hd d8 sb) (mQ O hd d9 (av x4 rfl)) ⟨vc,vd,ve,vg,y3,hV⟩ hs O.size O.os O.tape O.output
end
end
section
variable {k:Int}{c:Nat}{w2:World}
def KW (vi vf vb va:Value)(us ax:List Value):qL:=⟨false,false,false,vi,vf,vb,va,us,ax⟩
def rX (p:qL)(s':Eg)(tx:List UInt8)(pos n kd:Nat)(word W S:List UInt8)(lv:Value)(i:Int):List (Nat×Value):=[(34,.agg (ints s'.d.int).toArray),(38,.agg (ints s'.d.frac).toArray),(46,.int .i64 0),(50,.iface 43 (.iface 40 (.agg p.us.toArray))),(54,.iface 43 (.iface 40 (.agg p.ax.toArray))),(68,.bool s'.d.sep),(224,.int .i64 s'.c),(240,.int .i64 (pos:Nat)),(244,sB (eL pos)),(4220,.int .i64 s'.run),
 (5000,sB W),(5004,sB (W++IQ n)),(5008,sB tx),(5012,sB (W++IQ n++tx)),(5016,sB (W++IQ n++tx++[10])),(5020,sB (W++IQ n++tx++[10]++eL pos)),(5024,sB (W++IQ n++tx++[10]++eL pos++[32])),(5028,sB (W++IQ n++tx++[10]++eL pos++[32]++eL pos)),(5032,sB (W++IQ n++tx++[10]++eL pos++[32]++eL pos++[10])),
 (5036,sB (eL kd)),(5040,sB word),(5044,sB S),(5048,.int .i64 (kd:Nat)),(5052,sB (S++word)),(5056,sB (S++word++[10,115,104,111,119,10,97,116,10])),(5060,lv),(5064,.int .i64 i),(5100,p.i),(5104,p.f),(5108,p.vb),(5112,p.va)]
section
variable {K:Nat->Prop}{w:World}{X:List (Nat×Value)}{p:qL}{s s':Eg}{j:Nat}{pv sv nv mv v1 v2 v3 vi vf vb va:Value}{us ax:List Value}{tx word W S:List UInt8}{pos n kd:Nat}{lv:Value}{i:Int}
theorem XP:VK (rX p s' tx pos n kd word W S lv i)=true:=by kernel_rfl
theorem abC:G6 (rB K w j pv sv nv mv v1 v2 v3 s vi vf vb va (rX p s' tx pos n kd word W S lv i)) p s':=⟨⟨by decide,rfl⟩,⟨by decide,rfl⟩,rfl,rfl,rfl,rfl,rfl,rfl,rfl,rfl,rfl,rfl⟩
theorem aB0:axN (rB K w j pv sv nv mv v1 v2 v3 s vi vf vb va (rX p s' tx pos n kd word W S lv i)) W S tx word n pos:=⟨rfl,rfl,rfl,rfl,rfl,rfl,rfl,rfl,rfl,rfl,rfl,rfl,rfl⟩
theorem DU (V:qK K w (aY (aI j) pv sv nv mv) (bH v1 v2 v3) s vi vf vb va us ax):(KW vi vf vb va us ax).Pre K w (aY (aI j) pv sv nv mv) (bH v1 v2 v3) s:=
 ⟨V.r,V.ul,V.u1,V.al,V.a1,fun _=>⟨V.i,V.f⟩,fun _=>V.b,fun _=>V.a,fun _ _=>V.ne,fun h=>by cases h⟩
theorem amM (V:qK K w (aY (aI j) pv sv nv mv) (bH v1 v2 v3) s vi vf vb va us ax):(KW vi vf vb va us ax).Pre K w (aY (aI j) pv sv nv mv) (bH v1 v2 v3) (CF s).1:=
 ⟨V.r,V.ul,V.u1,V.al,V.a1,fun _=>⟨V.i,V.f⟩,fun _=>V.b,fun _=>V.a,fun _ _=>V.ne,fun h=>by cases h⟩
theorem NM (E:iE K w j pv sv nv mv v1 v2 v3)(V:qK K w (aY (aI j) pv sv nv mv) (bH v1 v2 v3) s vi vf vb va us ax){b:Bool}(hp:dF s k=if b=true then some (s.beh.getD []++[(s.d,s.c)])else s.beh){D:Dr}:
  (GW b vb us (fV (aY (aI j) pv sv nv mv) (bH v1 v2 v3) s.d s.c vi vf)).Pre K w (aY (aI j) pv sv nv mv) (bH v1 v2 v3) ⟨D,c,dF s k,s.ah.map fun _=>0,k⟩:=by
 have ha:([]:List Value).length=40*((s.ah.map fun _=>0).getD 0):=by rw[ag1];rfl
 cases b with
 |true=>
  have hp:dF s k=some (s.beh.getD []++[(s.d,s.c)]):=hp
  refine⟨?_,?_,DK V.u1 (zT E V.i.one V.f.one s.d s.c),ha,(fun _ h=>by cases h),(fun h=>by cases h),(fun h=>by cases h),fun _=>vE,(fun h=>by cases h),fun _=>⟨rfl,rfl⟩⟩
  ·rw[hp];exact gM.snoc (t:=(s.d,s.c)) V.i V.f V.r
  ·rw[hp];show(us++fV (aY (aI j) pv sv nv mv) (bH v1 v2 v3) s.d s.c vi vf).length=40*(s.beh.getD []++[(s.d,s.c)]).length;rw[aD2,aD2,V.ul,uH _ _ rfl rfl];simp only[aEN,aEW];omega
 |false=>
  have hp:dF s k=s.beh:=hp
  refine⟨?_,?_,V.u1,ha,(fun _ h=>by cases h),(fun h=>by cases h),fun _=>V.b,fun _=>vE,(fun _ _ g _ h=>by cases h),fun h=>by cases h⟩
  ·rw[hp];exact V.r
  ·rw[hp];exact V.ul
theorem amN {ua:List Value}{vc vd:Value}{A:Option Addr}{l0:List (Dr×Nat)}{q:Dr×Nat}(E:iE K w j pv sv nv mv v1 v2 v3)(V:qK K w (aY (aI j) pv sv nv mv) (bH v1 v2 v3) s vi vf vb va us ax)(hl:s.beh.getD []=l0++[q])(ha:us=ua++fV (aY (aI j) pv sv nv mv) (bH v1 v2 v3) q.1 q.2 vc vd)(hd:vb=.slice A (l0.length+1) c):
  (⟨false,false,true,vc,vd,.slice A l0.length c,.slice none 0 0,ua,ax++fV (aY (aI j) pv sv nv mv) (bH v1 v2 v3) s.d s.c vi vf⟩:qL).Pre K w (aY (aI j) pv sv nv mv) (bH v1 v2 v3) (kB s).1:=by
 have hr:=V.r
 rw[hl]at hr
 obtain⟨ub,ve,vg,e4,k1,k2,k3⟩:=gM.last hr
 have h0:=gM.len rfl rfl k1
 have hf:ua.length=ub.length:=by
  have:(ua++fV (aY (aI j) pv sv nv mv) (bH v1 v2 v3) q.1 q.2 vc vd).length=(ub++fV (aY (aI j) pv sv nv mv) (bH v1 v2 v3) q.1 q.2 ve vg).length:=by rw[<-ha,<-e4]
  rw[aD2,aD2,uH _ _ rfl rfl,uH _ _ rfl rfl]at this;omega
 have e5:ub=ua/\fV (aY (aI j) pv sv nv mv) (bH v1 v2 v3) q.1 q.2 ve vg=fV (aY (aI j) pv sv nv mv) (bH v1 v2 v3) q.1 q.2 vc vd:=List.append_inj (e4.symm.trans ha) hf.symm
 obtain⟨rfl,e6⟩:=e5
 have e7:ve=vc:=by
  have:=aEK (fun l=>l[35]?) e6;injection this
 have e8:vg=vd:=by
  have:=aEK (fun l=>l[37]?) e6;injection this
 subst e7 e8
 have hb:=V.b
 rw[hd,e4]at hb
 have hc:=V.u1
 rw[e4]at hc
 have hs:(kB s).1=⟨q.1,q.2,some l0,some (s.ah.getD 0+1),0⟩:=by
  unfold kB;rw[hl,List.getLast?_append,aG0];rfl
 rw[hs]
 refine⟨k1,h0,fun u hu=>hc u (aGK _ hu),?_,DK V.a1 (zT E V.i.one V.f.one s.d s.c),fun _=>⟨k2,k3⟩,fun _=>RJ hb (h0.trans (aF0 _ _)),(fun h=>by cases h),(fun _ h=>by cases h),fun h=>by cases h⟩
 show(ax++fV (aY (aI j) pv sv nv mv) (bH v1 v2 v3) s.d s.c vi vf).length=40*(s.ah.getD 0+1)
 rw[aD2,V.al,uH _ _ rfl rfl]
 omega
theorem XQ (E:iE K w j pv sv nv mv v1 v2 v3):∀u∈aY (aI j) pv sv nv mv++bH v1 v2 v3,u.oneCell'=true:=fun u hu=>by
 have:=zT E (vi:= .int .i64 0) (vf:= .int .i64 0) rfl rfl ⟨false,[],false,[]⟩ 0 u;exact this (by unfold fV;rw[<-aEF];exact aGK _ hu)
theorem K_E (E:iE K w j pv sv nv mv v1 v2 v3)(hu:eN (rB K w j pv sv nv mv v1 v2 v3 s vi vf vb va X) w2):iE K w2 j pv sv nv mv v1 v2 v3:=E.mono fun b hb _=>⟨hu.old b hb,hb⟩
theorem K_V {lc rl:List Value}(V:qK K w lc rl s vi vf vb va us ax)(hu:eN (rB K w j pv sv nv mv v1 v2 v3 s vi vf vb va X) w2):qK K w2 lc rl s vi vf vb va us ax:=V.mono fun b hb _=>⟨hu.old b hb,hb⟩
theorem UP {G:Nat->Prop}{x:Value}(h:fG (rB K w j pv sv nv mv v1 v2 v3 s vi vf vb va X) G w2 (.agg (lG 0 43)) x):x=.agg (pD (aI j) pv sv nv mv v1 v2 v3 s vi vf vb va).toArray:=amI (fun q v hq=>rA hq) rfl h
theorem RQ (E:iE K w j pv sv nv mv v1 v2 v3)(V:qK K w (aY (aI j) pv sv nv mv) (bH v1 v2 v3) s vi vf vb va us ax)(hb:(s.beh.getD []).length+s.ah.getD 0<=5)(hj:(rB K w j pv sv nv mv v1 v2 v3 s vi vf vb va X).A 46=some (.int .i64 0)):aK (rB K w j pv sv nv mv v1 v2 v3 s vi vf vb va X) prog (unE XK):=by
 have hc:∀n m,lJ (rB K w j pv sv nv mv v1 v2 v3 s vi vf vb va X) ((List.range' m n).map fun _=> .ls 11):=by
  intro n;induction n with
  |zero=>intro m;trivial
  |succ n ih=>intro m;exact⟨⟨by decide,_,hj⟩,ih (m+1)⟩
 refine⟨⟨rW 43 (by omega),trivial⟩,fun w2 hu xs ha=>?_⟩;obtain⟨x0,_,rfl,k0,rfl⟩:=ha;rw[UP k0];have E2:=K_E E hu;have V2:=K_V V hu;rcases aGD (s.beh.getD [])with h0|⟨l0,q,h0⟩
 ·exact(KP E2 V2 h0 (by omega)).mono fun e w' D=>RP hj rfl (XQ E2) D
 ·rw[aGE]at h0;rw[h0,aD2]at hb;obtain⟨ua,vc,vd,A,c,e1,e2,_,_⟩:=KQ V2 h0;exact(KR E2 V2 h0 e1 e2 (by omega) (by omega)).mono fun e w' D=>RP hj rfl (XQ E2) D
theorem ahN (E:iE K w j pv sv nv mv v1 v2 v3)(V:qK K w (aY (aI j) pv sv nv mv) (bH v1 v2 v3) s vi vf vb va us ax)(H:G6 (rB K w j pv sv nv mv v1 v2 v3 s vi vf vb va X) p s'){t:eG}{tv:Value}(hw:qC (rB K w j pv sv nv mv v1 v2 v3 s vi vf vb va X) t)(ht:∀G w2 x,fG (rB K w j pv sv nv mv v1 v2 v3 s vi vf vb va X) G w2 t x->x=tv){n:Nat}(hD:∀w2,(∀g,K g->w2.heap[g]?=w.heap[g]?)->iE K w2 j pv sv nv mv v1 v2 v3->qK K w2 (aY (aI j) pv sv nv mv) (bH v1 v2 v3) s vi vf vb va us ax->Calls prog 10 #[.agg (pD (aI j) pv sv nv mv v1 v2 v3 s vi vf vb va).toArray,opV k tv] w2 fun e w'=>UG K w2 (aY (aI j) pv sv nv mv) (bH v1 v2 v3) (s',(n:Nat)) p e w'):
  aK (rB K w j pv sv nv mv v1 v2 v3 s vi vf vb va X) prog (doE (UJ k t) (.tup [.agg (G4 p.a p.b p.c),.val (.int .i64 n)])):=by
 refine⟨⟨rW 43 (by omega),anW hw,trivial⟩,fun w2 hu xs ha=>?_⟩
 obtain⟨x0,_,rfl,k0,x1,_,rfl,⟨_,rfl,y0,_,rfl,b0,y1,_,rfl,b1,y2,_,rfl,b2,y3,_,rfl,b3,y4,_,rfl,b4,y5,_,rfl,b5,y6,_,rfl,b6,y7,_,rfl,b7,y8,_,rfl,b8,y9,_,rfl,b9,ya,_,rfl,ba,yb,_,rfl,bb,yc,_,rfl,bc,rfl⟩,rfl⟩:=ha
 rw[UP k0,show y0=_ from b0,show y1=_ from b1,show y2=_ from b2,ht _ _ _ b3,show y4=_ from b4,show y5=_ from b5,show y6=_ from b6,show y7=_ from b7,show y8=_ from b8,show y9=_ from b9,show ya=_ from ba,show yb=_ from bb,show yc=_ from bc]
 exact(hD w2 (fun g hg=>hu.old g hg) (K_E E hu) (K_V V hu)).mono fun e w' D=>ahL (r:=(s',(n:Int))) H rfl (XQ E) (fun q v hq=>rAl hq) D
end
end
def vM:List vL->List UInt8
 |[]=>[]
 |o::os=>(o.line++[10])++((sS++[10])++((wAt++[10])++vM os))
theorem pE (l:List UInt8)(ls:List (List UInt8))(h:ls≠[]):eY (l::ls)=l++[10]++eY ls:=by
 cases ls with
 |nil=>exact absurd rfl h
 |cons m ls=>rw[xS];simp
theorem XR (os:List vL):(xV os).map pC.line≠[]:=by cases os<;>simp[xV]
theorem G8:∀os:List vL,eY ((xV os).map pC.line)=vM os
 |[]=>rfl
 |o::os=>by
  show eY (o.line::sS::wAt::(xV os).map pC.line)=_;rw[pE _ _ (by simp),pE _ _ (by simp),pE _ _ (XR os),G8 os];simp[vM]
theorem ahO (j:Nat)(os:List vL):eY (IP j (xV os))=sZ j++[10]++(sU++[10]++vM os):=by
 unfold IP;rw[pE _ _ (by simp),pE _ _ (XR os),G8]
theorem KX:∀(os:List vL) (o:vL),vM (os++[o])=vM os++(o.line++[10]++(sS++[10]++(wAt++[10])))
 |[],o=>by simp[vM]
 |a::os,o=>by
  show(a.line++[10])++((sS++[10])++((wAt++[10])++vM (os++[o])))=_;rw[KX os o];simp[vM]
def C0:List vL->Eg->Eg
 |[],s=>s
 |o::os,s=>C0 os (o.step s).1
theorem KY:∀(os:List vL) (o:vL) (s:Eg),C0 (os++[o]) s=(o.step (C0 os s)).1
 |[],_,_=>rfl
 |a::os,o,s=>KY os o (a.step s).1
theorem G9 (L:Lc):∀(os:List vL) (o:vL) (s:Eg),pY L (os++[o]) s=pY L os s++((lN (o.step (C0 os s)).2++[10])++((lP L (o.step (C0 os s)).1++[10])++(tAt L (o.step (C0 os s)).1++[10])))
 |[],o,s=>by simp[pY,C0]
 |a::os,o,s=>by
  show(lN (a.step s).2++[10])++((lP L (a.step s).1++[10])++((tAt L (a.step s).1++[10])++pY L (os++[o]) (a.step s).1))=_;rw[G9 L os o (a.step s).1];simp[pY,C0]
section
variable {n:Nat}
def opN:vL->Nat
 |.typ d=>d
 |.und=>10
 |.mov=>11
 |.era=>12
 |.com=>13
def qA:List UInt8:=[10,115,104,111,119,10,97,116,10]
theorem ahP (hn:n<10):IQ n=lN (n:Nat)++[10]:=by
 unfold IQ lN;by_cases h:n=0
 ·subst h;rfl
 ·rw[aD4 h,aD4 (by omega)];unfold eL II;rw[aD6 hn];rfl
theorem H5 {d:Nat}(hd:d<10):eL d=[UInt8.ofNat (48+d)]:=by
 unfold eL;rw[aD6 hd]
def BR (L:Lc)(W:List UInt8)(r:Eg×Int):List UInt8:=W++((lN r.2++[10])++((lP L r.1++[10])++(tAt L r.1++[10])))
theorem amO {L:Lc}{W:List UInt8}{s:Eg}(hn:n<10):W++IQ n++lP L s++[10]++eL (lO L s.d s.c)++[32]++eL (lO L s.d s.c)++[10]=BR L W (s,(n:Nat)):=by
 rw[ahP hn];unfold BR tAt;simp only[aEF]
theorem aB3 {α:Type}{p:α->Prop}{a b:List α}(h:∀F∈a,p F)(k:∀F∈b,p F):∀F∈a++b,p F:=fun F hF=>(aEQ.1 hF).elim (h F) (k F)
section
variable {K:Nat->Prop}{w:World}{p:qL}{s s':Eg}{j:Nat}{pv sv nv mv v1 v2 v3 vi vf vb va:Value}{us ax:List Value}
structure Mm (K:Nat->Prop) (w:World) (ep tb ob:Nat) (j:Nat) (pv sv nv mv v1 v2 v3 v12 v13:Value) (s:Eg) (vi vf vb va:Value) (us ax:List Value):Prop where
 hj:j<40
 lt:∀g,K g->g<w.heap.size
 ke:¬K ep
 kt:¬K tb
 ko:¬K ob
 n1:ep≠tb
 n2:ep≠ob
 n3:tb≠ob
 E:iE K w j pv sv nv mv v1 v2 v3
 V:qK K w (aY (aI j) pv sv nv mv) (bH v1 v2 v3) s vi vf vb va us ax
 e:w.heap[ep]?=some (.cells (pD (aI j) pv sv nv mv v1 v2 v3 s vi vf vb va).toArray 46 (0,0))
 t:nS (fun b=>b=tb) w 9 1 v12 wds
 o:nS (fun b=>b=ob) w 54 13 v13 opsV
structure Sl (a:Act) (lv v12 v13:Value) (ep:Nat) (S W:List UInt8) (i:Int):Prop where
 sz:a.tmps.size=147
 df:a.defers=[]
 t1:a.tmps[1]?=some lv
 t6:a.tmps[6]?=some (sB S)
 t7:a.tmps[7]?=some (sB W)
 t8:a.tmps[8]?=some (.pointer (some ⟨ep,0,none⟩))
 t12:a.tmps[12]?=some v12
 t13:a.tmps[13]?=some v13
 t14:a.tmps[14]?=some (.int .i64 i)
variable {ep tb ob:Nat}{v12 v13 lv kv:Value}{S W word:List UInt8}{i:Int}{a:Act}{n kd:Nat}
theorem ahQ (M:Mm K w ep tb ob j pv sv nv mv v1 v2 v3 v12 v13 s vi vf vb va us ax):∀u∈pD (aI j) pv sv nv mv v1 v2 v3 s vi vf vb va,u.oneCell'=true:=fun u hu=>by
 have ha:vb.oneCell'=true:=by obtain⟨_,_,_,rfl,_⟩:=M.V.b;rfl
 have hb:va.oneCell'=true:=by obtain⟨_,_,_,rfl,_⟩:=M.V.a;rfl
 rcases aEQ.1 hu with h|h
 ·exact zT M.E M.V.i.one M.V.f.one s.d s.c u h
 ·simp only[aER,aFF,aGX]at h;rcases h with rfl|rfl|rfl<;>first|rfl|assumption
def vX (K:Nat->Prop)(w:World)(ep tb ob j:Nat)(pv sv nv mv v1 v2 v3 v12 v13 lv:Value)(i:Int)(S' W':List UInt8)(s':Eg)(a':Act)(w':World):Prop:=
 Sl a' lv v12 v13 ep S' W' i/\(∃vc vd ve vg ua aa,w'.heap[ep]?=some (.cells (pD (aI j) pv sv nv mv v1 v2 v3 s' vc vd ve vg).toArray 46 (0,0))/\qK (fun g=>K g∨w.heap.size<=g) w' (aY (aI j) pv sv nv mv) (bH v1 v2 v3) s' vc vd ve vg ua aa)/\
  (∀k,k<w.heap.size->k≠ep->w'.heap[k]?=w.heap[k]?)/\w.heap.size<=w'.heap.size/\w'.os=w.os/\w'.tape=w.tape/\w'.output=w.output
theorem UQ (M:Mm K w ep tb ob j pv sv nv mv v1 v2 v3 v12 v13 s vi vf vb va us ax)(H:Sl a lv v12 v13 ep S W i)(hb:lv.oneCell'=true)(P:p.Pre K w (aY (aI j) pv sv nv mv) (bH v1 v2 v3) s')(hn:n<10){T:Tb}{Es:List dO}(hT:kY prog (rB K w j pv sv nv mv v1 v2 v3 s vi vf vb va (rX p s' (lP (aI j).L s') (lO (aI j).L s'.d s'.c) n kd word W S lv i)) T)(hE:∀e∈Es,aK (rB K w j pv sv nv mv v1 v2 v3 s vi vf vb va (rX p s' (lP (aI j).L s') (lO (aI j).L s'.d s'.c) n kd word W S lv i)) prog e){kp:eG}(ha:rN (rB K w j pv sv nv mv v1 v2 v3 s vi vf vb va (rX p s' (lP (aI j).L s') (lO (aI j).L s'.d s'.c) n kd word W S lv i)) T Es p.a p.b p.c kp)(hk:fG (rB K w j pv sv nv mv v1 v2 v3 s vi vf vb va (rX p s' (lP (aI j).L s') (lO (aI j).L s'.d s'.c) n kd word W S lv i)) (fun _=>False) w kp kv)(t15:a.tmps[15]?=some kv){Q:Exit->Act->World->Prop}(hQ:∀a' w',vX K w ep tb ob j pv sv nv mv v1 v2 v3 v12 v13 lv i (S++word++qA) (BR (aI j).L W (s',(n:Nat))) s' a' w'->Q .normal a' w'):BQ.wp prog Q a w:=by
 refine ahM (S':=S++word++qA) XP M.lt M.ke M.kt M.ko M.n1 M.n2 M.n3 abC P hT hE ha rfl hb rfl rfl rfl rfl (W':=W++IQ n++lP (aI j).L s'++[10]++eL (lO (aI j).L s'.d s'.c)++[32]++eL (lO (aI j).L s'.d s'.c)++[10]) rfl hk M.e (ahQ M) M.t M.o H.sz H.df H.t1 H.t6 H.t7 H.t8 H.t12 H.t13 H.t14 t15 fun a' w' z1 z2 z3 z4 z5 z6 z7 z8 z9 za zb z12 zc zd ze=>?_
 rw[amO hn]at z5;obtain⟨vc,vd,ve,vg,y1,y2⟩:=za;exact hQ a' w' ⟨⟨z1,z2,z3,z4,z5,z6,z7,z8,z9⟩,⟨vc,vd,ve,vg,_,_,y1,y2⟩,zb,z12,zc,zd,ze⟩
end
end
section
variable {Q:Exit->Act->World->Prop}
section
variable {K:Nat->Prop}{w:World}{p:qL}{s s':Eg}{j:Nat}{pv sv nv mv v1 v2 v3 vi vf vb va:Value}{us ax:List Value}{ep tb ob:Nat}{v12 v13 lv kv:Value}{S W word:List UInt8}{i:Int}{a:Act}{n kd:Nat}
abbrev xB (K:Nat->Prop)(w:World)(j:Nat)(pv sv nv mv v1 v2 v3:Value)(s:Eg)(vi vf vb va:Value)(p:qL)(s':Eg)(n kd:Nat)(word W S:List UInt8)(lv:Value)(i:Int):aE:=rB K w j pv sv nv mv v1 v2 v3 s vi vf vb va (rX p s' (lP (aI j).L s') (lO (aI j).L s'.d s'.c) n kd word W S lv i)
theorem ahR (hj:j<40)(g:mU s')(h1:W.length<=100000)(h2:S.length<=100000)(h4:word.length<=100){av:AV}(hv:Go.Sym.sv (xB K w j pv sv nv mv v1 v2 v3 s vi vf vb va p s' n kd word W S lv i) av=some (sB word)):∀F∈amH n av,wT prog (xB K w j pv sv nv mv v1 v2 v3 s vi vf vb va p s' n kd word W S lv i) F:=
 amK aB0 h1 h2 (by have:=uZ (nQ hj).1 g.d;exact Nat.le_of_lt this) h4 hv
theorem ahS (hj:j<40)(E:iE K w j pv sv nv mv v1 v2 v3)(P:p.Pre K w (aY (aI j) pv sv nv mv) (bH v1 v2 v3) s')(g:mU s')(hn:n<10):∀e∈[txE p.a,atE p.a,dcE 240 244,dcN n],aK (xB K w j pv sv nv mv v1 v2 v3 s vi vf vb va p s' n kd word W S lv i) prog e:=
 aD (asX hj E abC P g rfl) (aD (asY hj E abC P g rfl) (aD (RK (RN XP) (zN (nQ hj).1 g.d g.c).2 rfl rfl) (aD (ahD (RN XP) (by omega)) aH)))
variable (M:Mm K w ep tb ob j pv sv nv mv v1 v2 v3 v12 v13 s vi vf vb va us ax)(H:Sl a lv v12 v13 ep S W i)(hlv:lv.oneCell'=true)(g:mU s)(hb:(s.beh.getD []).length+s.ah.getD 0<=5)(hW:W.length<=100000)(hS:S.length<=100000)
include M H hlv g hb hW hS
theorem H6 {k:Int}{kk:Int}(g':mU s')(P:p.Pre K w (aY (aI j) pv sv nv mv) (bH v1 v2 v3) s')(hn:n<10)(hw:word.length<=100)(t15:a.tmps[15]?=some (.int .i64 kk))(ha:rN (xB K w j pv sv nv mv v1 v2 v3 s vi vf vb va p s' n 0 word W S lv i) (CO n word) (KU k p.a p.b p.c n) p.a p.b p.c (.val (.int .i64 kk)))(hD:∀w2,iE K w2 j pv sv nv mv v1 v2 v3->qK K w2 (aY (aI j) pv sv nv mv) (bH v1 v2 v3) s vi vf vb va us ax->Calls prog 10 #[.agg (pD (aI j) pv sv nv mv v1 v2 v3 s vi vf vb va).toArray,opV k (sB [])] w2 fun e w'=>UG K w2 (aY (aI j) pv sv nv mv) (bH v1 v2 v3) (s',(n:Nat)) p e w')(hQ:∀a' w',vX K w ep tb ob j pv sv nv mv v1 v2 v3 v12 v13 lv i (S++word++qA) (BR (aI j).L W (s',(n:Nat))) s' a' w'->Q .normal a' w'):BQ.wp prog Q a w:=
 have _:=g
 UQ (kd:=0) M H hlv P hn (bD (ahR M.hj g' hW hS hw rfl) aH aH aH) (Es:=KU k p.a p.b p.c n) (aD (RQ M.E M.V hb rfl) (aD (ahN M.E M.V abC (t:= .val (sB [])) trivial (fun _ _ _ h=>h) fun w2 _ E2 V2=>hD w2 E2 V2) (ahS M.hj M.E P g' hn))) ha rfl t15 hQ
theorem as1 (t15:a.tmps[15]?=some (.int .i64 11))(hQ:∀a' w',vX K w ep tb ob j pv sv nv mv v1 v2 v3 v12 v13 lv i (S++tY++qA) (BR (aI j).L W (CF s)) (CF s).1 a' w'->Q .normal a' w'):BQ.wp prog Q a w:=
 H6 (n:=0) M H hlv g hb hW hS (FO g) (amM M.V) (by decide) (by decide) t15 (axH _) (fun w2 E2 V2=>amE M.hj E2 V2 g) hQ
theorem as2 (t15:a.tmps[15]?=some (.int .i64 13))(hQ:∀a' w',vX K w ep tb ob j pv sv nv mv v1 v2 v3 v12 v13 lv i (S++lF++qA) (BR (aI j).L W (vR (mV s.d) s)) (vR (mV s.d) s).1 a' w'->Q .normal a' w'):BQ.wp prog Q a w:=
 H6 (n:=0) M H hlv g hb hW hS (FP g (rL s.d)) (NM (b:=true) M.E M.V (by unfold dF;rw[aD6 (.inl rfl)];rfl)) (by decide) (by decide) t15 (asU _) (fun w2 E2 V2=>amF M.hj E2 V2 g (by omega)) hQ
theorem as3 (t15:a.tmps[15]?=some (.int .i64 12))(hQ:∀a' w',vX K w ep tb ob j pv sv nv mv v1 v2 v3 v12 v13 lv i (S++jO++qA) (BR (aI j).L W (oV s)) (oV s).1 a' w'->Q .normal a' w'):BQ.wp prog Q a w:=by
 have hg:=FN g;have hD:=fun w2 (E2:iE K w2 j pv sv nv mv v1 v2 v3) (V2:qK K w2 (aY (aI j) pv sv nv mv) (bH v1 v2 v3) s vi vf vb va us ax)=>amD M.hj E2 V2 g (by omega)
 revert hQ hg hD;unfold oV;by_cases h0:s.c=0
 ·rw[aD6 h0,aD6 h0];intro hQ hg hD;exact H6 (n:=7) (p:=KW vi vf vb va us ax) M H hlv g hb hW hS g (DU M.V) (by decide) (by decide) t15 (ahJ _ true) hD hQ
 ·rw[aD4 h0,aD4 h0];by_cases hf:fZ (aN false (pH s.d s.c)) 6 4=true
  ·rw[aD6 hf,aD6 hf];intro hQ hg hD;exact H6 (n:=0) M H hlv g hb hW hS hg (NM M.E M.V (DS (by decide) rfl)) (by decide) (by decide) t15 (axI _ _) hD hQ
  ·rw[aD4 hf,aD4 hf];intro hQ hg hD;exact H6 (n:=4) (p:=KW vi vf vb va us ax) M H hlv g hb hW hS g (DU M.V) (by decide) (by decide) t15 (ahJ _ false) hD hQ
end
end
section
variable {d:Nat}{Q:Exit->Act->World->Prop}
section
variable {K:Nat->Prop}{w:World}{p:qL}{s s':Eg}{j:Nat}{pv sv nv mv v1 v2 v3 vi vf vb va:Value}{us ax:List Value}{ep tb ob:Nat}{v12 v13 lv kv:Value}{S W word:List UInt8}{i:Int}{a:Act}{n kd:Nat}
theorem axP {B:aE}(hd:d<10)(h:B.A 5048=some (.int .i64 (d:Nat)))(ha:B.A 5036=some (sB (eL d)))(hc:B.A 5040=some (sB (lE d))):∀F∈axF,wT prog B F:=
 aD ⟨.int .i64 (d:Nat),.int .i64 10,.bool true,cS h rfl,rfl,rfl,fun t ox oy w=>by
  have:((d:Int)<10):=by omega
  simp[eqGuard,binOp,Op.intCmp,this]⟩ (aD ⟨.int .i64 (d:Nat),.int .i64 10,.bool false,cS h rfl,rfl,rfl,fun t ox oy w=>by
  have:¬((d:Int)>10):=by omega
  simp[eqGuard,binOp,Op.intCmp];omega⟩ (aD ⟨_,_,_,rfl,cS ha rfl,cS hc rfl,iC _ _ _ (by rw[H5 hd];rfl) (by rw[H5 hd];simp)⟩ aH))
variable (M:Mm K w ep tb ob j pv sv nv mv v1 v2 v3 v12 v13 s vi vf vb va us ax)(H:Sl a lv v12 v13 ep S W i)(hlv:lv.oneCell'=true)(g:mU s)(hb:(s.beh.getD []).length+s.ah.getD 0<=5)(hW:W.length<=100000)(hS:S.length<=100000)
include M H hlv g hb hW hS
theorem XS (g':mU s')(P:p.Pre K w (aY (aI j) pv sv nv mv) (bH v1 v2 v3) s')(hn:n<10)(t15:a.tmps[15]?=some (.int .i64 10))(ha:rN (xB K w j pv sv nv mv v1 v2 v3 s vi vf vb va p s' n 0 nE W S lv i) (CO n nE) (XM p.a p.b p.c n) p.a p.b p.c (.val (.int .i64 10)))(hD:∀w2,iE K w2 j pv sv nv mv v1 v2 v3->qK K w2 (aY (aI j) pv sv nv mv) (bH v1 v2 v3) s vi vf vb va us ax->Calls prog 8 #[.agg (pD (aI j) pv sv nv mv v1 v2 v3 s vi vf vb va).toArray] w2 fun e w'=>UG K w2 (aY (aI j) pv sv nv mv) (bH v1 v2 v3) (s',(n:Nat)) p e w')(hQ:∀a' w',vX K w ep tb ob j pv sv nv mv v1 v2 v3 v12 v13 lv i (S++nE++qA) (BR (aI j).L W (s',(n:Nat))) s' a' w'->Q .normal a' w'):BQ.wp prog Q a w:=by
 have _:=And.intro g hb;refine UQ (kd:=0) (word:=nE) M H hlv P hn (bD (ahR M.hj g' hW hS (by decide) rfl) aH aH aH) (Es:=XM p.a p.b p.c n) (aD ⟨⟨rW 43 (by omega),trivial⟩,fun w2 hu xs hc=>?_⟩ (ahS M.hj M.E P g' hn)) ha rfl t15 hQ;obtain⟨x0,_,rfl,k0,rfl⟩:=hc;rw[UP k0];exact(hD w2 (K_E M.E hu) (K_V M.V hu)).mono fun e w' D=>ahL (r:=(s',(n:Int))) abC rfl (XQ M.E) (fun q v hq=>rAl hq) D
theorem as4 (t15:a.tmps[15]?=some (.int .i64 10))(hQ:∀a' w',vX K w ep tb ob j pv sv nv mv v1 v2 v3 v12 v13 lv i (S++nE++qA) (BR (aI j).L W (kB s)) (kB s).1 a' w'->Q .normal a' w'):BQ.wp prog Q a w:=by
 rcases aGD (s.beh.getD [])with h0|⟨l0,q,h0⟩
 ·have e:kB s=(s,7):=by unfold kB;rw[h0];rfl
  have hD:=fun w2 (E2:iE K w2 j pv sv nv mv v1 v2 v3) (V2:qK K w2 (aY (aI j) pv sv nv mv) (bH v1 v2 v3) s vi vf vb va us ax)=>KP E2 V2 h0 (by omega)
  rw[e]at hQ hD;exact XS (n:=7) (p:=KW vi vf vb va us ax) M H hlv g hb hW hS g (DU M.V) (by decide) t15 (axJ _) hD hQ
 ·rw[aGE]at h0
  have e:kB s=(⟨q.1,q.2,some l0,some (s.ah.getD 0+1),0⟩,0):=by
   unfold kB;rw[h0,List.getLast?_append,aG0];rfl
  obtain⟨ua,vc,vd,A,c,e1,e2,_,_⟩:=KQ M.V h0
  have hl:l0.length+1<=5:=by
   rw[h0,aD2]at hb;simp only[aEN,aEW]at hb;omega
  have hD:=fun w2 (E2:iE K w2 j pv sv nv mv v1 v2 v3) (V2:qK K w2 (aY (aI j) pv sv nv mv) (bH v1 v2 v3) s vi vf vb va us ax)=>KR E2 V2 h0 e1 e2 (by omega) (by omega)
  have hg:=FQ g;have hP:=amN M.E M.V h0 e1 e2;rw[e]at hQ hD hg hP;exact XS (n:=0) M H hlv g hb hW hS hg hP (by decide) t15 (asV _) hD hQ
theorem as5 (hd:d<10)(t15:a.tmps[15]?=some (.int .i64 (d:Nat)))(hQ:∀a' w',vX K w ep tb ob j pv sv nv mv v1 v2 v3 v12 v13 lv i (S++lE d++qA) (BR (aI j).L W (stepT d s)) (stepT d s).1 a' w'->Q .normal a' w'):BQ.wp prog Q a w:=by
 have ex:jK d=sB (eL d):=by rw[H5 hd];rfl
 have key:∀{p:qL} {s':Eg} {n:Nat} (g':mU s') (P:p.Pre K w (aY (aI j) pv sv nv mv) (bH v1 v2 v3) s') (hn:n<10)
   (ha:rN (xB K w j pv sv nv mv v1 v2 v3 s vi vf vb va p s' n d (lE d) W S lv i) (ahI n) (XL p.a p.b p.c n) p.a p.b p.c (.at_ 5048))
   (hD:∀w2,iE K w2 j pv sv nv mv v1 v2 v3->qK K w2 (aY (aI j) pv sv nv mv) (bH v1 v2 v3) s vi vf vb va us ax->Calls prog 10 #[.agg (pD (aI j) pv sv nv mv v1 v2 v3 s vi vf vb va).toArray,opV 0 (jK d)] w2 fun e w'=>UG K w2 (aY (aI j) pv sv nv mv) (bH v1 v2 v3) (s',(n:Nat)) p e w')
   (hQ:∀a' w',vX K w ep tb ob j pv sv nv mv v1 v2 v3 v12 v13 lv i (S++lE d++qA) (BR (aI j).L W (s',(n:Nat))) s' a' w'->Q .normal a' w'),BQ.wp prog Q a w:=by
  intro p s' n g' P hn ha hD hQ
  rw[ex]at hD
  have ht:=ahS (s:=s) (n:=n) (kd:=d) (word:=lE d) (W:=W) (S:=S) (lv:=lv) (i:=i) (vi:=vi) (vf:=vf) (vb:=vb) (va:=va) M.hj M.E P g' hn
  refine UQ (kd:=d) (word:=lE d) M H hlv P hn (bD (aB3 (axP hd rfl rfl rfl) (ahR M.hj g' hW hS (by simp[lE]) rfl)) aH aH aH) (Es:=XL p.a p.b p.c n) (aD (RQ M.E M.V hb rfl) (aD (ahN M.E M.V abC (t:= .at_ 5036) ⟨_,rfl⟩ (fun _ _ _ h=>bF rfl h) fun w2 _ E2 V2=>hD w2 E2 V2) (aD (ht _ (by simp)) (aD (ht _ (by simp)) (aD (ht _ (by simp)) (aD (RK (RN XP) (by omega) rfl rfl) (aD (ht _ (by simp)) aH))))))) ha ⟨rfl,rfl⟩ t15 hQ
 have hg:=FM g (k:=(d:Int)) ⟨by omega,by omega⟩;have hD:=fun w2 (E2:iE K w2 j pv sv nv mv v1 v2 v3) (V2:qK K w2 (aY (aI j) pv sv nv mv) (bH v1 v2 v3) s vi vf vb va us ax)=>amC M.hj E2 V2 g hd (by omega)
 revert hQ hg hD;unfold stepT;by_cases hf:fZ (aN false (lX s.d s.c [(d:Int)])) 6 4=true
 ·rw[aD6 hf,aD6 hf];intro hQ hg hD;exact key (n:=0) hg (NM M.E M.V (DS (by decide) rfl)) (by decide) (axG _ _) hD hQ
 ·rw[aD4 hf,aD4 hf];intro hQ hg hD;exact key (n:=4) (p:=KW vi vf vb va us ax) g (DU M.V) (by decide) (asT _) hD hQ
end
end
def aKs:List Nat:=[1,6,7,8,12,13,14]
def aPs (i:Int):List PC:=[.p (.ls 10),.p (.at_ 5044),.p (.at_ 5000),.p (.at_ 5072),.p (.at_ 5076),.p (.at_ 5080),.p (.val (.int .i64 i))]
noncomputable def aAV (i:Int):List AV:=(bX (bQ 3 []).2 (aPs i)).1
noncomputable def RR (t:Tr AV):List Nat->List AV->Bool
 |k::ks,v::vs=>jP t k v&&RR t ks vs
 |_,_=>true
noncomputable def UR (B:aE)(T:Tb)(E:List dO)(c:Code)(i:Int)(ks:List Nat)(f:fM->St->Bool):Prop:=∀J,(match KT B T (bT E) c {ts:=FW aKs (aAV i) (vS 147 J 8 1 0),ds:=[],m:={H:=tB (bQ 3 []).1,nb:=([]:List IB).length,nc:=(bX (bQ 3 []).2 (aPs i)).2}}with
 |some (e,s)=>TR 147 s.ts 1 0&&(s.ds.isEmpty&&(RR s.ts ks (aAV i)&&f e s))
 |none=>false)=true
def isN (b:Bool)(e:fM)(_:St):Bool:=match e with
 |.normal=>b
 |.exit n=>!b&&Nat.beq n 0
 |_=>false
def ahT (i:Int)(b:Bool):Tb:=mR [⟨.lss,.lit (.int .i64 i),.atom 5068,.lit (.bool b)⟩] [] [] [⟨10,.atom 5068⟩]
def elT (i:Nat):Tb:=tbE (mR [] [] [] []) [⟨10,i,.atom 5084⟩]
def axR:dO:=⟨7,[.at_ 5084,.val (.int .i64 14)],.at_ 5048⟩
noncomputable def axS (e:fM)(s:St):Bool:=isN true e s&&jP s.ts 15 (.atom 5048)
noncomputable def axT (i:Int)(e:fM)(s:St):Bool:=isN true e s&&jP s.ts 14 (.lit (.int .i64 (i+1)))
theorem as6 (B:aE)(i:Nat)(hi:i<6):UR B (ahT i true) [] UN i aKs (isN true)/\UR B (ahT i false) [] UN i aKs (isN false)/\UR B (elT i) [axR] ahE i aKs axS/\UR B iT [] ahF i [1,6,7,8,12,13] (axT i):=by
 have:i=0∨i=1∨i=2∨i=3∨i=4∨i=5:=by omega
 rcases this with rfl|rfl|rfl|rfl|rfl|rfl<;>exact⟨fun J=>by kernel_rfl,fun J=>by kernel_rfl,fun J=>by kernel_rfl,fun J=>by kernel_rfl⟩
theorem aB4 (B:aE)(b:Bool):UR B (ahT 6 b) [] UN 6 aKs (isN false):=by intro J;cases b<;>kernel_rfl
theorem XT {ρ:Env}{t:Tr AV}{a':Act}(ht:fL ρ t a'.tmps):∀(ks:List Nat) (vs:List AV) (xs:List Value),RR t ks vs=true->aT ρ vs=some xs->ks.length<=vs.length->∀(m k:Nat),ks[m]?=some k->a'.tmps[k]?=xs[m]?
 |[],_,_,_,_,_,m,k,hm=>by simp at hm
 |_::_,[],_,_,_,hl,_,_,_=>by simp at hl
 |k0::ks,v::vs,xs,h,hg,hl,m,k,hm=>by
  obtain⟨y,ys,h1,h2,rfl⟩:=aG.1 hg;unfold RR at h;rw[aD3]at h
  cases m with
  |zero=>
   injection hm with hm
   subst hm
   have h3:=h.1
   unfold jP at h3
   split at h3
   case h_2=>cases h3
   rename_i z hz
   have:=eF h3
   subst this
   obtain⟨u,q1,q2⟩:=ht.at_ hz
   rw[h1]at q2
   injection q2 with q2
   subst q2
   exact q1
  |succ m=>exact XT ht ks vs ys h.2 h2 (by simpa using hl) m k hm
theorem NN {B:aE}(hf:∀i x,B.A i=some x->i%2≠1){w:World}(hu:eN B w){T:Tb}(hT:kY prog B T){E:List dO}(hE:∀e∈E,aK B prog e){c:Code}{i:Int}{ks:List Nat}{f:fM->St->Bool}(hb:UR B T E c i ks f)(hh:ks.length<=7){xs:List Value}
  (hi:lY (Env.ini B (fun _=>none) (fun _=>none)) B (fun _=>True) w (aPs i) xs) {a:Act} (sz:a.tmps.size=147) (df:a.defers=[]) (hs:∀(m k:Nat),aKs[m]?=some k->∃x,xs[m]?=some x/\a.tmps[k]?=some x) {Q:Exit->Act->World->Prop}
  (hQ:∀e s ρ' a' w',f e s=true->nL ρ' s a'->Has B ρ'->a'.tmps.size=147->a'.defers=[]->(∀(m k:Nat),ks[m]?=some k->a'.tmps[k]?=xs[m]?)->Below w.heap.size w w'->Q e.of a' w'):c.wp prog Q a w:=by
 have hC:kV prog (SR B T):=VF VI hT
 have hd:cH B prog (dR B T (bT E)):=bY hT (bB hE)
 have hj:tH B prog (EH prog (SR B T) (dR B T (bT E))):=C8 L4 hC _ hd
 refine abD (C:=SR B T) hC hf hd hj (n:=147) (by decide) (ks:=aKs) (nc0:=3) (ib:=[]) (ps:=aPs i) (bs:=(bQ 3 []).1) (c1:=(bQ 3 []).2) (a:=aAV i) (c2:=(bX (bQ 3 []).2 (aPs i)).2) rfl rfl (chk:=fun e s=>TR 147 s.ts 1 0&&(s.ds.isEmpty&&(RR s.ts ks (aAV i)&&f e s))) (fun J=>?_) (by decide) (fun _=>none) (fun _=>none) (fun _ _=>rfl) (fun _ _=>rfl) (fun _ _ _ _ h=>by cases h) w hu (fun _ _ h=>by cases h) (G:=fun _=>True) (fun _ _ h=>by cases h) (fun _ _ h=>by cases h) xs hi sz df hs (fun e st ρ' a' w' hc ha O _ hg=>?_)
 ·have h:=hb J;unfold KT at h;split at h
  ·rename_i e s hx;rw[hx];exact h
  ·cases h
 ·simp only[aD3]at hc;obtain⟨d1,d2,d3,d4⟩:=hc
  have hl:a'.defers=[]:=by
   have h:=ha.ds;rw[aHB.1 d2]at h;generalize a'.defers=ds at h⊢
   cases h;rfl
  exact hQ e st ρ' a' w' d4 ha O.has (PZ d1 ha.ts) hl (XT ha.ts ks (aAV i) xs d3 hg (by show ks.length<=7;exact hh)) ⟨O.os,O.tape,O.output,O.size,fun k hk=>O.keep k hk fun _ _ h=>by cases h⟩
section
theorem US:RM=.seq UN (.seq (.block 1 (.seq ahE BQ)) ahF)/\aa9=.block 0 (.loop RM)/\∃r9,amG=.seq (.seq r9 aa9) abA:=⟨by kernel_rfl,by kernel_rfl,sq1 (sq1 amG),by kernel_rfl⟩
section
variable {K:Nat->Prop}{w:World}{s:Eg}{j:Nat}{pv sv nv mv v1 v2 v3 vi vf vb va:Value}{us ax:List Value}{ep tb ob:Nat}{v12 v13 lv:Value}{S W:List UInt8}{i:Int}{a:Act}
theorem as7 (M:Mm K w ep tb ob j pv sv nv mv v1 v2 v3 v12 v13 s vi vf vb va us ax)(H:Sl a lv v12 v13 ep S W i)(ha:lv.oneCell'=true)(g:mU s)(hb:(s.beh.getD []).length+s.ah.getD 0<=5)(hW:W.length<=100000)(hS:S.length<=100000){o:vL}(hd:∀d,o=.typ d->d<10)(t15:a.tmps[15]?=some (.int .i64 (opN o:Nat)))
  {Q:Exit->Act->World->Prop} (hQ:∀a' w',vX K w ep tb ob j pv sv nv mv v1 v2 v3 v12 v13 lv i (S++o.line++qA) (BR (aI j).L W (o.step s)) (o.step s).1 a' w'->Q .normal a' w'):BQ.wp prog Q a w:=by
 cases o with
 |typ d=>exact as5 M H ha g hb hW hS (hd d rfl) t15 hQ
 |era=>exact as3 M H ha g hb hW hS t15 hQ
 |mov=>exact as1 M H ha g hb hW hS t15 hQ
 |com=>exact as2 M H ha g hb hW hS t15 hQ
 |und=>exact as4 M H ha g hb hW hS t15 hQ
end
end
section
variable {l LC RL:List Value}{P:Program}{ops:Array Oper}{rest:List Oper}{o:Oper}{a:Act}{w W4 w5 W6:World}{Q:Exit->Act->World->Prop}{ep:Nat}
def vN:Value:= .slice none 0 0
def zI:Value:= .int .i64 0
def R0:List Value:=[.bool false,vN,zI,.bool false,vN,zI,.bool false,vN,zI,.bool false,zI,zI,zI,zI,zI,zI,zI]
def S0:List Value:=[.bool false,vN,.bool false,vN,zI,zI]
def E0:List Value:=[vN,vN,zI]
theorem ahU (h:l.length=17):∃a b c d e f g i j k m n o p q r s,l=[a,b,c,d,e,f,g,i,j,k,m,n,o,p,q,r,s]:=by
 match l,h with
 |[a,b,c,d,e,f,g,i,j,k,m,n,o,p,q,r,s],_=>exact⟨_,_,_,_,_,_,_,_,_,_,_,_,_,_,_,_,_,rfl⟩
theorem amP (h:l.length=17):prog.built 43 [(0,.agg l.toArray)]=some (l++(R0++S0)).toArray:=by
 obtain⟨a,b,c,d,e,f,g,i,j,k,m,n,o,p,q,r,s,rfl⟩:=ahU h;kernel_rfl
theorem amQ (h:l.length=17):prog.built 46 [(0,.agg (l++(R0++S0)).toArray)]=some (l++(R0++(S0++E0))).toArray:=by
 obtain⟨a,b,c,d,e,f,g,i,j,k,m,n,o,p,q,r,s,rfl⟩:=ahU h;kernel_rfl
theorem XU (h:l.length=17):(l++(R0++(S0++E0))).toArray.size=43:=by
 rw[aEX,aD2,h];rfl
theorem as8:∀u∈R0++(S0++E0),u.oneCell'=true:=by decide
theorem as9 (h:∀u∈l,u.oneCell'=true):∀u∈l++(R0++(S0++E0)),u.oneCell'=true:=fun u hu=>(aEQ.1 hu).elim (h u) (as8 u)
theorem RS (h:wpList P ops Q (o::rest) a w):wpList P ops Q (o::rest) a w:=h
theorem new_row (w:World)(t:TypeId)(old cs:Array Value):∃W,(w.alloc (.cells old t)).setRow w.heap.size cs=W/\W.heap.size=w.heap.size+1/\W.heap[w.heap.size]?=some (.cells cs t (0,0))/\Below w.heap.size w W:=
 ⟨_,rfl,by simp,setRow_heap _ _ _ _ _ _ (aHO w _),((Below.refl _ w).alloc (aD1 _) (.cells old t)).trans ⟨rfl,rfl,rfl,by simp,fun k hk=>by
   simp only[World.setRow,aGV];rw[aD4 (by omega)]⟩⟩
theorem vY {g:Nat}{t:TypeId}{C:List Value}:∀(vs old A:List Value) (w:World),w.heap[g]?=some (.cells (A++(old++C)).toArray t (0,0))->vs.length=old.length->(w.setCells g A.length vs).heap[g]?=some (.cells (A++(vs++C)).toArray t (0,0))
 |[],[],A,w,h,_=>h
 |[],_::_,_,_,_,h=>by simp at h
 |_::_,[],_,_,_,h=>by simp at h
 |v::vs,o::old,A,w,h,hl=>by
  have h1:=heap_setCell_same w g A.length _ t v h
  have e:((A++(o::old++C)).toArray.setIfInBounds A.length v)=((A++[v])++(old++C)).toArray:=by
   apply aGQ;simp
  rw[e]at h1;have h2:=vY vs old (A++[v]) (w.setCell ⟨g,A.length,none⟩ v) h1 (by simpa using hl);rw[aD2,aGF]at h2;rw[World.setCells];rw[h2];simp
theorem CP {N b:Nat}(hb:N<=b):∀(vs:List Value) (o:Nat) {a w:World},Below N a w->Below N a (w.setCells b o vs)
 |[],_,_,_,h=>h
 |v::r,o,a,w,h=>by
  rw[World.setCells];exact CP hb r (o+1) (h.setCell (p:=⟨b,o,none⟩) hb v)
theorem uI {b k:Nat}(hk:k≠b):∀(vs:List Value) (o:Nat) (w:World),(w.setCells b o vs).heap[k]?=w.heap[k]?
 |[],_,_=>rfl
 |v::r,o,w=>by
  rw[World.setCells,uI hk r (o+1),heap_setCell_other _ _ _ _ hk]
theorem H7 (b:Nat):∀(vs:List Value) (o:Nat) (w:World),(w.setCells b o vs).heap.size=w.heap.size
 |[],_,_=>rfl
 |v::r,o,w=>by
  rw[World.setCells,H7 b r (o+1)];simp[World.setCell]
theorem KZ (hg:o.guard=none)(t:TypeId)(x:Operand)(ho:o.op=.build t #[(0,x)])(d:Option Tmp)(hd:o.dst=d)(v:Value)(hx:a.eval x=v)(cells:Array Value)(hf:P.built t [(0,v)]=some cells)(h:wpList P ops Q rest (a.put d (.agg cells)) w):wpList P ops Q (o::rest) a w:=
 wpList_buildTo hg t #[(0,x)] ho d hd cells (by simp[hx,hf]) h
theorem anX {RL:List Value}{t:TypeId}(h:W4.heap[ep]?=some (.cells (LC++(R0++(S0++E0))).toArray t (0,0)))(hb:Below W4.heap.size W4 w5)(hc:Below w5.heap.size w5 W6):W6.heap[ep]?=some (.cells (LC++(R0++(S0++E0))).toArray t (0,0)):=by
 have h1:=(aD5.1 h).1;rw[hc.block ep (by have:=hb.size;omega),hb.block ep h1];exact h
theorem amR {t:TypeId}(h:W4.heap[ep]?=some (.cells (LC++(R0++(S0++E0))).toArray t (0,0)))(l1:LC.length=17)(m1:RL.length=17)(hb:Below W4.heap.size W4 w5)(hc:Below w5.heap.size w5 W6)(_hs:W6.heap.size=w5.heap.size+1):W6.there ep 17 RL.toArray.size:=fun j hj=>by
 have h2:=anX (RL:=RL) h hb hc;rw[aEX,m1]at hj;refine⟨?_,frozen_of_row _ _ _ _ _ h2⟩;rw[aHM _ _ _ _ _ _ h2,aFO,aFG];exact⟨_,aEB (by rw[aD2,l1];show 17+j<17+26;omega)⟩
theorem axU {t:TypeId}(h:W4.heap[ep]?=some (.cells (LC++(R0++(S0++E0))).toArray t (0,0)))(l1:LC.length=17)(m1:RL.length=17)(hb:Below W4.heap.size W4 w5)(hc:Below w5.heap.size w5 W6)(hs:W6.heap.size=w5.heap.size+1):
  ∃W7,W6.setCells ep 17 RL.toArray.toList=W7/\W7.heap.size=w5.heap.size+1/\W7.heap[ep]?=some (.cells (LC++(RL++(S0++E0))).toArray t (0,0))/\(∀k,k≠ep->W7.heap[k]?=W6.heap[k]?)/\Below ep W6 W7/\ep<w5.heap.size:=by
 have h1:=(aD5.1 h).1
 refine⟨_,rfl,(H7 _ _ _ _).trans hs,?_,fun k hk=>?_,CP (aD1 _) _ _ (Below.refl _ _),by have:=hb.size;omega⟩
 ·have:=vY RL R0 LC W6 (anX (RL:=RL) h hb hc) (by rw[m1];rfl);rw[l1]at this;exact this
 ·exact uI hk RL 17 W6
def aB5:Array Value:=#[.string ⟨#[45,57,57,57,57,57,57,46,57,57]⟩,.string ⟨#[57,57,57,57,57,57,46,57,57]⟩,.string ⟨#[49]⟩,.int .i64 6,.int .i64 4,.int .i64 2,.int .i64 1,.int .i64 2,.int .i64 6,.int .i64 20]
def bA (a:List UInt8):ByteArray:=⟨a.toArray⟩
structure axV (PN PC:List Value->World->World->Prop) (lv:Value) (nm:ByteArray) (w:World) (ep tb ob:Nat) (LC RL:List Value) (a:Act) (W:World):Prop where
 n:∃wa wb,w.heap.size<=wa.heap.size/\wa.heap.size<=wb.heap.size/\PN LC wa wb/\wb.heap.size<=ep/\∀k,k<wb.heap.size->W.heap[k]?=wb.heap[k]?
 c:∃wa wb,w.heap.size<=wa.heap.size/\wa.heap.size<=wb.heap.size/\PC RL wa wb/\ep<wa.heap.size/\wb.heap.size<=tb/\tb<ob/\∀k,k<wb.heap.size->k≠ep->W.heap[k]?=wb.heap[k]?
 b:Below w.heap.size w W
 e:W.heap[ep]?=some (.cells (LC++(RL++(S0++E0))).toArray 46 (0,0))
 t:W.heap[tb]?=some (.cells wds.toArray 9 (0,0))
 o:W.heap[ob]?=some (.cells opsV.toArray 54 (0,0))
 sz:a.tmps.size=147
 df:a.defers=[]
 t1:a.tmps[1]?=some lv
 t6:a.tmps[6]?=some (.string (bA [108,111,99,97,108,101,32]++nm++bA [10,111,112,101,110,10]))
 t7:a.tmps[7]?=some (.string (bA [111,107,10,111,107,10]))
 t8:a.tmps[8]?=some (.pointer (some ⟨ep,0,none⟩))
 t12:a.tmps[12]?=some (.slice (some ⟨tb,0,none⟩) 3 3)
 t13:a.tmps[13]?=some (.slice (some ⟨ob,0,none⟩) 3 3)
 t14:a.tmps[14]?=some (.int .i64 0)
theorem ahV {c d c' d':Code}{K:Act->World->Prop}(hK:∀a w,d.wp P Q a w->K a w)(h1:c=c')(h2:d=d')(h:c'.wp P (Exit.then (d'.wp P Q) Q) a w):c.wp P (Exit.then K Q) a w:=by
 subst h1 h2;refine wp_mono h fun e a w h=>?_
 cases e with
 |normal=>exact hK a w h
 |exit i=>exact h
 |goto i=>exact h
 |ret=>exact h
 |panic c=>exact h
 |outgrown=>exact h
set_option maxRecDepth 100000 in
theorem amS (n:Int)(lv:Value)(nm:ByteArray)(RC:List Value)(w:World)(PN PC:List Value->World->World->Prop)(ha:∀w,Calls prog 4 #[.int .i64 n] w fun e w'=>e=.returned (.agg RC.toArray)/\Below w.heap.size w w')(hd:RC.length=8)(h1:∀u∈RC,u.oneCell'=true)(h0:RC[0]?=some (.string nm))(hf:nm.size<=100)(hb:∀w,Calls prog 5 #[.agg RC.toArray] w fun e w'=>∃LC,e=.returned (.agg LC.toArray)/\LC.length=17/\(∀u∈LC,u.oneCell'=true)/\PN LC w w'/\Below w.heap.size w w')(hc:∀w,Calls prog 6 #[.agg aB5] w fun e w'=>∃RL,e=.returned (.tuple #[.agg RL.toArray,.string ⟨#[]⟩,.int .i64 0])/\RL.length=17/\(∀u∈RL,u.oneCell'=true)/\PC RL w w'/\Below w.heap.size w w'){R:Ending->World->Prop}(hT:∀ep tb ob LC RL a W,axV PN PC lv nm w ep tb ob LC RL a W->aa9.wp prog (Exit.then (abA.wp prog (bodyPost prog Tryz.f3 R)) (bodyPost prog Tryz.f3 R)) a W):
  Calls prog 3 #[.int .i64 n,lv] w R:=by
 have HT:=aHL hT
 have H1:=aHL ha
 have H2:=aHL hb
 have H3:=aHL hc
 have HR:=aHL hd
 have HO:=aHL h1
 have HN:=aHL h0
 have hn:¬(9223372036854775807<7+nm.size):=by omega
 have ho:¬(9223372036854775807<7+nm.size+6):=by omega
 have HZ:=aHL hf
 clear hT ha hb hc hd h1 h0 hf
 go_enter func3,ntmps3
 go_wp2_with fail
 refine(H1.out _).mono ?_
 rintro e w1 ⟨rfl,b1⟩
 have B1:=aHL b1
 clear b1
 go_upto_block 0 with(first
  |(with_reducible refine RS (o:=⟨_,.store 24 (.tmp 5) (.tmp 21),_,_,_,_⟩) ?_
    refine wpList_store_row rfl 24 _ _ rfl w1.heap.size RC.toArray rfl rfl 24 _ (aHO w1 _) (by rw[aEX,HR.out];kernel_rfl) (by show _=RC.length;rw[HR.out];rfl) (all_oneCell_toArray HO.out) ?_
    obtain⟨W2,hg,q1,q2,q3⟩:=new_row w1 24 _ RC.toArray
    rw[hg]
    clear hg
    have c2:W2.cell? ⟨w1.heap.size,0,none⟩=some (.string nm):=by
     rw[aHM W2 _ 0 _ _ _ q2];show RC.toArray[0]?=_;rw[aFO];exact HN.out
    have Q1:=aHL q1
    have Q2:=aHL q2
    have Q3:=aHL q3
    clear q1 q2 q3)
  |(with_reducible refine RS (o:=⟨_,.load 24 (.tmp 5),_,_,_,_⟩) ?_
    refine aHX rfl 24 _ rfl w1.heap.size rfl 24 RC.toArray (0,0) _ Q2.out underlying24 rfl (by rw[aEX,HR.out];kernel_rfl) ?_)
  |(go_at_call 5
    refine(H2.out _).mono ?_
    rintro e w3 ⟨LC,rfl,l1,l2,l3,b3⟩
    have L1:=aHL l1
    have L2:=aHL l2
    have L3:=aHL l3
    have B3:=aHL b3
    clear l1 l2 l3 b3)
  |(with_reducible refine RS (o:=⟨_,.build 43 _,_,_,_,_⟩) ?_
    refine KZ rfl 43 _ rfl (some 28) rfl (.agg LC.toArray) rfl (LC++(R0++S0)).toArray (amP L1.out) ?_)
  |(with_reducible refine RS (o:=⟨_,.build 46 _,_,_,_,_⟩) ?_
    refine KZ rfl 46 _ rfl (some 29) rfl (.agg (LC++(R0++S0)).toArray) rfl (LC++(R0++(S0++E0))).toArray (amQ L1.out) ?_)
  |(with_reducible refine RS (o:=⟨_,.store 46 (.tmp 8) (.tmp 29),_,_,_,_⟩) ?_
    refine wpList_store_row rfl 46 _ _ rfl w3.heap.size (LC++(R0++(S0++E0))).toArray rfl rfl 46 _ (aHO w3 _) (by rw[XU L1.out];kernel_rfl) (by rw[XU L1.out];rfl) (all_oneCell_toArray (as9 L2.out)) ?_
    obtain⟨W4,hh,q1,q2,q3⟩:=new_row w3 46 _ (LC++(R0++(S0++E0))).toArray
    rw[hh]
    clear hh
    have Z1:=aHL q1
    have Z2:=aHL q2
    have Z3:=aHL q3
    clear q1 q2 q3)
  |(go_at_call 6
    refine(H3.out _).mono ?_
    rintro e w5 ⟨RL,rfl,m1,m2,m3,b5⟩
    have M1:=aHL m1
    have M2:=aHL m2
    have M3:=aHL m3
    have B5:=aHL b5
    clear m1 m2 m3 b5)
  |(with_reducible refine RS (o:=⟨_,.store 37 (.tmp 9) (.tmp 34),_,_,_,_⟩) ?_
    refine wpList_store_row rfl 37 _ _ rfl w5.heap.size RL.toArray rfl rfl 37 _ (aHO w5 _) (by rw[aEX,M1.out];kernel_rfl) (by show _=RL.length;rw[M1.out];rfl) (all_oneCell_toArray M2.out) ?_
    obtain⟨W6,hi,q1,q2,q3⟩:=new_row w5 37 _ RL.toArray
    rw[hi]
    clear hi
    have Y1:=aHL q1
    have Y2:=aHL q2
    have Y3:=aHL q3
    clear q1 q2 q3)
  |(with_reducible refine RS (o:=⟨_,.load 37 (.tmp 9),_,_,_,_⟩) ?_
    refine aHX rfl 37 _ rfl w5.heap.size rfl 37 RL.toArray (0,0) _ Y2.out underlying37 rfl (by rw[aEX,M1.out];kernel_rfl) ?_)
  |(with_reducible refine RS (o:=⟨_,.store 37 (.tmp 39) (.tmp 37),_,_,_,_⟩) ?_
    refine wpList_store_mid rfl 37 _ _ rfl w3.heap.size 17 RL.toArray rfl rfl (amR Z2.out L1.out M1.out B5.out Y3.out Y1.out) (by rw[aEX,M1.out];kernel_rfl) (all_oneCell_toArray M2.out) ?_
    obtain⟨W7,hj,q1,q2,q3,q4,q5⟩:=axU Z2.out L1.out M1.out B5.out Y3.out Y1.out
    rw[hj]
    clear hj
    have X1:=aHL q1
    have X2:=aHL q2
    have X3:=aHL q3
    have X4:=aHL q4
    have X5:=aHL q5
    clear q1 q2 q3 q4 q5)
  |fail)
 rename_i K hK
 refine ahV hK (c':=aa9) (d':=abA) (by kernel_rfl) (by kernel_rfl) ?_
 have g1:=B1.out.size
 have g2:=Q1.out
 have g3:=B3.out.size
 have g4:=Z1.out
 have g5:=B5.out.size
 have g6:=X1.out
 have g7:=X5.out
 have a2:=fun(o o2:Obj) k (hk:k<W7.heap.size)=>(Below.heap_alloc (W7.alloc o) o2 k (by show k<(W7.heap.push o).size;rw[Array.size_push];omega)).trans (Below.heap_alloc W7 o k hk)
 refine HT.out w3.heap.size W7.heap.size (W7.heap.size+1) LC RL _ _ ⟨⟨W2,w3,by omega,g3,L3.out,aD1 _,fun k hk=>?_⟩,⟨W4,w5,by omega,g5,M3.out,by omega,by omega,by omega,fun k hk hl=>?_⟩,?_,?_,heap_alloc2_old _ _ _,heap_alloc2_new _ _ _,rfl,rfl,rfl,rfl,rfl,rfl,rfl,rfl,rfl⟩
 ·rw[a2 _ _ k (by omega),X4.out.block k hk,Y3.out.block k (by omega),B5.out.block k (by omega),Z3.out.block k hk]
 ·rw[a2 _ _ k (by omega),X3.out k hl,Y3.out.block k hk]
 ·have h1:=(B1.out.trans (Q3.out.mono g1)).trans (B3.out.mono (by omega));have h2:=((h1.trans (Z3.out.mono (by omega))).trans (B5.out.mono (by omega))).trans (Y3.out.mono (by omega));exact((h2.trans (X4.out.mono (by omega))).alloc (by omega) _).alloc (by show _<=(W7.heap.push _).size;rw[Array.size_push];omega) _
 ·rw[a2 _ _ _ (by omega)];exact X2.out
end
section
variable {x k:Int}
section
variable {K:Nat->Prop}{w:World}{ep:Nat}{v12 v13 lv:Value}{S W:List UInt8}{i:Nat}{a:Act}{xs:List Int}
def cL (xs:List Int)(S W:List UInt8)(ep:Nat)(v12 v13:Value)(x k:Int):List (Nat×Value):=[(42,.agg (ints xs).toArray),(5044,sB S),(5000,sB W),(5072,.pointer (some ⟨ep,0,none⟩)),(5076,v12),(5080,v13),(5068,.int .i64 xs.length),(5084,.int .i64 x),(5048,.int .i64 k)]
theorem UT (hl:jJ K w lv xs)(oa:v12.oneCell'=true)(ob:v13.oneCell'=true):lY (Env.ini (vG K w (cL xs S W ep v12 v13 x k)) (fun _=>none) (fun _=>none)) (vG K w (cL xs S W ep v12 v13 x k)) (fun _=>True) w (aPs i) [lv,sB S,sB W,.pointer (some ⟨ep,0,none⟩),v12,v13,.int .i64 i]:=
 ⟨_,_,rfl,E7 (l:=xs) ⟨by decide,rfl⟩ hl.1 (fun _ _=>trivial),_,_,rfl,⟨rfl,rfl⟩,_,_,rfl,⟨rfl,rfl⟩,_,_,rfl,⟨rfl,rfl⟩,_,_,rfl,⟨rfl,oa⟩,_,_,rfl,⟨rfl,ob⟩,_,_,rfl,rfl,rfl⟩
theorem ahW (H:Sl a lv v12 v13 ep S W i):∀(m k:Nat),aKs[m]?=some k->∃x,[lv,sB S,sB W,.pointer (some ⟨ep,0,none⟩),v12,v13,.int .i64 i][m]?=some x/\a.tmps[k]?=some x:=fun m k h=>by
 match m,h with
 |0,h=>injection h with h;subst h;exact⟨_,rfl,H.t1⟩
 |1,h=>injection h with h;subst h;exact⟨_,rfl,H.t6⟩
 |2,h=>injection h with h;subst h;exact⟨_,rfl,H.t7⟩
 |3,h=>injection h with h;subst h;exact⟨_,rfl,H.t8⟩
 |4,h=>injection h with h;subst h;exact⟨_,rfl,H.t12⟩
 |5,h=>injection h with h;subst h;exact⟨_,rfl,H.t13⟩
 |6,h=>injection h with h;subst h;exact⟨_,rfl,H.t14⟩
 |m+7,h=>simp[aKs]at h
theorem atA (hK:∀g,K g->g<w.heap.size){X:List (Nat×Value)}:eN (vG K w X) w:=⟨hK,fun _ _=>rfl⟩
theorem axW:∀F∈[(⟨10,.atom 5068⟩:LnF)],VL (vG K w (cL xs S W ep v12 v13 x k)) F:=aD ⟨(ints xs).toArray,rfl,by
 rw[aEX,aQ];exact cS rfl rfl⟩ aH
theorem XV (hK:∀g,K g->g<w.heap.size)(hl:jJ K w lv xs)(oa:v12.oneCell'=true)(ob:v13.oneCell'=true)(H:Sl a lv v12 v13 ep S W i)(hi:i<=6){Q:Exit->Act->World->Prop}(hQ:∀a' w',Sl a' lv v12 v13 ep S W i->Below w.heap.size w w'->Q (if i<xs.length/\i<6 then .normal else .exit 0) a' w'):UN.wp prog Q a w:=by
 obtain⟨b,hb⟩:∃b,decide ((i:Int)<(xs.length:Int))=b:=⟨_,rfl⟩;have hc:∀i' x,(vG K w (cL xs S W ep v12 v13 0 0)).A i'=some x->i'%2≠1:=qY (l:=cL xs S W ep v12 v13 0 0) (by kernel_rfl);have hT:kY prog (vG K w (cL xs S W ep v12 v13 0 0)) (ahT i b):=bD (aD ⟨.int .i64 i,.int .i64 xs.length,.bool b,rfl,cS rfl rfl,rfl,fun t ox oy w=>by subst hb;simp[eqGuard,binOp,Op.intCmp]⟩ aH) aH aH axW
 have fin:∀(r:Bool),(i<xs.length/\i<6↔r=true)->UR (vG K w (cL xs S W ep v12 v13 0 0)) (ahT i b) [] UN i aKs (isN r)->UN.wp prog Q a w:=fun r hr ha=>by
  refine NN hc (atA hK) hT aH ha (by decide) (UT hl oa ob) H.sz H.df (ahW H) fun e s ρ' a' w' hf _ _ z1 z2 z3 hd=>?_
  have hs:Sl a' lv v12 v13 ep S W i:=⟨z1,z2,z3 0 1 rfl,z3 1 6 rfl,z3 2 7 rfl,z3 3 8 rfl,z3 4 12 rfl,z3 5 13 rfl,z3 6 14 rfl⟩;have:=hQ a' w' hs hd
  cases e with
  |normal=>
   have h1:r=true:=hf
   rw[aD6 (hr.2 h1)]at this
   exact this
  |exit n=>
   have h1:(!r&&Nat.beq n 0)=true:=hf
   rw[aD3]at h1
   have h2:=aEA h1.2
   subst h2
   have h3:r≠true:=by
    intro e;rw[e]at h1;exact absurd h1.1 (by decide)
   rw[aD4 (fun h=>h3 (hr.1 h))]at this
   exact this
  |ret=>cases hf
 rcases aEU i 6 with h6|h6
 ·obtain⟨r1,r2,_,_⟩:=as6 (vG K w (cL xs S W ep v12 v13 0 0)) i h6
  cases b with
  |true=>
   have:=aE3 hb
   exact fin true ⟨fun _=>rfl,fun _=>⟨by omega,h6⟩⟩ r1
  |false=>
   have:=aGG hb
   exact fin false ⟨fun h=>absurd h.1 (by omega),fun h=>by cases h⟩ r2
 ·have:i=6:=by omega
  subst this;exact fin false ⟨fun h=>absurd h.2 (by omega),fun h=>by cases h⟩ (aB4 _ b)
end
end
section
variable {Q:Exit->Act->World->Prop}
section
variable {K:Nat->Prop}{w:World}{ep:Nat}{v12 v13 lv:Value}{S W:List UInt8}{i:Nat}{a:Act}{xs:List Int}
theorem amT (hK:∀g,K g->g<w.heap.size)(hl:jJ K w lv xs)(oa:v12.oneCell'=true)(ob:v13.oneCell'=true)(H:Sl a lv v12 v13 ep S W i)(hi:i<6)(hx:i<xs.length)(hr:-9223372036854775808<=xs.getD i 0/\xs.getD i 0<=9223372036854775807)(hQ:∀a' w',Sl a' lv v12 v13 ep S W i->a'.tmps[15]?=some (.int .i64 (dU (xs.getD i 0) 14))->Below w.heap.size w w'->Q .normal a' w'):ahE.wp prog Q a w:=by
 have ha:∀i' x,(vG K w (cL xs S W ep v12 v13 (xs.getD i 0) (dU (xs.getD i 0) 14))).A i'=some x->i'%2≠1:=qY (l:=cL xs S W ep v12 v13 (xs.getD i 0) (dU (xs.getD i 0) 14)) (by kernel_rfl)
 have hT:kY prog (vG K w (cL xs S W ep v12 v13 (xs.getD i 0) (dU (xs.getD i 0) 14))) (elT i):=by
  refine acZ (bD aH aH aH aH) (aD ⟨(ints xs).toArray,.int .i64 (xs.getD i 0),rfl,?_,?_⟩ aH)
  ·simp only[ints,aFT];rw[aEB hx,aD9,aEB hx];rfl
  ·exact cS rfl rfl
 have hA:aK (vG K w (cL xs S W ep v12 v13 (xs.getD i 0) (dU (xs.getD i 0) 14))) prog axR:=by
  refine⟨⟨⟨_,rfl⟩,trivial,trivial⟩,fun w2 hu ys hb=>?_⟩;obtain⟨x0,_,rfl,k0,x1,_,rfl,k1,rfl⟩:=hb;rw[bF (v:= .int .i64 (xs.getD i 0)) rfl k0,show x1=_ from k1];refine(EP (xs.getD i 0) 14 w2 hr.1 hr.2 (by omega) (by omega)).mono ?_;rintro e w' ⟨rfl,rfl⟩;exact⟨_,rfl,⟨rfl,rfl⟩,Below.refl _ _⟩
 obtain⟨_,_,r3,_⟩:=as6 (vG K w (cL xs S W ep v12 v13 (xs.getD i 0) (dU (xs.getD i 0) 14))) i hi;refine NN ha (atA hK) hT (aD hA aH) r3 (by decide) (UT hl oa ob) H.sz H.df (ahW H) fun e s ρ' a' w' hf ht hh z1 z2 z3 hc=>?_
 have hs:Sl a' lv v12 v13 ep S W i:=⟨z1,z2,z3 0 1 rfl,z3 1 6 rfl,z3 2 7 rfl,z3 3 8 rfl,z3 4 12 rfl,z3 5 13 rfl,z3 6 14 rfl⟩;unfold axS at hf;rw[aD3]at hf
 have hd:a'.tmps[15]?=some (.int .i64 (dU (xs.getD i 0) 14)):=by
  have h3:=hf.2;unfold jP at h3;split at h3
  case h_2=>cases h3
  rename_i z hz;have:=eF h3;subst this;obtain⟨u,q1,q2⟩:=ht.ts.at_ hz;unfold aO at q2;rw[hh 5048 (.int .i64 (dU (xs.getD i 0) 14)) rfl]at q2;rw[q1];exact q2.symm
 have:=hQ a' w' hs hd hc
 cases e with
 |normal=>exact this
 |exit n=>exact absurd hf.1 (by show ¬(false&&Nat.beq n 0)=true;simp)
 |ret=>cases hf.1
theorem amU (hK:∀g,K g->g<w.heap.size)(hl:jJ K w lv xs)(oa:v12.oneCell'=true)(ob:v13.oneCell'=true)(H:Sl a lv v12 v13 ep S W i)(hi:i<6)(hQ:∀a' w',Sl a' lv v12 v13 ep S W ((i+1:Nat):Int)->Below w.heap.size w w'->Q .normal a' w'):ahF.wp prog Q a w:=by
 have ha:∀i' x,(vG K w (cL xs S W ep v12 v13 0 0)).A i'=some x->i'%2≠1:=qY (l:=cL xs S W ep v12 v13 0 0) (by kernel_rfl);obtain⟨_,_,_,r4⟩:=as6 (vG K w (cL xs S W ep v12 v13 0 0)) i hi;refine NN ha (atA hK) fS aH r4 (by decide) (UT hl oa ob) H.sz H.df (ahW H) fun e s ρ' a' w' hf ht hh z1 z2 z3 hb=>?_
 unfold axT at hf;rw[aD3]at hf
 have hc:a'.tmps[14]?=some (.int .i64 ((i+1:Nat):Int)):=by
  have h3:=hf.2;unfold jP at h3;split at h3
  case h_2=>cases h3
  rename_i z hz;have:=eF h3;subst this;obtain⟨u,q1,q2⟩:=ht.ts.at_ hz;unfold aO at q2;injection q2 with q2
  rw[q1,<-q2];rfl
 have:=hQ a' w' ⟨z1,z2,z3 0 1 rfl,z3 1 6 rfl,z3 2 7 rfl,z3 3 8 rfl,z3 4 12 rfl,z3 5 13 rfl,hc⟩ hb
 cases e with
 |normal=>exact this
 |exit n=>exact absurd hf.1 (by show ¬(false&&Nat.beq n 0)=true;simp)
 |ret=>cases hf.1
end
end
section
variable {k ep:Nat}{w w':World}
def Kx (w:World)(ep tb ob:Nat):Nat->Prop:=fun g=>g<w.heap.size/\g≠ep/\g≠tb/\g≠ob
def C1 (k:Nat):vL:=if k<10 then .typ k else if k=10 then .und else if k=11 then .mov else if k=12 then .era else .com
theorem atB (h:k<14):opN (C1 k)=k:=by
 have:k=0∨k=1∨k=2∨k=3∨k=4∨k=5∨k=6∨k=7∨k=8∨k=9∨k=10∨k=11∨k=12∨k=13:=by omega
 rcases this with rfl|rfl|rfl|rfl|rfl|rfl|rfl|rfl|rfl|rfl|rfl|rfl|rfl|rfl<;>rfl
theorem RT {d:Nat}(h:C1 k=.typ d):d<10:=by
 unfold C1 at h;by_cases h1:k<10
 ·rw[aD6 h1]at h;injection h with h
  omega
 ·rw[aD4 h1]at h;by_cases h2:k=10
  ·rw[aD6 h2]at h;cases h
  ·rw[aD4 h2]at h;by_cases h3:k=11
   ·rw[aD6 h3]at h;cases h
   ·rw[aD4 h3]at h;by_cases h4:k=12
    ·rw[aD6 h4]at h;cases h
    ·rw[aD4 h4]at h;cases h
section
variable {w w':World}{s s':Eg}{j:Nat}{pv sv nv mv v1 v2 v3 vi vf vb va vi' vf' vb' va':Value}{us ax us' ax':List Value}{ep tb ob:Nat}{v12 v13 lv:Value}{S W:List UInt8}{i:Nat}{a:Act}{xs:List Int}
theorem ahX (M:Mm (Kx w ep tb ob) w ep tb ob j pv sv nv mv v1 v2 v3 v12 v13 s vi vf vb va us ax):ep<w.heap.size/\tb<w.heap.size/\ob<w.heap.size:=by
 obtain⟨_,_,_,_,_,_,h2,_⟩:=DT M.t (n:=3) (by decide) (by decide) rfl;obtain⟨_,_,_,_,_,_,h3,_⟩:=DT M.o (n:=3) (by decide) (by decide) rfl;exact⟨(aD5.1 M.e).1,(aD5.1 h2).1,(aD5.1 h3).1⟩
theorem XW (M:Mm (Kx w ep tb ob) w ep tb ob j pv sv nv mv v1 v2 v3 v12 v13 s vi vf vb va us ax)(hs:∀k,k<w.heap.size->k≠ep->w'.heap[k]?=w.heap[k]?)(hz:w.heap.size<=w'.heap.size)(he:w'.heap[ep]?=some (.cells (pD (aI j) pv sv nv mv v1 v2 v3 s' vi' vf' vb' va').toArray 46 (0,0)))(hV:qK (fun g=>Kx w ep tb ob g∨w.heap.size<=g) w' (aY (aI j) pv sv nv mv) (bH v1 v2 v3) s' vi' vf' vb' va' us' ax'):Mm (Kx w' ep tb ob) w' ep tb ob j pv sv nv mv v1 v2 v3 v12 v13 s' vi' vf' vb' va' us' ax':=by
 obtain⟨l1,l2,l3⟩:=ahX M;have hK:∀b,Kx w ep tb ob b->b<w.heap.size->w'.heap[b]?=w.heap[b]?/\Kx w' ep tb ob b:=fun b h ha=>⟨hs b ha h.2.1,by have:=h.1;omega,h.2⟩
 refine⟨M.hj,fun g h=>h.1,fun h=>h.2.1 rfl,fun h=>h.2.2.1 rfl,fun h=>h.2.2.2 rfl,M.n1,M.n2,M.n3,M.E.mono hK,hV.mono fun b h ha=>⟨rfl,ha,?_⟩,he,M.t.mono fun b h ha=>⟨hs b ha (by rw[h];exact M.n1.symm),h⟩,M.o.mono fun b h ha=>⟨hs b ha (by rw[h];exact M.n2.symm),h⟩⟩;rcases h with h|h
 ·exact h.2
 ·exact⟨by omega,by omega,by omega⟩
theorem zU (M:Mm (Kx w ep tb ob) w ep tb ob j pv sv nv mv v1 v2 v3 v12 v13 s vi vf vb va us ax)(h:Below w.heap.size w w'):Mm (Kx w' ep tb ob) w' ep tb ob j pv sv nv mv v1 v2 v3 v12 v13 s vi vf vb va us ax:=
 XW M (fun k hk _=>h.block k hk) h.size ((h.block ep (ahX M).1).trans M.e) (M.V.mono fun b hb ha=>⟨h.block b ha,.inl hb⟩)
theorem zV {hs:∀k,k<w.heap.size->k≠ep->w'.heap[k]?=w.heap[k]?}(hl:jJ (Kx w ep tb ob) w lv xs)(hz:w.heap.size<=w'.heap.size):jJ (Kx w' ep tb ob) w' lv xs:=hl.mono fun b h ha=>⟨hs b ha h.2.1,by have:=h.1;omega,h.2⟩
structure Fr (ep:Nat) (w w':World):Prop where
 os:w'.os=w.os
 tape:w'.tape=w.tape
 output:w'.output=w.output
 size:w.heap.size<=w'.heap.size
 block:∀k,k<w.heap.size->k≠ep->w'.heap[k]?=w.heap[k]?
theorem Fr.of (h:Below w.heap.size w w'):Fr ep w w':=⟨h.os,h.tape,h.output,h.size,fun k hk _=>h.block k hk⟩
theorem Fr.trans {w'':World}(h:Fr ep w w')(k:Fr ep w' w''):Fr ep w w'':=⟨k.os.trans h.os,k.tape.trans h.tape,k.output.trans h.output,aEI h.size k.size,fun b hb ha=>(k.block b (aEL hb h.size) ha).trans (h.block b hb ha)⟩
def Inv (ep tb ob j:Nat)(pv sv nv mv v1 v2 v3 v12 v13 lv:Value)(xs:List Int)(i:Nat)(s:Eg)(S W:List UInt8)(a:Act)(w:World):Prop:=
 (∃vi vf vb va us ax,Mm (Kx w ep tb ob) w ep tb ob j pv sv nv mv v1 v2 v3 v12 v13 s vi vf vb va us ax)/\Sl a lv v12 v13 ep S W i/\jJ (Kx w ep tb ob) w lv xs
theorem abE (I:Inv ep tb ob j pv sv nv mv v1 v2 v3 v12 v13 lv xs i s S W a w)(hc:lv.oneCell'=true)(oa:v12.oneCell'=true)(oc:v13.oneCell'=true)(hi:i<6)(hx:i<xs.length)(hr:-9223372036854775808<=xs.getD i 0/\xs.getD i 0<=9223372036854775807)(g:mU s)(hb:(s.beh.getD []).length+s.ah.getD 0<=5)(hW:W.length<=100000)(hS:S.length<=100000)(hk:dU (xs.getD i 0) 14=(k:Int))(hd:k<14){Q:Exit->Act->World->Prop}(hQ:∀a' w',Inv ep tb ob j pv sv nv mv v1 v2 v3 v12 v13 lv xs (i+1) ((C1 k).step s).1 (S++(C1 k).line++qA) (BR (aI j).L W ((C1 k).step s)) a' w'->Fr ep w w'->Q .normal a' w'):RM.wp prog Q a w:=by
 obtain⟨⟨vi,vf,vb,va,us,ax,M⟩,H,hl⟩:=I;rw[US.1];refine wp_seq (XV M.lt hl oa oc H (by omega) fun a1 w1 H1 b1=>?_);rw[aD6 ⟨hx,hi⟩];have M1:=zU M b1;have l1:jJ (Kx w1 ep tb ob) w1 lv xs:=zV (hs:=fun k hk _=>b1.block k hk) hl b1.size;refine wp_seq (wp_block (wp_seq (amT M1.lt l1 oa oc H1 hi hx hr fun a2 w2 H2 ha b2=>?_)));have M2:=zU M1 b2;have l2:jJ (Kx w2 ep tb ob) w2 lv xs:=zV (hs:=fun k hk _=>b2.block k hk) l1 b2.size;rw[hk]at ha;refine as7 M2 H2 hc g hb hW hS (o:=C1 k) (fun d h=>RT h) (by rw[atB hd];exact ha) fun a3 w3 A3=>?_
 obtain⟨H3,⟨vi',vf',vb',va',us',ax',e3,V3⟩,f1,f2,f3,f4,f5⟩:=A3;have M3:=XW M2 f1 f2 e3 V3;have l3:jJ (Kx w3 ep tb ob) w3 lv xs:=zV (hs:=f1) l2 f2;refine amU M3.lt l3 oa oc H3 hi fun a4 w4 H4 b4=>?_
 exact hQ a4 w4 ⟨⟨vi',vf',vb',va',us',ax',zU M3 b4⟩,H4,zV (hs:=fun k hk _=>b4.block k hk) l3 b4.size⟩ (((Fr.of b1).trans (Fr.of b2)).trans ((⟨f3,f4,f5,f2,f1⟩:Fr ep w2 w3).trans (Fr.of b4)))
end
end
section
variable {Q:Exit->Act->World->Prop}
theorem abF (n:Int):(lN n).length<=7:=by
 unfold lN;split
 ·decide
 ·exact aD1 _
theorem ahY (o:vL):o.line.length<=10:=by
 cases o<;>simp[vL.line,lE,jO,tY,lF,nE]
theorem RU:∀os:List vL,(vM os).length<=20*os.length
 |[]=>aD1 _
 |o::os=>by
  have h1:=ahY o;have h2:=RU os;unfold vM;have h3:sS.length<=4:=by decide
  have h4:wAt.length<=2:=by decide
  simp only[aD2,aEN,aEW]at *;omega
theorem H8:∀(os:List vL) (s:Eg),mU s->(∀o∈os,∀d,o=.typ d->d<10)->mU (C0 os s)/\qJ (C0 os s)<=qJ s+os.length
 |[],s,h,_=>⟨h,aD1 _⟩
 |o::os,s,h,hd=>by
  have h1:=vB (hd o aEH) h;have h2:=GV o s;obtain⟨k1,k2⟩:=H8 os (o.step s).1 h1 fun o' ho=>hd o' (aEM _ ho)
  refine⟨k1,?_⟩;show qJ (C0 os (o.step s).1)<=_;rw[aEN];omega
theorem K0 {L:Lc}(hL:DG L):∀(os:List vL) (s:Eg),mU s->(∀o∈os,∀d,o=.typ d->d<10)->(pY L os s).length<=200*os.length
 |[],_,_,_=>aD1 _
 |o::os,s,h,hd=>by
  have h1:=vB (hd o aEH) h;have h2:=K0 hL os (o.step s).1 h1 fun o' ho=>hd o' (aEM _ ho)
  have h3:=abF (o.step s).2;have h4:(lP L (o.step s).1).length<100:=uZ hL h1.d
  have h5:(tAt L (o.step s).1).length<=5:=by
   unfold tAt;have:=uF (lO L (o.step s).1.d (o.step s).1.c);simp only[aD2,aEN,aEW];omega
  unfold pY;simp only[aD2,aEN,aEW];omega
theorem atC {os:List vL}{k:Nat}(h:∀o∈os,∀d,o=.typ d->d<10):∀o∈os++[C1 k],∀d,o=.typ d->d<10:=fun o ho d e=>by
 rcases aEQ.1 ho with ho|ho
 ·exact h o ho d e
 ·rw[aGT]at ho;exact RT (ho ▸ e)
section
variable {w:World}{j:Nat}{pv sv nv mv v1 v2 v3:Value}{ep tb ob:Nat}{v12 v13 lv:Value}{S W:List UInt8}{a:Act}{xs:List Int}
def Lop (ep tb ob j:Nat)(pv sv nv mv v1 v2 v3 v12 v13 lv:Value)(xs:List Int)(S W:List UInt8)(w:World)(os:List vL)(a':Act)(w':World):Prop:=
 Inv ep tb ob j pv sv nv mv v1 v2 v3 v12 v13 lv xs os.length (C0 os mW) (S++vM os) (W++pY (aI j).L os mW) a' w'/\Fr ep w w'/\(∀o∈os,∀d,o=.typ d->d<10)/\os.length<=6
theorem ahZ {i:Nat}{s:Eg}(I:Inv ep tb ob j pv sv nv mv v1 v2 v3 v12 v13 lv xs i s S W a w)(oa:v12.oneCell'=true)(oc:v13.oneCell'=true)(hi:i<=6)(hx:¬(i<xs.length/\i<6))(hQ:∀a' w',Inv ep tb ob j pv sv nv mv v1 v2 v3 v12 v13 lv xs i s S W a' w'->Fr ep w w'->Q (.exit 0) a' w'):RM.wp prog Q a w:=by
 obtain⟨⟨vi,vf,vb,va,us,ax,M⟩,H,hl⟩:=I;rw[US.1];refine wp_seq (XV M.lt hl oa oc H hi fun a1 w1 H1 b1=>?_);rw[aD4 hx];exact hQ a1 w1 ⟨⟨vi,vf,vb,va,us,ax,zU M b1⟩,H1,zV (hs:=fun k hk _=>b1.block k hk) hl b1.size⟩ (Fr.of b1)
theorem ah0 (hj:j<40)(I:Inv ep tb ob j pv sv nv mv v1 v2 v3 v12 v13 lv xs 0 mW S W a w)(hb:lv.oneCell'=true)(oa:v12.oneCell'=true)(oc:v13.oneCell'=true)(hr:∀i,-9223372036854775808<=xs.getD i 0/\xs.getD i 0<=9223372036854775807)(hS:S.length<=1000)(hW:W.length<=1000)(hQ:∀os a' w',Lop ep tb ob j pv sv nv mv v1 v2 v3 v12 v13 lv xs S W w os a' w'->Q .normal a' w'):aa9.wp prog Q a w:=by
 rw[US.2.1];refine wp_block (wp_loop_ghost (fun n a' w'=>∃os,n=6-os.length/\Lop ep tb ob j pv sv nv mv v1 v2 v3 v12 v13 lv xs S W w os a' w') 6 ⟨[],rfl,?_,⟨rfl,rfl,rfl,aD1 _,fun _ _ _=>rfl⟩,(fun o ho=>by cases ho),aES _⟩ ?_)
 ·show Inv ep tb ob j pv sv nv mv v1 v2 v3 v12 v13 lv xs 0 mW (S++[]) (W++[]) a w;rw[aET,aET];exact I
 ·rintro n a1 w1 ⟨os,rfl,I1,F1,hd,hn⟩;obtain⟨g1,g2⟩:=H8 os mW zR hd;have hc:qJ mW=0:=rfl;by_cases hx:os.length<xs.length/\os.length<6
  ·have ha:=wU (xs.getD os.length 0) 14 (by omega);obtain⟨k,hk⟩:∃k:Nat,dU (xs.getD os.length 0) 14=k:=⟨(dU (xs.getD os.length 0) 14).toNat,by omega⟩;have l1:=RU os;have l2:(pY (aI j).L os mW).length<=200*os.length:=K0 (nQ hj).1 os mW zR hd;refine abE I1 hb oa oc hx.2 hx.1 (hr _) g1 (by unfold qJ at g2 hc;omega) (by rw[aD2];omega) (by rw[aD2];omega) hk (by omega) fun a2 w2 I2 F2=>?_
   refine⟨6-(os++[C1 k]).length,?_,os++[C1 k],rfl,?_,F1.trans F2,atC hd,?_⟩
   ·rw[aD2,aGF];omega
   ·rw[aD2,aGF,KY,KX,G9]
    have e1:S++(vM os++((C1 k).line++[10]++(sS++[10]++(wAt++[10]))))=S++vM os++(C1 k).line++qA:=by
     simp[qA,sS,wAt]
    rw[e1,<-aEF];exact I2
   ·rw[aD2,aGF];omega
  ·refine ahZ I1 oa oc hn hx fun a2 w2 I2 F2=>?_
   exact hQ os a2 w2 ⟨I2,F1.trans F2,hd,hn⟩
end
end
section
variable {B:aE}
def H9:List UInt8:=[49,50,51,52]
def anY:List dO:=[T8 1 1,T8 2 2,T8 3 3,T8 4 4,FS 393 [.int .i64 ((48+1:Nat):Int)] (.int .i64 0),FS 393 [.int .i64 ((48+2:Nat):Int)] (.int .i64 0),FS 393 [.int .i64 ((48+3:Nat):Int)] (.int .i64 0),FS 393 [.int .i64 ((48+4:Nat):Int)] (.int .i64 0),
 FS 411 [sB H9] (.bool true),FS 411 [jK 1] (.bool true),FS 411 [jK 2] (.bool true),FS 411 [jK 3] (.bool true),FS 411 [jK 4] (.bool true)]
def UU:List PC:=[.p (.ls 7),.p (.val (sB H9))]
def XY (r:AV)(m:M):Bool:=match r with
 |.tup [.agg [x,.slc b o n sz c],e]=>fN 0 (.val (.bool false)) x&&(fN 0 (.val (.int .i64 0)) e&&(CV (.rox b 4 1) (.slc b o n sz c)&&dE m b 3 (rM [1,2,3,4])))
 |_=>false
noncomputable def DV (B:aE)(f:FuncId)(chk:AV->M->Bool):Bool:=
 match dR B iT (bT anY) f (bX (bQ 0 []).2 UU).1 {H:=tB (bQ 0 []).1,nb:=([]:List IB).length,nc:=(bX (bQ 0 []).2 UU).2}with
 |some (r,m)=>chk r m
 |none=>false
theorem abG (B:aE):DV B 476 XY=true:=by kernel_rfl
theorem abH (B:aE):DV B 473 (QS (.val (.bool false)))=true:=by kernel_rfl
theorem NO:(locT.getD 7 bO).sgn 1=1/\(locT.getD 7 bO).sgn 2=2/\(locT.getD 7 bO).sgn 3=3/\(locT.getD 7 bO).sgn 4=4:=⟨by kernel_rfl,by kernel_rfl,by kernel_rfl,by kernel_rfl⟩
def rR:eB:=locT.getD 7 bO
theorem ah1 (ha:∀i x,B.A i=some x->i%2≠1)(hA:B.A (gid 7)=some rR.gh)(hG:DC B):∀e∈anY,aK B prog e:=by
 have hs:∀d,d<10->aK B prog (T8 d (rR.sgn d)):=fun d hd=>XB (zP (k:=7) (by omega)) (fun B=>NA B 7 (by omega)) hA hd
 have hv:∀d,d<10->aK B prog (FS 411 [jK d] (.bool true)):=fun d hd=>uS hG (aD7.1 XA d (aEE.2 hd)) (by simp)
 have s1:=hs 1 (by omega);have s2:=hs 2 (by omega);have s3:=hs 3 (by omega);have s4:=hs 4 (by omega);rw[show rR.sgn 1=1 from NO.1]at s1;rw[show rR.sgn 2=2 from NO.2.1]at s2;rw[show rR.sgn 3=3 from NO.2.2.1]at s3;rw[show rR.sgn 4=4 from NO.2.2.2]at s4;exact aD s1 (aD s2 (aD s3 (aD s4 (aD (af8 ha (by omega)) (aD (af8 ha (by omega)) (aD (af8 ha (by omega)) (aD (af8 ha (by omega)) (aD (uS hG (by kernel_rfl) (by decide)) (aD (hv 1 (by omega)) (aD (hv 2 (by omega)) (aD (hv 3 (by omega)) (aD (hv 4 (by omega)) aH))))))))))))
theorem RV (hA:B.A (gid 7)=some rR.gh)(hG:DC B){f:FuncId}{chk:AV->M->Bool}(h1:∀B,DV B f chk=true){w:World}(hu:eN B w){lp y:Value}(hx:fG B (fun _=>True) w (.ls 7) lp)(hy:y=sB H9):
  Calls prog f #[lp,y] w fun e w'=>∃x ρ' r m',e=.returned x/\chk r m'=true/\aO ρ' r=some x/\Out (GL B rR.gh) (fun _=>True) (Env.ini (GL B rR.gh) (fun _=>none) fun _=>none) w ρ' m' w':=by
 have h:=h1 (GL B rR.gh)
 unfold DV at h
 refine BA (zO B rR.gh) (bY fS (bB (ah1 (zO B rR.gh) rfl (GK hG rfl rfl)))) (ib:=[]) (ps:=UU) rfl rfl h (aES _) (fun _=>none) (fun _=>none) (fun _ _=>rfl) (fun _ _=>rfl) (fun _ _ _ _ hb=>by cases hb) w (xR hu rfl rfl) (fun _ _ hb=>by cases hb) (G:=fun _=>True) (fun _ _ hb=>by cases hb) (fun j x hj=>by simp at hj) [lp,y] ⟨lp,_,rfl,?_,y,_,rfl,hy,rfl⟩
 obtain⟨q1,q2,gh,q3,q4⟩:=hx
 rw[hA]at q3
 injection q3 with q3
 subst q3
 exact⟨q1,q2,_,rfl,q4⟩
theorem abI (hA:B.A (gid 7)=some rR.gh)(hG:DC B):aK B prog ⟨473,[.ls 7,.val (sB H9)],.val (.bool false)⟩:=by
 refine⟨⟨⟨by decide,_,hA⟩,trivial,trivial⟩,fun w hu xs ha=>?_⟩;obtain⟨x,_,rfl,hx,y,_,rfl,hy,rfl⟩:=ha;refine(RV hA hG abH hu hx hy).mono ?_;rintro e w' ⟨x,ρ',r,m',rfl,hk,hx,O⟩;exact⟨x,rfl,jL hk hx,l7 O⟩
set_option maxRecDepth 100000 in
theorem abJ (hA:B.A (gid 7)=some rR.gh)(hG:DC B)(h6:cG B 6 [1,2,3,4]):aK B prog ⟨476,[.ls 7,.val (sB H9)],.tup [.agg [.val (.bool false),.ls 6],.val (.int .i64 0)]⟩:=by
 refine⟨⟨⟨by decide,_,hA⟩,trivial,trivial⟩,fun w hu xs ha=>?_⟩;obtain⟨x,_,rfl,hx,y,_,rfl,hy,rfl⟩:=ha;refine(RV hA hG abG hu hx hy).mono ?_;rintro e w' ⟨x,ρ',r,m',rfl,hk,hx,O⟩;refine⟨x,rfl,?_,l7 O⟩;unfold XY at hk;split at hk
 case h_2=>cases hk
 rename_i a b o n sz c e;simp only[aD3]at hk;obtain⟨c1,c2,c3,c4⟩:=hk;unfold aO at hx;split at hx
 case h_2=>cases hx
 rename_i ys hb;injection hx with hx
 subst hx;obtain⟨u,r1,k1,k2,rfl⟩:=aG.1 hb;obtain⟨e2,r2,k3,k4,rfl⟩:=aG.1 k2
 have:r2=[]:=by
  unfold aT at k4;injection k4 with k4
  exact k4.symm
 subst this;unfold aO at k1;split at k1
 case h_2=>cases k1
 rename_i zs hc;injection k1 with k1
 subst k1;obtain⟨u1,s1,j1,j2,rfl⟩:=aG.1 hc;obtain⟨u2,s2,j3,j4,rfl⟩:=aG.1 j2
 have:s2=[]:=by
  unfold aT at j4;injection j4 with j4
  exact j4.symm
 subst this;obtain⟨I1,⟨Q,q1,q2,q3⟩⟩:=uG O (l:=[1,2,3,4]) c4 (O.mat (.rox b 4 1) _ _ c3 trivial j3);exact⟨[_,_],rfl,_,_,rfl,⟨[_,_],rfl,_,_,rfl,jL c1 j1,_,_,rfl,kM h6 I1 (fun _ g hg=>by rw[q2]at hg;injection hg with hg;subst hg;exact GM O q3),rfl⟩,_,_,rfl,jL c2 k3,rfl⟩
end
section
def d4:Dr:=⟨false,[1,2,3,4],false,[]⟩
def s04:Eg:=⟨d4,4,some [(mW.d,0)],none,1⟩
theorem ah3:uQ mW.d:=⟨rfl,(fun x hx=>by cases hx),(fun x hx=>by cases hx),by decide,by decide,.inr rfl⟩
theorem ah4 {B:aE}(hA:dQ B (.val (.bool false)) 4 (.at_ 36) 5 mW.d)(hC:NP B (.at_ 204) (.int .i64 0))(h6:cG B 6 [1,2,3,4])(hE:dQ B (.val (.bool false)) 8 (.at_ 68) 9 d4)(hF:NP B (.at_ 224) (.int .i64 4)):
  aK B prog ⟨477,[PR,MN,.agg [.val (.bool false),.ls 6]],oT true⟩:=by
 have ha:qC B (oT true):=⟨iR hE hF,trivial,trivial⟩
 refine aU [NS (c:=0) hA hC,afE,afF h6] ⟨oT true,fun N w x=>∃vi vf,x=.tuple #[oQ vi vf d4 4,.int .i64 0]/\aC w vi d4.int/\aC w vf d4.frac/\cW N vi d4.int/\cW N vf d4.frac,ha,fun N w x hx=>(stR hE hF).inn N w x hx⟩ ?_
 rintro w _ ⟨_,_,rfl,⟨vi,vf,rfl,k1,k2⟩,_,_,rfl,rfl,_,_,rfl,⟨v,rfl,kv⟩,rfl⟩
 have:=PI vi vf v mW.d 0 6 4 true [1,2,3,4] w (ah3.stOK (aES _) k1 k2) kv (fun x hx=>by simp at hx;omega) (by simp) (.inl (by decide))
 unfold oS at this
 rw[show aN false (lX mW.d 0 [1,2,3,4])=d4 from rfl,show fZ d4 6 4=true from rfl]at this
 exact this
def UV:List dO:=yX++[ajU [116,121,112,101,32,49,50,51,52] [116,121,112,101] 0,⟨473,[.ls 7,.val (sB H9)],.val (.bool false)⟩,⟨476,[.ls 7,.val (sB H9)],.tup [.agg [.val (.bool false),.ls 6],.val (.int .i64 0)]⟩,
 ⟨477,[PR,MN,.agg [.val (.bool false),.ls 6]],oT true⟩]
noncomputable def axX (B:aE):Bool:=FJ B (ZQ 1 true) UV KL (PS tC ad2 (xJ none) none (.val (.int .i64 1))) none none
theorem abK (B:aE):axX B=true:=by kernel_rfl
section
variable {F:Nat->Prop}{w:World}{sh ep:Nat}{x:vH}
set_option maxRecDepth 100000 in
theorem abL (V:xG F w sh ep rR.rc rR.gh iY mW x)(L:sQ rR.rc rR.gh)(hw:Wd w):
  Calls prog 30 #[.pointer (some ⟨sh,0,none⟩),sB KL] w fun e w'=>e=.returned (sB tC)/\PW (F' F w w') w' sh ep rR.rc rR.gh iY s04/\Kp F w w':=by
 let X:List (Nat×Value):=[(26,.agg (ints [1,2,3,4]).toArray),(34,.agg (ints d4.int).toArray),(38,.agg (ints d4.frac).toArray),(68,.bool d4.sep),(224,.int .i64 4),(4300,x.vb mW.beh),(4304,x.va mW.ah)]
 have hX:kT X=true:=by kernel_rfl
 have hA:=uE (rc:=rR.rc) (gh:=rR.gh) (cf:=iY) (s:=mW) (us:=x.us) (X:=X) (w:=w) rfl
 have hC:NP (cY rR.rc rR.gh iY mW x.us w X) (.at_ 204) (.int .i64 0):= .atm cB.c
 have h6:cG (cY rR.rc rR.gh iY mW x.us w X) 6 [1,2,3,4]:=⟨by decide,by kernel_rfl⟩
 have hF:NP (cY rR.rc rR.gh iY mW x.us w X) (.at_ 224) (.int .i64 4):= .atm (by kernel_rfl)
 have hS:pJ (cY rR.rc rR.gh iY mW x.us w X) 8 68 9 224 d4 4:=⟨⟨by decide,by kernel_rfl⟩,⟨by decide,by kernel_rfl⟩,by kernel_rfl,by kernel_rfl⟩
 have hE:dQ (cY rR.rc rR.gh iY mW x.us w X) (.val (.bool false)) 8 (.at_ 68) 9 d4:=⟨hS.l,hS.r,.val _,.atm hS.s⟩
 have ha:∀e∈UV,aK (cY rR.rc rR.gh iY mW x.us w X) prog e:=by
  show ∀e∈[gV 4,gV 5,MO,_,_,_,_],_;exact aD (eR cB.l (by decide)) (aD (eR cB.r (by decide)) (aD (L.recd _ lD cQ) (aD (MR (xK hw) (by simp) (by decide)) (aD (abI lD (xK hw)) (aD (abJ lD (xK hw) h6) (aD (ah4 hA hC h6 hE hF) aH))))))
 have hT:kY prog (cY rR.rc rR.gh iY mW x.us w X) (ZQ 1 true):=bD (aD (eT (x:=1) (y:=mW.run) rfl (cS gU rfl) rfl (FR (by decide))) aH) aH aH aH
 have hl:∀l,mW.beh=some l->l.length<=14:=fun l h=>by cases h
 refine mI (told:=tC) V hX hl hT (E:=UV) ha (line:=KL) (k:=8) (sp:=68) (j:=9) (c:=224) (runP:= .val (.int .i64 1)) (nb:=none) (na:=none) (na':=none) (behP:=xJ none) rfl rfl (abK _) (s':=s04) hS (.inr ?_) rfl trivial (fun G w2 y hy=>hy)
 exact yZ (w:=w) (rc:=rR.rc) (gh:=rR.gh) (cf:=iY) (us:=x.us) (s:=mW) hX hl
end
end
def RW:List pC->Nat
 |[]=>0
 |.op _::l=>RW l+1
 |_::l=>RW l
theorem ah5:∀(cs:List pC) (s:Eg),mU s->qJ s+RW cs<=6->(∀d,pC.op (.typ d)∈cs->d<10)->∀(k:Nat) (c:pC),cs[k]?=some c->GU c (NG cs s k)
 |[],_,_,_,_,k,c,hk=>by simp at hk
 |a::cs,s,h,hn,hd,k,c,hk=>by
  cases k with
  |zero=>
   injection hk with hk
   subst hk
   rw[CN]
   refine⟨h,fun⟨o,e⟩=>?_,fun d e=>hd d (by rw[e];exact aEH)⟩
   subst e
   have:RW (pC.op o::cs)=RW cs+1:=rfl
   unfold qJ at hn
   omega
  |succ k=>
   have h1:mU (a.next s)/\qJ (a.next s)+RW cs<=6:=by
    cases a with
    |op o=>
     have e:RW (pC.op o::cs)=RW cs+1:=rfl
     have:=GV o s
     exact⟨vB (fun d e=>hd d (by rw[e];exact aEH)) h,by show qJ (o.step s).1+_<=_;omega⟩
    |shw=>exact⟨h,hn⟩
    |att=>exact⟨h,hn⟩
    |emp=>exact⟨h,hn⟩
   exact ah5 cs (a.next s) h1.1 h1.2 (fun d hm=>hd d (aEM _ hm)) k c hk
def RX:List pC:=[.op .mov,.shw,.att,.op .com,.op .und,.shw]
def alL:List (List UInt8):=sZ 7::sU::KL::RX.map pC.line
def alT:Nat->List UInt8
 |0=>tC
 |1=>tC
 |2=>tC
 |k+3=>match RX[k]? with
  |some c=>c.told (fI 7).L (NG RX s04 k)
  |none=>[]
def alW:Nat->Nat
 |0=>2
 |1=>1
 |2=>2
 |k+3=>match RX[k]? with
  |some c=>c.wn
  |none=>0
def aB8:Nat->(Nat->Prop)->World->Nat->Prop
 |0,F,w,sh=>UD F w sh (fI 12).rc
 |1,F,w,sh=>UD F w sh (fI 7).rc
 |2,F,w,sh=>∃ep,PW F w sh ep (fI 7).rc (fI 7).gh iY mW
 |k+3,F,w,sh=>∃ep,PW F w sh ep (fI 7).rc (fI 7).gh iY (NG RX s04 k)
theorem ah6:mU s04:=⟨⟨rfl,(fun x hx=>by simp[s04,d4]at hx;omega),(fun x hx=>by cases hx),by decide,by decide,.inr rfl⟩,by decide,fun q hq=>by
 have:q=(mW.d,0):=by simpa [s04]using hq
 subst this;exact⟨ah3,aES _⟩,fun _=>⟨_,rfl,aD1 _,.inl rfl⟩⟩
theorem ah7:∀(k:Nat) (c:pC),RX[k]?=some c->GU c (NG RX s04 k):=ah5 RX s04 ah6 (by decide) (fun d hm=>by simp[RX]at hm)
theorem axY (R:vW):KM alL alT alW aB8:=by
 refine⟨fun F w sh h=>h,fun k l hl F w sh hw hI=>?_,fun k l hl w=>?_,fun k F w w' sh hI hs hk=>?_,fun k F w sh hI g hg=>?_,fun k F w sh hI g hg=>?_⟩
 ·match k,hl,hI with
  |0,hl,hI=>
   injection hl with hl
   subst hl
   exact RD (by omega) hI
  |1,hl,hI=>
   injection hl with hl
   subst hl
   exact KJ hw (show UD F w sh (fI 7).rc from hI) (show sQ (fI 7).rc (fI 7).gh from DP (by omega))
  |2,hl,hI=>
   injection hl with hl
   subst hl
   obtain⟨ep,x,V⟩:=hI
   refine(abL V (show sQ rR.rc rR.gh from DP (k:=7) (by omega)) hw).mono ?_
   rintro e w' ⟨rfl,h1,h2⟩
   exact⟨rfl,⟨ep,by rw[CN];exact h1⟩,h2⟩
  |k+3,hl,hI=>
   have hl:(RX.map pC.line)[k]?=some l:=hl
   rw[aFT]at hl
   cases hc:RX[k]? with
   |none=>rw[hc]at hl;cases hl
   |some c=>
    rw[hc]at hl
    injection hl with hl
    subst hl
    obtain⟨ep,hI⟩:=hI
    refine(RF (j:=7) (by omega) R (ah7 k c hc) hw hI).mono ?_
    rintro e w' ⟨rfl,h1,h2⟩
    refine⟨?_,⟨ep,?_⟩,h2⟩
    ·show _=Ending.returned (sB (match RX[k]? with|some c=>c.told (fI 7).L (NG RX s04 k)|none=>[]));rw[hc]
    ·rw[GS RX s04 k c hc];exact h1
 ·match k,hl with
  |0,hl=>
   injection hl with hl
   subst hl
   exact XG (by omega) w
  |1,hl=>
   injection hl with hl
   subst hl
   exact kE RE w
  |2,hl=>
   injection hl with hl
   subst hl
   exact kE (fun B=>aD7.1 (NF B) KL (by simp)) w
  |k+3,hl=>
   have hl:(RX.map pC.line)[k]?=some l:=hl
   rw[aFT]at hl
   cases hc:RX[k]? with
   |none=>rw[hc]at hl;cases hl
   |some c=>
    rw[hc]at hl
    injection hl with hl
    subst hl
    have:=XF (ah7 k c hc).d w
    show Calls _ _ _ _ fun e w'=>∃A q,e=.returned (.slice A (match RX[k]? with|some c=>c.wn|none=>0) q)/\_
    rw[hc]
    exact this
 ·match k,hI with
  |0,hI=>exact zQ hI hs hk
  |1,hI=>exact zQ hI hs hk
  |2,hI=>
   obtain⟨ep,x,V⟩:=hI
   exact⟨ep,x,V.keep hs hk (fun _ h=>h) (fun g hg=>aEL (V.lt g hg) hs) V.lo⟩
  |k+3,hI=>
   obtain⟨ep,x,V⟩:=hI
   exact⟨ep,x,V.keep hs hk (fun _ h=>h) (fun g hg=>aEL (V.lt g hg) hs) V.lo⟩
 ·match k,hI with
  |0,hI=>exact hI.lt g hg
  |1,hI=>exact hI.lt g hg
  |2,hI=>
   obtain⟨ep,x,V⟩:=hI
   exact V.lt g hg
  |k+3,hI=>
   obtain⟨ep,x,V⟩:=hI
   exact V.lt g hg
 ·match k,hI with
  |0,hI=>exact hI.lo g hg
  |1,hI=>exact hI.lo g hg
  |2,hI=>
   obtain⟨ep,x,V⟩:=hI
   exact V.lo g hg
  |k+3,hI=>
   obtain⟨ep,x,V⟩:=hI
   exact V.lo g hg
def alS:List UInt8:=eY alL
def alO:List UInt8:=mX alT alW alL.length
theorem ah8:(alL.all fun l=>!l.contains 10)=true/\Nat.ble (eY alL).length 1000=true/\((List.range 10).all fun k=>Nat.ble (mX alT alW k).length 1000)=true:=⟨by kernel_rfl,by kernel_rfl,by kernel_rfl⟩
theorem atD (R:vW){w:World}(hw:Wd w)(h3:3<=w.heap.size):Calls prog 13 #[.string ⟨alS.toArray⟩] w fun e w'=>e=.returned (sB alO)/\Below w.heap.size w w':=by
 obtain⟨h1,h2,h4⟩:=ah8;refine XE (axY R) (by simp[alL]) (fun l hl=>?_) (by decide) (by have:=aEJ h2;omega) (fun k hk=>?_) w hw h3
 ·have:=aD7.1 h1 l hl;simpa using this
 ·have hk:k<=9:=hk;have:=aEJ (aD7.1 h4 k (aEE.2 (by omega)));omega
section
variable {w:World}
def alA:List UInt8:=[108,111,99,97,108,101,32,100,101,45,68,69,10,111,112,101,110,10,116,121,112,101,32,49,50,51,52,10,109,111,118,101,32,108,101,102,116,10,115,104,111,119,10,97,116,10,99,111,109,109,105,116,10,117,110,100,111,10,115,104,111,119]
def alB:List UInt8:=[111,107,10,111,107,10,111,107,10,111,107,10,49,46,50,51,52,194,160,226,130,172,10,52,32,52,10,111,107,10,111,107,10,49,46,50,51,52,194,160,226,130,172,10]
theorem atF:alS=alA:=by kernel_rfl
theorem atG:alO=alB:=by kernel_rfl
theorem amV (R:vW)(hw:Wd w)(h3:3<=w.heap.size):Calls prog 13 #[.string ⟨alA.toArray⟩] w fun e w'=>e=.returned (.string ⟨alB.toArray⟩)/\Below w.heap.size w w':=by
 have:=atD R hw h3;rw[atF,atG]at this;exact this
set_option maxRecDepth 100000 in
theorem abM (R:vW)(hw:Wd w)(h3:3<=w.heap.size):Calls prog 15 #[] w fun e w'=>e=.returned (.bool true)/\Below w.heap.size w w':=by
 have hr:=amV R hw h3;unfold alA at hr;go_enter func15,ntmps15;go_wp2_with(go_at_call 13;refine hr.mono ?_;rintro e w1 ⟨rfl,hb⟩)
 unfold alB;go_wp2;go_ret;exact⟨rfl,hb⟩
end
section
def vZ:List IB:=[⟨46,dH 0 43,true⟩]
def ah9:List Nat:=[6,7,8]
def RY:List PC:=[.p (.at_ 5044),.p (.at_ 5000),.ptr 0]
def amW:List dO:=[⟨13,[.at_ 5044],.at_ 5000⟩,⟨14,[.agg (lG 34 6)],.val (.bool true)⟩,⟨15,[],.val (.bool true)⟩]
def UW:Tb:=mR [⟨.eql,.atom 5000,.atom 5000,.lit (.bool true)⟩] [] [] []
noncomputable def atH (e:fM)(s:St):Bool:=match e with
 |.ret=>s.ds.isEmpty&&jP s.ts 4 (.lit (.bool true))
 |_=>false
noncomputable def aCB (B:aE):Prop:=∀J,(match KT B UW (bT amW) abA {ts:=FW ah9 (bX (bQ 3 vZ).2 RY).1 (vS 147 J 8 1 0),ds:=[],m:={H:=tB (bQ 3 vZ).1,nb:=vZ.length,nc:=(bX (bQ 3 vZ).2 RY).2}}with
 |some (e,s)=>atH e s
 |none=>false)=true
theorem amX (B:aE):aCB B:=by intro J;kernel_rfl
def aCC (S W:List UInt8):List (Nat×Value):=[(5000,sB W),(5044,sB S)]
section
variable {w:World}{j:Nat}{pv sv nv mv v1 v2 v3:Value}{ep tb ob:Nat}{v12 v13 lv vi vf vb va:Value}{us ax:List Value}{S W:List UInt8}{i:Int}{a:Act}{s:Eg}
set_option maxRecDepth 100000 in
theorem amY (M:Mm (Kx w ep tb ob) w ep tb ob j pv sv nv mv v1 v2 v3 v12 v13 s vi vf vb va us ax)(H:Sl a lv v12 v13 ep S W i)(g:mU s)(hw:Wd w)(h3:3<=ep/\3<=tb/\3<=ob)(R:vW)
  (hr:∀w2,Wd w2->3<=w2.heap.size->Calls prog 13 #[sB S] w2 fun e w'=>e=.returned (sB W)/\Below w2.heap.size w2 w')
  {Q:Exit->Act->World->Prop} (hQ:∀a' w',a'.tmps[4]?=some (.bool true)->a'.defers=[]->Fr ep w w'->Q .ret a' w'):abA.wp prog Q a w:=by
 obtain⟨l1,l2,l3⟩:=ahX M
 obtain⟨B,hB⟩:∃B,B=rB (Kx w ep tb ob) w j pv sv nv mv v1 v2 v3 s vi vf vb va (aCC S W):=⟨_,rfl⟩
 have hs:∀i x,B.A i=some x->i%2≠1:=by rw[hB];exact RN (by kernel_rfl)
 have hu:eN B w:=by rw[hB];exact⟨fun g hg=>hg.1,fun _ _=>rfl⟩
 have ht:∀g,B.K g->g≠ep:=by rw[hB];exact fun g hg=>hg.2.1
 have hG:DC B:=by rw[hB];exact⟨fun g hg=>⟨by omega,by omega,by omega,by omega⟩,hw⟩
 have hA:∀q v,(pD (aI j) pv sv nv mv v1 v2 v3 s vi vf vb va)[q]?=some v->B.A (8000+4*(0+q))=some v/\v.oneCell'=true:=fun q v hq=>⟨by rw[hB];exact rA hq,ahQ M v (aE6 hq)⟩
 have x1:B.A 5044=some (sB S):=by rw[hB];rfl
 have x2:B.A 5000=some (sB W):=by rw[hB];rfl
 have hl:∀q v,(pV s.d s.c vi vf)[q]?=some v->B.A (8000+4*(34+q))=some v:=fun q v hq=>by
  have:=(hA (34+q) v (by
   show((aY (aI j) pv sv nv mv++(bH v1 v2 v3++pV s.d s.c vi vf))++_)[34+q]?=some v;have h6:=(aED.1 hq).1;rw[aEG (by show 34+q<17+(17+(pV s.d s.c vi vf).length);omega),aEO (by show 17<=34+q;omega),aEO (by show 17<=34+q-17;omega)];show(pV s.d s.c vi vf)[34+q-17-17]?=some v;rw[show 34+q-17-17=q by omega];exact hq)).1
  rwa[aEV]at this
 have hI:∀w2,eN B w2->aC w2 vi s.d.int/\aC w2 vf s.d.frac:=by rw[hB];exact fun w2 hu=>⟨rK M.V.i hu,rK M.V.f hu⟩
 clear hB
 have hE:∀e∈amW,aK B prog e:=by
  refine aD ⟨⟨⟨_,x1⟩,trivial⟩,fun w2 ha xs hd=>?_⟩ (aD ⟨⟨BE 6 34 fun q hq=>?_,trivial⟩,fun w2 ha xs hd=>?_⟩ (aD ⟨trivial,fun w2 ha xs hd=>?_⟩ aH))
  ·obtain⟨x0,_,rfl,k0,rfl⟩:=hd;rw[bF x1 k0];refine(hr w2 (hG.wd ha) ?_).mono ?_
   ·exact ha.size 2 (hG.k 2 (by omega))
   ·rintro e w' ⟨rfl,hb⟩;exact⟨_,rfl,⟨x2,rfl⟩,hb⟩
  ·exact⟨_,hl q _ (aEB (by show q<6;exact hq))⟩
  ·obtain⟨x0,_,rfl,⟨ys,rfl,k0⟩,rfl⟩:=hd;rw[lH (pV s.d s.c vi vf) 34 ys hl k0];obtain⟨i1,i2⟩:=hI w2 ha
   have e1:Value.agg (pV s.d s.c vi vf).toArray=oQ vi vf s.d s.c:=by
    unfold pV oQ;rw[g.d.ng]
   rw[e1];refine(zK vi vf s.d s.c w2 (g.d.stOK g.c i1 i2)).mono ?_;rintro e w' ⟨rfl,hb⟩;exact⟨_,rfl,rfl,hb⟩
  ·have:xs=[]:=hd;subst this;refine(abM R (hG.wd ha) (ha.size 2 (hG.k 2 (by omega)))).mono ?_;rintro e w' ⟨rfl,hb⟩;exact⟨_,rfl,rfl,hb⟩
 have hT:kY prog B UW:=bD (aD ⟨sB W,sB W,.bool true,cS x2 rfl,cS x2 rfl,rfl,fun t ox oy w=>by
  have:=ac2 (P:=prog) ⟨W.toArray⟩ ⟨W.toArray⟩ t ox oy w;rw[aE8 rfl]at this;exact this⟩ aH) aH aH aH
 obtain⟨blk,hf⟩:∃f:Nat->Option (Nat×Nat×Nat×Nat),f=fun i=>if i=0 then some (ep,0,43,43)else none:=⟨_,rfl⟩
 have k0:blk 0=some (ep,0,43,43):=by rw[hf];rfl
 have k3:∀i,1<=i->blk i=none:=fun i hi=>by
  rw[hf];exact aD4 (by omega)
 have ka:∀b q,blk b=some q->b=0/\q.1=ep:=fun b q h=>by
  match b,h with
  |0,h=>rw[k0]at h;injection h with h;subst h;exact⟨rfl,rfl⟩
  |b+1,h=>rw[k3 _ (by omega)]at h;cases h
 have s8:aO (Env.ini B blk fun _=>none) (.ptr 0 0)=some (.pointer (some ⟨ep,0,none⟩)):=gD k0
 have hC:kV prog (SR B UW):=VF VI hT
 have hn:cH B prog (dR B UW (bT amW)):=bY hT (bB hE)
 have hv:tH B prog (EH prog (SR B UW) (dR B UW (bT amW))):=C8 L4 hC _ hn
 refine P0 (C:=SR B UW) hC hs hn hv (n:=147) (by decide) (ks:=ah9) (nc0:=3) (ib:=vZ) (ps:=RY) (bs:=(bQ 3 vZ).1) (c1:=(bQ 3 vZ).2) (a:=(bX (bQ 3 vZ).2 RY).1) (c2:=(bX (bQ 3 vZ).2 RY).2) rfl rfl (chk:=atH) (fun J=>?_) (by decide) blk (fun _=>none) k3 (fun _ _=>rfl) (fun b b' q q' h h' hh=>?_) w hu (fun b q h=>?_) (G:=fun _=>False) (fun _ _ _ h=>h) (fun j' x hj=>?_)
  [sB S,sB W,.pointer (some ⟨ep,0,none⟩)] ⟨_,_,rfl,⟨x1,rfl⟩,_,_,rfl,⟨x2,rfl⟩,_,_,rfl,s8,rfl⟩ H.sz H.df (fun j' k hj=>?_) (fun e st ρ' a' w' hc ho O hp=>?_)
 ·have h:=amX B J;unfold KT at h;split at h
  ·rename_i e s hx;rw[hx];exact h
  ·cases h
 ·exact absurd ((ka b q h).1.trans (ka b' q' h').1.symm) hh
 ·rw[(ka b q h).2];exact fun hk=>ht ep hk rfl
 ·match j',hj with
  |0,hj=>
   injection hj with hj
   subst hj
   refine⟨ep,0,43,_,pD (aI j) pv sv nv mv v1 v2 v3 s vi vf vb va,k0,M.e,rfl,by decide,?_,ahQ M,fun i hi=>by simp,fun _=>⟨rfl,rfl⟩⟩
   exact oU (pD (aI j) pv sv nv mv v1 v2 v3 s vi vf vb va) 0 hA
  |j'+1,hj=>simp[vZ]at hj
 ·match j',hj with
  |0,hj=>injection hj with hj;subst hj;exact⟨_,rfl,H.t6⟩
  |1,hj=>injection hj with hj;subst hj;exact⟨_,rfl,H.t7⟩
  |2,hj=>injection hj with hj;subst hj;exact⟨_,rfl,H.t8⟩
  |j'+3,hj=>simp[ah9]at hj
 ·unfold atH at hc;split at hc
  case h_2=>cases hc
  simp only[aD3]at hc;obtain⟨d1,d2⟩:=hc
  have hz:a'.defers=[]:=by
   have h:=ho.ds;rw[aHB.1 d1]at h;generalize a'.defers=ds at h⊢
   cases h;rfl
  exact hQ a' w' (mQ O ho d2 rfl) hz ⟨O.os,O.tape,O.output,O.size,fun k hk hh=>O.keep k hk fun b q hq e=>hh (e ▸ (ka b q hq).2)⟩
end
end
theorem anZ:vW:=by
 refine⟨fun d hd=>?_,⟨aCD,aCE,aCF,aCG,azD,azE⟩,aCH,⟨aCI,aCJ,aCK⟩,⟨aCL,aCM,aCN⟩⟩
 match d,hd with
 |0,_=>exact⟨axZ,ax0,ax1,ax2,ax3⟩
 |1,_=>exact⟨ax4,ax5,ax6,ax7,ax8⟩
 |2,_=>exact⟨ax9,ayA,ayB,ayC,ayD⟩
 |3,_=>exact⟨ayE,ayF,ayG,ayH,ayI⟩
 |4,_=>exact⟨ayJ,ayK,ayL,ayM,ayN⟩
 |5,_=>exact⟨ayO,ayP,ayQ,ayR,ayS⟩
 |6,_=>exact⟨ayT,ayU,ayV,ayW,ayX⟩
 |7,_=>exact⟨ayY,ayZ,ay0,ay1,ay2⟩
 |8,_=>exact⟨ay3,ay4,ay5,ay6,ay7⟩
 |9,_=>exact⟨ay8,ay9,azA,azB,azC⟩
 |n+10,h=>omega
section
variable {j:Nat}{G:Nat->Prop}{w:World}
theorem atM:((List.range 40).all fun k=>Nat.ble (aI k).rc.nm.length 100)=true:=by kernel_rfl
theorem aiE (hj:j<40):(aI j).rc.nm.length<=100:=aEJ (aD7.1 atM j (aEE.2 hj))
theorem aiF (a b:List UInt8):bA a++bA b=bA (a++b):=by
 have e:∀{x y:ByteArray},x.data.toList=y.data.toList->x=y:=fun {x y} h=>by
  cases x;cases y;congr;exact Array.toList_inj.1 h
 apply e;simp[bA]
theorem abN {pv sv nv mv:Value}(L:F0 G w (aI j) pv sv nv mv):∀u∈aY (aI j) pv sv nv mv,u.oneCell'=true:=fun u hu=>by
 have h1:pv.oneCell'=true:=by obtain⟨_,_,_,rfl,_⟩:=L.a;rfl
 have h2:sv.oneCell'=true:=by obtain⟨_,_,_,rfl,_⟩:=L.b;rfl
 have h3:=L.on;have h4:=L.om;simp only[aY,Rc.l,eB.is,aEQ,aER,aFF,aGX]at hu;rcases hu with(rfl|rfl|rfl|rfl|rfl|rfl|rfl|rfl)|(rfl|rfl|rfl|rfl)|(rfl|rfl|rfl|rfl|rfl)<;>first|rfl|assumption
theorem aiG {w2 w3:World}{G2 G3:Nat->Prop}{v1 v2 v3:Value}{a b c:List Int}(h1:jJ G w v1 a)(h2:jJ G2 w2 v2 b)(h3:jJ G3 w3 v3 c):∀u∈bH v1 v2 v3,u.oneCell'=true:=fun u hu=>by
 have h1:=h1.one;have h2:=h2.one;have h3:=h3.one;simp only[bH,aER,aFF,aGX]at hu;rcases hu with rfl|rfl|rfl|rfl|rfl|rfl|rfl|rfl|rfl|rfl|rfl|rfl|rfl|rfl|rfl|rfl|rfl<;>first|rfl|assumption
theorem atN {v:Value}{l:List Int}(h:aC w v l):jJ (fun g=>g<w.heap.size) w v l:=⟨h,fun hp g hg=>by
 obtain⟨A,c,rfl,_,_,h2⟩:=h;obtain⟨b,off,rfl,hc⟩:=h2 hp;have:g=b:=by simpa [Value.ownBlock]using hg.symm
 subst this;exact aHQ w _ (hc 0 hp)⟩
theorem XZ {t sz n:Nat}{vs:List Value}{b:Nat}(h:w.heap[b]?=some (.cells vs.toArray t (0,0)))(hl:vs.length=n*sz)(hn:n<=9223372036854775807):nS (fun g=>g=b) w t sz (.slice (some ⟨b,0,none⟩) n n) vs:=
 ⟨_,n,n,rfl,aD1 _,hn,hl,.inr ⟨b,0,_,rfl,rfl,h,by rw[aEX];omega,fun j _=>by rw[aEV,aFO]⟩⟩
theorem azF {lc rl:List Value}:qK G w lc rl mW vN vN vN vN [] []:=
 ⟨⟨aC.nil_ _ _ _ (by omega),fun h=>absurd h (Nat.lt_irrefl 0)⟩,⟨aC.nil_ _ _ _ (by omega),fun h=>absurd h (Nat.lt_irrefl 0)⟩,vE,rfl,rfl,(fun u hu=>by cases hu),vE,rfl,(fun u hu=>by cases hu),fun g hg=>by simp[vN,Value.ownBlock]at hg⟩
def UX (j:Nat):List UInt8:=sZ j++[10]++(sU++[10])
def atO:List UInt8:=tC++[10]++(tC++[10])
theorem am0 (j:Nat):bA [108,111,99,97,108,101,32]++bA (aI j).rc.nm++bA [10,111,112,101,110,10]=bA (UX j):=by
 rw[aiF,aiF];unfold UX sZ;rw[aEF _ [10]];rfl
def PNm (j:Nat)(LC:List Value)(w w':World):Prop:=∃pv sv nv mv,LC=aY (aI j) pv sv nv mv/\F0 (fun g=>w.heap.size<=g) w' (aI j) pv sv nv mv
def PCm (RL:List Value)(w w':World):Prop:=∃v1 v2 v3,RL=bH v1 v2 v3/\jJ (fun g=>w.heap.size<=g) w' v1 dS/\jJ (fun g=>w.heap.size<=g) w' v2 dS/\jJ (fun g=>w.heap.size<=g) w' v3 [1]
theorem am1 (hj:j<40){lv:Value}{xs:List Int}{W:World}{ep tb ob:Nat}{LC RL:List Value}{a:Act}(hi:aC w lv xs)(F:axV (PNm j) PCm lv (bA (aI j).rc.nm) w ep tb ob LC RL a W):
  ∃pv sv nv mv v1 v2 v3,Inv ep tb ob j pv sv nv mv v1 v2 v3 (.slice (some ⟨tb,0,none⟩) 3 3) (.slice (some ⟨ob,0,none⟩) 3 3) lv xs 0 mW (UX j) atO a W/\w.heap.size<=ep/\w.heap.size<=tb/\w.heap.size<=ob:=by
 obtain⟨⟨wa,wb,n1,n2,⟨pv,sv,nv,mv,rfl,LM⟩,n3,n4⟩,⟨wc,wd,c1,c2,⟨v1,v2,v3,rfl,q1,q2,q3⟩,c3,c4,c5,c6⟩,hB,he,ht,ho,sz,df,t1,t6,t7,t8,t12,t13,t14⟩:=F
 have z1:=(aD5.1 he).1
 have z2:=(aD5.1 ht).1
 have z3:=(aD5.1 ho).1
 have hQ:∀b,wc.heap.size<=b->b<wd.heap.size->W.heap[b]?=wd.heap[b]?/\Kx W ep tb ob b:=fun b hb ha=>⟨c6 b ha (by omega),by omega,by omega,by omega,by omega⟩
 refine⟨pv,sv,nv,mv,v1,v2,v3,⟨⟨vN,vN,vN,vN,[],[],hj,fun g h=>h.1,fun h=>h.2.1 rfl,fun h=>h.2.2.1 rfl,fun h=>h.2.2.2 rfl,by omega,by omega,by omega,⟨LM.mono fun b hb ha=>⟨n4 b ha,by omega,by omega,by omega,by omega⟩,q1.mono hQ,q2.mono hQ,q3.mono hQ⟩,azF,he,XZ ht rfl (by omega),XZ ho rfl (by omega)⟩,
  ⟨sz,df,t1,by rw[t6,am0];rfl,t7,t8,t12,t13,t14⟩,(atN hi).mono fun b hb _=>⟨hB.block b hb,by have:=hB.size;omega,by omega,by omega,by omega⟩⟩,by omega,by omega,by omega⟩
theorem am2 (h:Wd w):3<=w.heap.size:=by
 have:=aHQ w _ (h.tabs.2 0 (by omega)).1;exact this
theorem law_any (n:Int)(lv:Value)(xs:List Int)(w:World)(hn:-9223372036854775808<=n/\n<=9223372036854775807)(hh:lv.oneCell'=true)(hi:aC w lv xs)(hb:∀x∈xs,-9223372036854775808<=x/\x<=9223372036854775807)(hc:Wd w):
  Calls prog 3 #[.int .i64 n,lv] w fun e w'=>e=.returned (.bool true)/\Below w.heap.size w w':=by
 have ha:=wU n 40 (by omega)
 have hone:=aeI n hn.1 hn.2
 obtain⟨j,ho⟩:∃j,(dU n 40).toNat=j:=⟨_,rfl⟩
 have hj:j<40:=by omega
 rw[ho]at hone
 have h3:=am2 hc
 refine amS n lv (bA (aI j).rc.nm) (aI j).rc.l w (PNm j) PCm hone rfl (fun u hu=>?_) rfl (by show(aI j).rc.nm.toArray.size<=100;rw[aEX];exact aiE hj) (fun w=>(aeT hj w).mono ?_) (fun w=>(aiD w).mono ?_) fun ep tb ob LC RL a W F=>?_
 ·simp only[Rc.l,aER,aFF,aGX]at hu;rcases hu with rfl|rfl|rfl|rfl|rfl|rfl|rfl|rfl<;>rfl
 ·rintro e w' ⟨pv,sv,nv,mv,rfl,L,b⟩;exact⟨_,rfl,rfl,abN L,⟨pv,sv,nv,mv,rfl,L⟩,b⟩
 ·rintro e w' ⟨v1,v2,v3,rfl,q1,q2,q3,b⟩;exact⟨_,rfl,rfl,aiG q1 q2 q3,⟨v1,v2,v3,rfl,q1,q2,q3⟩,b⟩
 ·obtain⟨pv,sv,nv,mv,v1,v2,v3,I,m1,m2,m3⟩:=am1 hj hi F;have hB:=F.b
  have hr:∀i,-9223372036854775808<=xs.getD i 0/\xs.getD i 0<=9223372036854775807:=fun i=>by
   rw[aD9]
   cases h:xs[i]? with
   |none=>exact⟨by decide,by decide⟩
   |some x=>exact hb x (aE6 h)
  have hS:(UX j).length<=1000:=by
   have:=aiE hj;unfold UX sZ sU;simp only[aD2,aEN,aEW];show 7+(aI j).rc.nm.length+_+_<=_;omega
  refine ah0 hj I hh rfl rfl hr hS (by decide) fun os a1 w1 L=>?_
  obtain⟨⟨⟨vi,vf,vb,va,us,ax,M⟩,H,hl⟩,F1,hd,hp⟩:=L;have hf:∀g,g<w.heap.size->w1.heap[g]?=w.heap[g]?:=fun g hg=>(F1.block g (by have:=hB.size;omega) (by omega)).trans (hB.block g hg)
  show abA.wp prog _ a1 w1;refine amY M H (H8 os mW zR hd).1 (hc.keep fun g hg=>hf g (by omega)) ⟨by omega,by omega,by omega⟩ anZ (fun w2 hq hs=>?_) fun a2 w2 t4 d2 F2=>?_
  ·have:=al3 hj anZ hp hd hq hs;rw[ahO]at this
   have e1:UX j++vM os=sZ j++[10]++(sU++[10]++vM os):=by
    unfold UX;simp only[aEF]
   have e2:atO++pY (aI j).L os mW=tC++[10]++(tC++[10]++pY (fI j).L os mW):=by
    unfold atO;simp only[aEF];rfl
   rw[e1,e2];exact this
  ·refine⟨d2,.bool true,?_,rfl,F2.os.trans (F1.os.trans hB.os),F2.tape.trans (F1.tape.trans hB.tape),F2.output.trans (F1.output.trans hB.output),aEI hB.size (aEI F1.size F2.size),fun k hk=>?_⟩
   ·have:=results_tmp (fn:=Tryz.f3) (t:=4) rfl a2.tmps prog w2;rw[aFZ,t4]at this;exact this
   ·exact(F2.block k (by have:=hB.size;have:=F1.size;omega) (by omega)).trans (hf k hk)
end
end Go.Proofs.YtoeiaflkdcbkdaaGreatDoor
namespace Go.Proofs.YtoeiaflkdcbkdaaGreatDoor.topShell
open Go.ChangeShapes Go.WideShapes Go.ChangeAt Go.RowKit Go.Proofs.Tryz
section
set_option linter.unusedVariables false
variable {w:World}
theorem own:ownKnob prog.godebug=none:=by kernel_rfl
theorem laidOut:laidOutB prog=true:=by kernel_rfl
theorem bd (a:Int)(h:(Lit.int .i64 a).wf=true):-9223372036854775808<=a/\a<=9223372036854775807:=by
 simp[Lit.wf,IntKind.min,IntKind.max,IntKind.signed,IntKind.bits]at h;omega
theorem am7 (hL:laidMetH prog Rows.topShellRow.laid w):Lib.Utf8Tabs 1 2 w:=by
 have hl:laidMet prog (Rows.topShellRow.laid.filter fun x=>x.2.handleName?.isNone) w:=by
  have e:(Rows.topShellRow.laid.filter fun x=>x.2.handleName?.isSome)=[("errors.errorType",Rows.laid_errors_errorType)]:=by kernel_rfl
  unfold laidMetH at hL;rw[e]at hL;exact hL.1
 have m1:("unicode/utf8.first",Lib.firstData)∈(Rows.topShellRow.laid.filter fun x=>x.2.handleName?.isNone):=by
  refine aFJ.2 ⟨?_,by kernel_rfl⟩;show("unicode/utf8.first",Lib.firstData)∈("unicode/utf8.first",Go.Pinned.utf8First)::_;rw[Pinned.utf8First_eq];exact aEH
 have m2:("unicode/utf8.acceptRanges",Lib.acceptData)∈(Rows.topShellRow.laid.filter fun x=>x.2.handleName?.isNone):=by
  refine aFJ.2 ⟨?_,by kernel_rfl⟩;exact aEM _ aEH
 exact utf8Tabs_of_readsT (U8Types.of196 Tryz.laysValid) ⟨by kernel_rfl,by kernel_rfl,by kernel_rfl,by kernel_rfl,by kernel_rfl,by kernel_rfl,by kernel_rfl⟩ (Lib.laidMet.reads hl m1) (Lib.laidMet.reads hl m2)
theorem azN {w':World}(hh:w.heap=w'.heap)(hL:laidMetH prog Rows.topShellRow.laid w)(hS:w'.ShapedOpen prog):Go.Proofs.YtoeiaflkdcbkdaaGreatDoor.Wd w':=
 ⟨am7 (hL.of_heap hh),Tryz.laysM219.s1_3 w' hS⟩
set_option maxRecDepth 100000 in
theorem lifted (os:Os)(started:os.Started)(H:Type)(enc:TypeId×Value->H):
  ReturnsInHanded {} Tryz.checked os 3 .any (fun w args=>(Rows.topShellSpec.pre enc prog Tryz.f3 Rows.topShellRow.domain false w args/\laidMetH prog Rows.topShellRow.laid w)/\sizedMet enc prog Tryz.f3 (OpenSpec.ofChange Rows.topShellSpec) false w args)
   (Rows.topShellSpec.post enc prog Tryz.f3 false true false false):=by
 refine returnsInHanded_of_calls (C:=Tryz.checked) own started (by kernel_rfl) (witness os H enc) ?_
 intro w tape i _ hk _ hr hj _
 obtain⟨_,_,_,fa,hd,_,_,_,_,hb⟩:=hr
 have e:fa=Tryz.f3:=Option.some.inj (hd.symm.trans func3)
 subst e
 obtain⟨⟨⟨ds,gs,before,hw,_⟩,hL⟩,_⟩:=hj
 have hn:=DataW.Whole.of_heap (w':=w.forCall tape i) (by rfl) hw
 have ho:=azN (w':=w.forCall tape i) (by rfl) hL hk
 suffices hc:Calls prog 3 i.args (w.forCall tape i) fun e W'=>∃v,e=.returned v/\Rows.topShellSpec.post enc prog Tryz.f3 false true false false (w.forCall tape i) i.args v W' by
  refine hc.mono fun e W' ⟨v,he,hp⟩=>?_
  subst he;exact ChangeSpec.post_blind hp
 clear hw hL hk hd
 generalize w.forCall tape i=W at *
 generalize i.args=args at *
 generalize w.heap.size=base at *
 have ha:∀(j:Nat) t v,Tryz.f3.params[j]?=some t->args[j]?=some v->Value.okWide prog W .any base t v:=hb
 have hs:=hn
 obtain⟨p,q,hq,hV,rfl,hv,hx⟩:=hn
 have hA:DataW.TrodAll enc prog W 0 (fun _=>true) true Tryz.f3.params.toList args.toList ds p:=hq
 rw[params3]at hA ha
 obtain⟨v0,va,d0,da,p0,q0,hg,rfl,rfl,h0,r0⟩:=trodAll_cons hA
 obtain⟨v1,vb,d1,db,p1,q1,rfl,rfl,rfl,h1,r1⟩:=trodAll_cons r0
 obtain⟨rfl,rfl,rfl⟩:=trodAll_nil r1
 obtain rfl:args=#[v0,v1]:=by cases args;simp_all
 obtain⟨rfl,rfl⟩:=trodVars_none hV
 obtain⟨n,rfl,rfl,rfl,w0⟩:=open_int underlying3 (ha 0 3 v0 rfl rfl) h0
 obtain⟨a1,la,ca,rfl⟩:=okWide_slice underlying22 (ha 1 22 v1 rfl rfl)
 have k1:=h1
 have lb:∀x∈p1,x.block<W.heap.size:=by obtain⟨m,hm⟩:=k1;exact DataW.trod_lt m _ _ _ hm
 obtain⟨l1,i1,wa⟩:∃l:List Int,aC W (.slice a1 la ca) l/\(∀x∈l,-9223372036854775808<=x/\x<=9223372036854775807):=by
  obtain⟨fuel,hf⟩:=h1;rcases open_ints underlying22 underlying3 (by kernel_rfl) hf with⟨hh,_⟩|⟨x,l,c,zs,hh,_,hl,hm,hz,_,hi,ht⟩
  ·simp[Value.cells]at hh;obtain⟨rfl,rfl,rfl⟩:=hh;exact⟨[],aC.nil_ _ _ _ (by omega),by simp⟩
  ·simp[Value.cells]at hh;obtain⟨rfl,rfl,rfl⟩:=hh;simp only[if_true]at hz;unfold maxLen at hm;exact⟨zs.take la,CQ (by omega) (by omega) (by omega) hi,fun y hy=>bd y (ht y (aGJ hy))⟩
 have hc:=Go.Proofs.YtoeiaflkdcbkdaaGreatDoor.law_any n (.slice a1 la ca) l1 W (bd n w0) rfl i1 wa ho
 clear hq hb hA ha hg r0 r1 h1 i1 wa ho
 refine hc.mono fun e W' ⟨he,bel⟩=>?_
 subst he
 exact⟨_,rfl,_,_,_,[],_,[],hs,trodAll_mk1 (shut_bool underlying4 _),
  trodAll_cons_mk (shut_int underlying3 w0) (trodAll_cons_mk (Below.trod laidOut (by kernel_rfl) (aE3 (by kernel_rfl)) k1 bel lb) trodAll_mk0),
  rfl,bel.frame _,fun h=>by cases h⟩
end
set_option maxRecDepth 100000 in
theorem atW:joinedFacts Tryz.pinned.checked.prog 3 Tryz.f3 Rows.topShellSpec Rows.topShellRow=true:=by
 show joinedFacts prog 3 Tryz.f3 Rows.topShellSpec Rows.topShellRow=true;unfold joinedFacts;simp only[aD3];exact⟨⟨⟨⟨⟨⟨⟨⟨⟨⟨⟨⟨⟨⟨⟨⟨⟨⟨⟨⟨⟨⟨⟨⟨⟨⟨⟨⟨⟨⟨⟨aCS,aCT⟩,aCU⟩,aCV⟩,aCW⟩,aCX⟩,aCY⟩,aCZ⟩,aC0⟩,aC1⟩,azO⟩,azP⟩,azQ⟩,azR⟩,azS⟩,azT⟩,azU⟩,azV⟩,azW⟩,azX⟩,azY⟩,azZ⟩,az0⟩,az1⟩,az2⟩,az3⟩,az4⟩,az5⟩,az6⟩,az7⟩,az8⟩,az9⟩
theorem atX:Tryz.pinned.checked.prog.funcNamed Rows.topShellRow.func=some 3:=by kernel_rfl
theorem aAA:Tryz.f3.isInstance Tryz.pinned.checked.prog Rows.topShellRow.origin Rows.topShellRow.targs:=aE3 (by kernel_rfl)
theorem aAB:(Check.packageOf Tryz.f3.name == "main")=false:=by kernel_rfl
theorem aAC:Tryz.f3.isWrapper Tryz.pinned.checked.prog Rows.topShellRow.wrapper Rows.topShellRow.mainSum:=by
 unfold Func.isWrapper;rw[aD4 (aFS.1 aAB)];exact⟨rfl,rfl⟩
set_option maxRecDepth 100000 in
theorem over:Rows.topShellRow.holds Tryz.pinned (OpenSpec.ofChange Rows.topShellSpec):=
 OpenClaim.holds_of_wide 3 Tryz.f3 rfl rfl rfl rfl rfl rfl rfl ⟨rfl,rfl,rfl,rfl,rfl⟩ rfl rfl rfl rfl rfl atX func3 atW
  aAA aAC
  (fun os started H enc _=>lifted os started H enc)
set_option maxRecDepth 100000 in
theorem proved:Rows.TopShellCardSaid:=
 Claim7.holds_tied_plain_at .later [] [.pinned,.data,.handle,.data,.data,.data,.sentinel,.sentinel] true (true,"f5bc3aaeeb608a3b4bd874d66a8f4d2cb788fe4d40baa13fca6db8129891f93a") true over (fun _ h=>by cases h) aAD (fun _ h=>by cases h) atS rfl ⟨rfl,rfl⟩ am8 rfl
  (fun f fn hf ha=>by
    obtain rfl:f=3:=Option.some.inj (am9.symm.trans hf) |>.symm;obtain rfl:fn=Tryz.f3:=(Option.some.inj (func3.symm.trans ha)).symm
    exact⟨aiI,fun j t ht=>by
     rw[params3]at ht;have hm:t∈[3,22]:=by simpa using Array.mem_of_getElem? ht
     exact(show prog.wantsStandIn t=false by simpa using aD7.1 cf_in t hm)⟩)
  anC
end Go.Proofs.YtoeiaflkdcbkdaaGreatDoor.topShell
