/- TopShell, part 34 of 36. -/
import Derived.Test.YtoeiaflkdcbkdaaGreatDoorK25
import Derived.Test.YtoeiaflkdcbkdaaGreatDoorK26
import Derived.Test.YtoeiaflkdcbkdaaGreatDoorK27
import Derived.Test.YtoeiaflkdcbkdaaGreatDoorK28
import Derived.Test.YtoeiaflkdcbkdaaGreatDoorK29
import Derived.Test.YtoeiaflkdcbkdaaGreatDoorK30
import Derived.Test.YtoeiaflkdcbkdaaGreatDoorK31
import Derived.Test.YtoeiaflkdcbkdaaGreatDoorK32
import Derived.Test.YtoeiaflkdcbkdaaGreatDoorK33
import Derived.Test.YtoeiaflkdcbkdaaGreatDoorK24
set_option maxHeartbeats 16000000
set_option linter.unusedVariables false
set_option linter.unusedSimpArgs false
namespace Go.Proofs.YtoeiaflkdcbkdaaGreatDoor
open Go.RowKit Go.Sym Go.Proofs.Tryz
theorem alF (B:aE):∀k,k<40->cD B (locT.getD k bO)=true:=by
 intro k hk
 match k,hk with
 |0,_=>exact av7 B
 |1,_=>exact av8 B
 |2,_=>exact av9 B
 |3,_=>exact awA B
 |4,_=>exact awC B
 |5,_=>exact awD B
 |6,_=>exact awE B
 |7,_=>exact awF B
 |8,_=>exact awG B
 |9,_=>exact awH B
 |10,_=>exact aqB B
 |11,_=>exact aqC B
 |12,_=>exact aqD B
 |13,_=>exact aqE B
 |14,_=>exact aqF B
 |15,_=>exact aqG B
 |16,_=>exact aqH B
 |17,_=>exact aqI B
 |18,_=>exact aqJ B
 |19,_=>exact aqK B
 |20,_=>exact aqL B
 |21,_=>exact aqM B
 |22,_=>exact aqN B
 |23,_=>exact aqO B
 |24,_=>exact aqP B
 |25,_=>exact aqQ B
 |26,_=>exact aqR B
 |27,_=>exact aqS B
 |28,_=>exact aqT B
 |29,_=>exact aqU B
 |30,_=>exact aqV B
 |31,_=>exact aqW B
 |32,_=>exact aqX B
 |33,_=>exact aqY B
 |34,_=>exact aqZ B
 |35,_=>exact aq0 B
 |36,_=>exact aq1 B
 |37,_=>exact aq2 B
 |38,_=>exact aq3 B
 |39,_=>exact aq4 B
 |n+40,h=>omega
theorem NA (B:aE):∀k,k<40->bP B (locT.getD k bO)=true:=by
 intro k hk
 match k,hk with
 |0,_=>exact awK B
 |1,_=>exact awL B
 |2,_=>exact awM B
 |3,_=>exact awN B
 |4,_=>exact awO B
 |5,_=>exact awP B
 |6,_=>exact awQ B
 |7,_=>exact awR B
 |8,_=>exact awS B
 |9,_=>exact awT B
 |10,_=>exact aq7 B
 |11,_=>exact aq8 B
 |12,_=>exact aq9 B
 |13,_=>exact arA B
 |14,_=>exact arD B
 |15,_=>exact arF B
 |16,_=>exact arG B
 |17,_=>exact arH B
 |18,_=>exact arJ B
 |19,_=>exact arK B
 |20,_=>exact arL B
 |21,_=>exact arM B
 |22,_=>exact arN B
 |23,_=>exact arO B
 |24,_=>exact arQ B
 |25,_=>exact arR B
 |26,_=>exact arS B
 |27,_=>exact arT B
 |28,_=>exact arU B
 |29,_=>exact arV B
 |30,_=>exact arX B
 |31,_=>exact arY B
 |32,_=>exact arZ B
 |33,_=>exact ar0 B
 |34,_=>exact ar1 B
 |35,_=>exact ar2 B
 |36,_=>exact ar3 B
 |37,_=>exact ar4 B
 |38,_=>exact ar5 B
 |39,_=>exact ar6 B
 |n+40,h=>omega
section
variable {B:aE}{d:Nat}{G:Nat->Prop}{w w':World}{ρ':Env}{m':M}{x:Value}{D:eB}
theorem XA:(List.range 10).all (fun d=>Lib.validD [UInt8.ofNat (48+d)])=true:=by kernel_rfl
theorem asE (hd:d<10):aK B prog (ofE d):=by
 refine⟨uC [_],fun w hu xs ha=>?_⟩;obtain⟨y0,_,rfl,a0,rfl⟩:=ha;rw[show y0=_ from a0];refine(ENames.of_any _ (by omega) (by omega) w).mono ?_;rintro e w' ⟨rfl,hb⟩;refine⟨_,rfl,⟨[_,_],rfl,_,_,rfl,rfl,_,_,rfl,?_,rfl⟩,hb⟩;show Value.int .i64 (((48+d:Nat):Int)-48)=.int .i64 d;congr 1;omega
theorem af8 (ha:∀i x,B.A i=some x->i%2≠1)(hd:d<10):aK B prog (FS 393 [.int .i64 ((48+d:Nat):Int)] (.int .i64 0)):=by
 refine zA ha qH ?_;rcases aEU d 5 with h|h
 ·exact aD7.1 (awU B) d (aEE.2 h)
 ·obtain⟨k,rfl⟩:∃k,d=5+k:=⟨d-5,by omega⟩;have:=aD7.1 (awV B) k (aEE.2 (by omega));rw[show 48+(5+k)=53+k by omega];exact this
theorem aaW {ρ:Env}{d:Int}{vs:List Value}(h:gT ρ B G w [.p (.val (.int .i64 d))] vs):∃r,vs=.int .i64 d::r:=by
 obtain⟨y,r,rfl,h1,_⟩:=h;exact⟨r,by rw[show y=_ from h1]⟩
theorem alN {ρ0:Env}(O:Out B G ρ0 w ρ' m' w'){b o n sz:Nat}{c:Cap}{d:Int}(h1:CV (.rox b 1 1) (.slc b o n sz c)=true)(h2:dE m' b 3 [.p (.val (.int .i64 d))]=true)(hx:aO ρ' (.slc b o n sz c)=some x):
  aC w' x [d]/\∀g,x.ownBlock=some g->dD ρ' m' g:=by
 obtain⟨g,o1,z,m,c1,hb,rfl,⟨ha,hc⟩,hd⟩:=O.mat (.rox b 1 1) _ x h1 trivial hx
 obtain⟨g2,o2,z2,m2,arr,vs,e1,e2,e3,e4,e5,e6,e7,e8,e9,ea⟩:=O.block h2 ⟨trivial,trivial⟩
 rw[hb]at e1
 injection e1 with e1
 injection e1 with d1 e1
 injection e1 with d2 e1
 injection e1 with d3 d4
 subst d1 d2 d3 d4
 obtain⟨r,rfl⟩:=aaW e7
 refine⟨⟨_,c1,rfl,ha,hc,fun _=>⟨g,o1,rfl,fun j hj=>?_⟩⟩,fun g' hg=>?_⟩
 ·have:j=0:=by simp at hj;omega
  subst this;rw[aHM w' g _ _ _ _ e3,ea 0 Nat.one_pos];rfl
 ·simp[Value.ownBlock]at hg;subst hg;exact e2
theorem ls7 (hA:B.A (gid 7)=some D.gh)(h:fG B G w (.ls 7) x):DW G w x D.fam:=by
 obtain⟨_,_,gh,h1,h2⟩:=h;rw[hA]at h1;injection h1 with h1
 subst h1;have:DW G w x D.fam.toArray.toList:=h2;rwa[aF3]at this
section
variable {D:eB}(K:qI D)(F:∀B,bP B D=true)
include K F
theorem XB (hA:B.A (gid 7)=some D.gh)(hd:d<10):aK B prog (T8 d (D.sgn d)):=by
 refine⟨⟨⟨by decide,_,hA⟩,trivial,trivial⟩,fun w hu xs ha=>?_⟩;obtain⟨x,_,rfl,hx,y,_,rfl,hy,rfl⟩:=ha;rw[show y=_ from hy];refine(alJ K F (ls7 hA hx) hd).mono ?_;rintro e w' ⟨rfl,hb⟩;exact⟨_,rfl,rfl,hb⟩
theorem asF (ha:∀i x,B.A i=some x->i%2≠1)(hA:B.A (gid 7)=some D.gh)(hG:DC B)(hd:d<10):∀e∈rdE d (D.sgn d),aK B prog e:=
 aD (XB K F hA hd) (aD (asE hd) (aD (af8 ha hd) (aD (uS hG (aD7.1 XA d (aEE.2 hd)) (by simp)) aH)))
end
theorem alP (D:eB)(d:Nat):D.sgn d=d∨D.sgn d= -1:=by
 unfold eB.sgn;split
 ·exact .inl rfl
 ·exact .inr rfl
def GL (B:aE)(gh:Value):aE:=⟨B.K,B.W,OP [(gid 7,gh)]⟩
theorem zO (B:aE)(gh:Value):∀i x,(GL B gh).A i=some x->i%2≠1:=qY (l:=[(gid 7,gh)]) (by kernel_rfl)
theorem QV (K:qI D)(F:∀B,bP B D=true)(hA:B.A (gid 7)=some D.gh)(hG:DC B)(hd:d<10){f:FuncId}{chk:AV->M->Bool}(h1:∀B,pX B f d d chk=true)(h2:∀B,pX B f d (-1) chk=true)(hu:eN B w){lp y:Value}(hx:fG B (fun _=>True) w (.ls 7) lp)(hy:y=jK d):
  Calls prog f #[lp,y] w fun e w'=>∃x ρ' r m',e=.returned x/\chk r m'=true/\aO ρ' r=some x/\Out (GL B D.gh) (fun _=>True) (Env.ini (GL B D.gh) (fun _=>none) fun _=>none) w ρ' m' w':=by
 have h:pX (GL B D.gh) f d (D.sgn d) chk=true:=by
  rcases alP D d with e|e<;>rw[e]
  ·exact h1 _
  ·exact h2 _
 unfold pX at h
 refine BA (zO B D.gh) (bY fS (bB (asF K F (zO B D.gh) rfl (GK hG rfl rfl) hd))) (ib:=[]) (ps:=T9 d) rfl rfl h (aES _) (fun _=>none) (fun _=>none) (fun _ _=>rfl) (fun _ _=>rfl) (fun _ _ _ _ hb=>by cases hb) w (xR hu rfl rfl) (fun _ _ hb=>by cases hb) (G:=fun _=>True) (fun _ _ hb=>by cases hb) (fun j x hj=>by simp at hj) [lp,y] ⟨lp,_,rfl,?_,y,_,rfl,hy,rfl⟩
 obtain⟨q1,q2,gh,q3,q4⟩:=hx
 rw[hA]at q3
 injection q3 with q3
 subst q3
 exact⟨q1,q2,_,rfl,q4⟩
theorem l7 (O:Out B G (Env.ini B (fun _=>none) fun _=>none) w ρ' m' w'):Below w.heap.size w w':=⟨O.os,O.tape,O.output,O.size,fun k hk=>O.keep k hk fun j q hq=>by cases hq⟩
theorem GM (O:Out B G (Env.ini B (fun _=>none) fun _=>none) w ρ' m' w'){g:Nat}(h:dD ρ' m' g):w.heap.size<=g:=by
 rcases O.live g h with h|⟨j,q,hq,_⟩
 ·exact h
 ·cases hq
theorem af9 (K:qI D)(F:∀B,bP B D=true)(hA:B.A (gid 7)=some D.gh)(hG:DC B)(hd:d<10):aK B prog ⟨473,[.ls 7,.val (jK d)],.val (.bool false)⟩:=by
 refine⟨⟨⟨by decide,_,hA⟩,trivial,trivial⟩,fun w hu xs ha=>?_⟩;obtain⟨x,_,rfl,hx,y,_,rfl,hy,rfl⟩:=ha;refine(QV K F hA hG hd (fun B=>aD7.1 (asC B) d (aEE.2 hd)) (fun B=>aD7.1 (asD B) d (aEE.2 hd)) hu hx hy).mono ?_;rintro e w' ⟨x,ρ',r,m',rfl,hk,hx,O⟩;exact⟨x,rfl,jL hk hx,l7 O⟩
theorem agA (K:qI D)(F:∀B,bP B D=true)(hA:B.A (gid 7)=some D.gh)(hG:DC B)(hd:d<10)(h6:cG B 6 [(d:Int)]):aK B prog ⟨476,[.ls 7,.val (jK d)],.tup [.agg [.val (.bool false),.ls 6],.val (.int .i64 0)]⟩:=by
 refine⟨⟨⟨by decide,_,hA⟩,trivial,trivial⟩,fun w hu xs ha=>?_⟩;obtain⟨x,_,rfl,hx,y,_,rfl,hy,rfl⟩:=ha;refine(QV K F hA hG hd (fun B=>aD7.1 (asA B) d (aEE.2 hd)) (fun B=>aD7.1 (asB B) d (aEE.2 hd)) hu hx hy).mono ?_;rintro e w' ⟨x,ρ',r,m',rfl,hk,hx,O⟩;refine⟨x,rfl,?_,l7 O⟩;unfold NB at hk;split at hk
 case h_2=>cases hk
 rename_i a b o n sz c e;simp only[aD3]at hk;obtain⟨c1,c2,c3,c4⟩:=hk;unfold aO at hx;split at hx
 case h_2=>cases hx
 rename_i ys hb;injection hx with hx
 subst hx;obtain⟨u,r1,k1,k2,rfl⟩:=aG.1 hb;obtain⟨e2,r2,k3,k4,rfl⟩:=aG.1 k2
 have:r2=[]:=by
  unfold aT at k4;injection k4 with k4
  exact k4.symm
 subst this;unfold aO at k1;split at k1
 case h_2=>cases k1
 rename_i zs hc;injection k1 with k1
 subst k1;obtain⟨u1,s1,j1,j2,rfl⟩:=aG.1 hc;obtain⟨u2,s2,j3,j4,rfl⟩:=aG.1 j2
 have:s2=[]:=by
  unfold aT at j4;injection j4 with j4
  exact j4.symm
 subst this;obtain⟨I1,I2⟩:=alN O c3 c4 j3;exact⟨[_,_],rfl,_,_,rfl,⟨[_,_],rfl,_,_,rfl,jL c1 j1,_,_,rfl,kM h6 I1 (fun _ g hg=>GM O (I2 g hg)),rfl⟩,_,_,rfl,jL c2 k3,rfl⟩
theorem asG (K:qI D)(R:∀B,cD B D=true)(F:∀B,bP B D=true):sQ D.rc D.gh:=by
 refine⟨fun B hA hR=>⟨⟨⟨by decide,_,hA⟩,trivial⟩,fun w hu xs ha=>?_⟩,fun B d hd hA hG=>af9 K F hA hG hd,fun B d hd hA hG h6=>agA K F hA hG hd h6,fun B hA hR hG=>ak9 R K.dg hA hR hG⟩;obtain⟨x,_,rfl,hx,rfl⟩:=ha;refine(WZ K F (ls7 hA hx)).mono ?_;rintro e w' ⟨rfl,hb⟩;refine⟨_,rfl,?_,hb⟩;obtain⟨h0,h1,h2,h3,h4,h5,h6,h7⟩:=hR.t;exact⟨D.rc.l,rfl,_,_,rfl,CA h0 rfl,_,_,rfl,CA h1 rfl,_,_,rfl,CA h2 rfl,_,_,rfl,CA h3 rfl,_,_,rfl,CA h4 rfl,_,_,rfl,CA h5 rfl,_,_,rfl,CA h6 rfl,_,_,rfl,CA h7 rfl,rfl⟩
end
section
variable {k:Nat}
theorem zP (hk:k<40):qI (locT.getD k bO):=by
 refine aaV (aD7.1 alG _ ?_);have h:k<locT.length:=hk;rw[aD9,aEB h];exact aG3 h
theorem DP (hk:k<40):sQ (locT.getD k bO).rc (locT.getD k bO).gh:=asG (zP hk) (fun B=>alF B k hk) (fun B=>NA B k hk)
theorem nQ (hk:k<40):WW (locT.getD k bO).rc (locT.getD k bO).gh (locT.getD k bO).L:=ar7 (zP hk) (fun B=>NA B k hk)
end
section
variable {B:aE}{G:Nat->Prop}{w:World}
def CM (l:List Value):List PC:=l.map fun x=> .p (.val x)
theorem GR:∀l:List Value,hU B (CM l)
 |[]=>trivial
 |_::l=>⟨trivial,GR l⟩
theorem Q7 {ρ0:Env}:∀l:List Value,lY ρ0 B G w (CM l) l
 |[]=>rfl
 |x::l=>⟨x,l,rfl,rfl,Q7 l⟩
theorem BN {ρ:Env}:∀{l vs:List Value},gT ρ B G w (CM l) vs->vs.length=l.length->vs=l
 |[],vs,_,hl=>aD8 hl
 |x::l,_,h,hl=>by
  obtain⟨y,r,rfl,h1,h2⟩:=h;rw[show y=_ from h1,BN h2 (by simpa using hl)]
def cfL:List Value:=[iY 0,iY 1,iY 2,iY 3,iY 4,iY 5,iY 6,iY 7,iY 8,iY 9,.pointer none]
def shV (rc:Rc):List Value:=rc.l++cfL
def fI (k:Nat):eB:=locT.getD k bO
def Q8 (r:AV)(m:M):Bool:=match r with
 |.ptr b o=>Nat.beq o 0&&GO m b 131 (CM (shV (fI 12).rc))
 |_=>false
noncomputable def Q9 (B:aE):Bool:=match dR B iT (bT [agL 12]) 28 [] {}with
 |some (r,m)=>Q8 r m
 |none=>false
theorem aa0 (B:aE):Q9 B=true:=by kernel_rfl
set_option maxRecDepth 100000 in
theorem aw2 (w:World)(h3:3<=w.heap.size):Calls prog 28 #[] w fun e w'=>∃sh,e=.returned (.pointer (some ⟨sh,0,none⟩))/\UD (fun g=>w.heap.size<=g/\g<w'.heap.size) w' sh (fI 12).rc/\Below w.heap.size w w':=by
 have h:=aa0 (QR w);unfold Q9 at h;split at h
 case h_2=>cases h
 rename_i r m hr;refine(WS (B:=QR w) (fun _ _ h=>by cases h) (bY fS (bB (aD (Q6 (by omega)) aH))) hr ⟨fun _ h=>False.elim h,fun _ h=>False.elim h⟩ (xs:=#[]) rfl).mono ?_;rintro e w' ⟨x,ρ',rfl,hx,O⟩;unfold Q8 at h;split at h
 case h_2=>cases h
 rename_i b o;rw[aD3]at h;have:=aEA h.1;subst this;obtain⟨g,z,m2,vs,h1,h2,ha,h4,h5,h6⟩:=Out.blockX O h.2 (GR _);have:=BN h4 (by simpa [CM]using h5);subst this;have hb:Below w.heap.size w w':=l7 O;have hl:=(aD5.1 ha).1;refine⟨g,?_,⟨ha,⟨GM O h2,hl⟩,fun g hg=>hg.2,fun g hg=>aEI h3 hg.1,aEI h3 O.size⟩,hb⟩;unfold aO at hx;rw[h1]at hx;injection hx with hx
 rw[<-hx]
def sZ (k:Nat):List UInt8:=[108,111,99,97,108,101,32]++(fI k).rc.nm
def XD (k:Nat)(r:AV)(m:M):Bool:=fN 0 (.val (sB tC)) r&&GO m 0 131 (CM (shV (fI k).rc))
def shB:IB:=⟨131,CM (shV (fI 12).rc),true⟩
noncomputable def ND (B:aE)(k:Nat):Bool:=
 match dR B iT (bT [agL k]) 30 (bX (bQ 2 [shB]).2 [.ptr 0,.p (.val (sB (sZ k)))]).1 {H:=tB (bQ 2 [shB]).1,nb:=[shB].length,nc:=(bX (bQ 2 [shB]).2 [.ptr 0,.p (.val (sB (sZ k)))]).2}with
 |some (r,m)=>XD k r m
 |none=>false
set_option maxRecDepth 100000 in
theorem agM {k:Nat}(hk:k<40)(ha:∀B,ND B k=true){F:Nat->Prop}{sh:Nat}(V:UD F w sh (fI 12).rc):
  Calls prog 30 #[.pointer (some ⟨sh,0,none⟩),sB (sZ k)] w fun e w'=>e=.returned (sB tC)/\UD (F' F w w') w' sh (fI k).rc/\Kp F w w':=by
 have ha:=ha (QR w)
 unfold ND at ha
 have hlen:sh<w.heap.size:=(aD5.1 V.e).1
 refine(BA (B:=QR w) (fun _ _ h=>by cases h) (bY fS (bB (aD (Q6 hk) aH))) (ib:=[shB]) (ps:=[.ptr 0,.p (.val (sB (sZ k)))]) rfl rfl ha (by decide) (fun i=>if i=0 then some (sh,0,19,19)else none) (fun _=>none) (fun i hi=>aD4 (by simp at hi;omega)) (fun _ _=>rfl) (fun b b' q q' h1 h2 hb=>by
  split at h1<;>split at h2<;>simp_all) w ⟨fun g hg=>False.elim hg,fun _ hg=>False.elim hg⟩ (fun _ _ _ h=>h) (G:=fun _=>False) (fun _ _ _ h=>h) (fun j x hj=>?_) [.pointer (some ⟨sh,0,none⟩),sB (sZ k)] ⟨_,_,rfl,gD (by rfl),_,_,rfl,rfl,rfl⟩).mono ?_
 ·cases j with
  |succ j=>simp at hj
  |zero=>
   injection hj with hj
   subst hj
   refine⟨sh,0,19,_,shV (fI 12).rc,by rfl,V.e,rfl,by decide,Q7 _,fun v hv=>?_,fun i hi=>by simp[shV,cfL],fun _=>⟨rfl,rfl⟩⟩
   simp[shV,cfL,Rc.l,iY]at hv
   rcases hv with rfl|rfl|rfl|rfl|rfl|rfl|rfl|rfl|rfl|rfl|rfl|rfl|rfl|rfl|rfl|rfl|rfl|rfl|rfl<;>rfl
 rintro e w' ⟨x,ρ',r,m',rfl,hc,hx,O⟩
 unfold XD at hc
 rw[aD3]at hc
 have f0:ρ'.blk 0=some (sh,0,19,19):=O.fix 0 _ (by rfl)
 have hk:Kp F w w':=⟨O.os,O.tape,O.output,O.size,fun k hk hn=>O.keep k hk fun j q hq e=>by
  simp only[Env.ini]at hq;split at hq
  ·injection hq with hq;subst hq
   exact hn (by rw[<-e];exact V.inF)
  ·cases hq⟩
 obtain⟨g,z,m2,vs,h1,h2,h3,h4,h5,h6⟩:=Out.blockX O hc.2 (GR _)
 rw[f0]at h1
 injection h1 with h1
 injection h1 with h1 _
 subst h1
 have:=BN h4 (by simpa [CM]using h5)
 subst this
 refine⟨by rw[jL hc.1 hx],⟨h3,.inl V.inF,fun g hg=>?_,fun g hg=>?_,aEI V.l0 O.size⟩,hk⟩
 ·rcases hg with hg|hg
  ·exact aEL (V.lt g hg) O.size
  ·exact hg.2
 ·rcases hg with hg|hg
  ·exact V.lo g hg
  ·exact aEI V.l0 hg.1
end
theorem aa1 (B:aE):(List.range 20).all (fun k=>ND B k)=true:=by kernel_rfl
theorem aa2 (B:aE):(List.range 20).all (fun k=>ND B (20+k))=true:=by kernel_rfl
theorem RD {k:Nat}(hk:k<40){w:World}{F:Nat->Prop}{sh:Nat}(V:UD F w sh (fI 12).rc):
  Calls prog 30 #[.pointer (some ⟨sh,0,none⟩),sB (sZ k)] w fun e w'=>e=.returned (sB tC)/\UD (F' F w w') w' sh (fI k).rc/\Kp F w w':=by
 refine agM hk (fun B=>?_) V
 rcases aEU k 20 with h|h
 ·exact aD7.1 (aa1 B) k (aEE.2 h)
 ·obtain⟨j,rfl⟩:∃j,k=20+j:=⟨k-20,by omega⟩;exact aD7.1 (aa2 B) j (aEE.2 (by omega))
def agN (n:Nat):AV->Bool
 |.slc _ _ k _ _=>Nat.beq k n
 |.lit (.slice _ k _)=>Nat.beq k n
 |_=>false
noncomputable def sK (B:aE)(l:List UInt8)(n:Nat):Bool:=match dR B iT mJ 31 [.lit (sB l)] {}with
 |some (r,_)=>agN n r
 |none=>false
theorem kE {l:List UInt8}{n:Nat}(h0:∀B,sK B l n=true)(w:World):Calls prog 31 #[sB l] w fun e w'=>∃A c,e=.returned (.slice A n c)/\Below w.heap.size w w':=by
 have h:=h0 (QR w);unfold sK at h;split at h
 case h_2=>cases h
 rename_i r m hr;refine(WS (B:=QR w) (fun _ _ h=>by cases h) (bY fS qH) hr ⟨fun _ h=>False.elim h,fun _ h=>False.elim h⟩ (xs:=#[sB l]) rfl).mono ?_;rintro e w' ⟨x,ρ',rfl,hx,O⟩;have hb:Below w.heap.size w w':=l7 O;unfold agN at h;split at h
 ·have:=aEA h;subst this;rename_i b o k sz c;unfold aO fT at hx
  cases c with
  |ex c=>
   simp only at hx
   split at hx
   ·split at hx
    ·injection hx with hx;subst hx;exact⟨_,_,rfl,hb⟩
    ·cases hx
   ·cases hx
  |lo i j=>
   simp only at hx
   split at hx
   ·split at hx
    ·injection hx with hx;subst hx;exact⟨_,_,rfl,hb⟩
    ·cases hx
   ·cases hx
 ·have:=aEA h;subst this;unfold aO at hx;injection hx with hx
  subst hx;exact⟨_,_,rfl,hb⟩
 ·cases h
def KL:List UInt8:=[116,121,112,101,32,49,50,51,52]
theorem agO (B:aE):(List.range 20).all (fun k=>sK B (sZ k) 2)=true:=by kernel_rfl
theorem agP (B:aE):(List.range 20).all (fun k=>sK B (sZ (20+k)) 2)=true:=by kernel_rfl
theorem alY (B:aE):(List.range 10).all (fun k=>sK B (lE k) 2)=true:=by kernel_rfl
theorem RE (B:aE):sK B sU 1=true:=by kernel_rfl
theorem NF (B:aE):[jO,tY,KL].all (fun l=>sK B l 2)=true:=by kernel_rfl
theorem DR (B:aE):[lF,nE,sS,wAt].all (fun l=>sK B l 1)=true:=by kernel_rfl
theorem alZ (B:aE):sK B [] 0=true:=by kernel_rfl
section
def mX (told:Nat->List UInt8)(wn:Nat->Nat):Nat->List UInt8
 |0=>[]
 |k+1=>mX told wn k++(if 0<wn k then told k++[10]else [])
structure KM (ls:List (List UInt8)) (told:Nat->List UInt8) (wn:Nat->Nat) (Inv:Nat->(Nat->Prop)->World->Nat->Prop):Prop where
 start:∀F w sh,UD F w sh (fI 12).rc->Inv 0 F w sh
 line:∀k l,ls[k]?=some l->∀F w sh,Wd w->Inv k F w sh->Calls prog 30 #[.pointer (some ⟨sh,0,none⟩),sB l] w fun e w'=>e=.returned (sB (told k))/\Inv (k+1) (F' F w w') w' sh/\Kp F w w'
 words:∀k l,ls[k]?=some l->∀w,Calls prog 31 #[sB l] w fun e w'=>∃A c,e=.returned (.slice A (wn k) c)/\Below w.heap.size w w'
 keep:∀k F w w' sh,Inv k F w sh->w.heap.size<=w'.heap.size->(∀g,F g->w'.heap[g]?=w.heap[g]?)->Inv k F w' sh
 lt:∀k F w sh,Inv k F w sh->∀g,F g->g<w.heap.size
 lo:∀k F w sh,Inv k F w sh->∀g,F g->3<=g
theorem Wd.keep {w w':World}(h:Wd w)(hk:∀g,g<3->w'.heap[g]?=w.heap[g]?):Wd w':=by
 have hc:∀p:Addr,p.block<3->w'.cell? p=w.cell? p:=fun p hp=>by
  unfold World.cell?;rw[hk _ hp]
 obtain⟨m,hm⟩:=h.most;exact⟨⟨fun c hx=>by rw[hc _ (show 1<3 by omega)];exact h.tabs.1 c hx,fun i hi=>⟨by rw[hc _ (show 2<3 by omega)];exact(h.tabs.2 i hi).1,by rw[hc _ (show 2<3 by omega)];exact(h.tabs.2 i hi).2⟩⟩,m,by rw[hc _ (show 0<3 by omega)];exact hm⟩
structure CZ (Inv:Nat->(Nat->Prop)->World->Nat->Prop) (w:World) (rows:Array Value) (sh b rb:Nat) (out:List UInt8) (k:Nat) (F:Nat->Prop) (v:Value) (wr:World):Prop where
 inv:Inv k F wr sh
 bld:UB w.heap.size b v out wr
 row:wr.heap[rb]?=some (.cells rows 9 (0,0))
 fb:¬F b
 fr:¬F rb
 fv:∀g,v.ownBlock=some g->¬F g
 vr:v.ownBlock≠some rb
 rne:rb≠b
 fw:∀g,F g->w.heap.size<=g
 bl:Below w.heap.size w wr
 wd:Wd wr
 hrb:w.heap.size<=rb
 size:w.heap.size<=wr.heap.size
section
variable {ls:List (List UInt8)}{told:Nat->List UInt8}{wn:Nat->Nat}{Inv:Nat->(Nat->Prop)->World->Nat->Prop}{w:World}{rows:Array Value}{sh b rb k:Nat}{out:List UInt8}{F:Nat->Prop}{v:Value}{wr w':World}
theorem UB.own_lt {B:Nat}{bs:List UInt8}(h:UB B b v bs w):∀g,v.ownBlock=some g->g<w.heap.size/\B<=g:=by
 intro g hg;rcases h.own.2 with⟨rfl,_⟩|⟨g',cap,cur,rfl,k1,k2,_⟩
 ·cases hg
 ·simp[Value.ownBlock]at hg;subst hg;exact⟨(aD5.1 k2).1,k1⟩
theorem CZ.line (S:KM ls told wn Inv)(h:CZ Inv w rows sh b rb out k F v wr)(h3:3<=w.heap.size)(hi:Inv (k+1) (F' F wr w') w' sh)(hk:Kp F wr w'):CZ Inv w rows sh b rb out (k+1) (F' F wr w') v w':=by
 have hb:=h.bld.lt;have hc:rb<wr.heap.size:=(aD5.1 h.row).1;have ha:=fun g hg=>(h.bld.own_lt g hg).1
 refine⟨hi,h.bld.keep (hk.keep b hb h.fb) fun g hg=>hk.keep g (ha g hg) (h.fv g hg),(hk.keep rb hc h.fr).trans h.row,?_,?_,fun g hg=>?_,h.vr,h.rne,(fun g hf=>by rcases hf with hf|hf;exact h.fw g hf;have:=h.size;omega),⟨hk.os.trans h.bl.os,hk.tape.trans h.bl.tape,hk.output.trans h.bl.output,aEI h.bl.size hk.size,fun g hg=>?_⟩,h.wd.keep fun g hg=>hk.keep g (by have:=h.size;omega) (fun hf=>?_),h.hrb,aEI h.size hk.size⟩
 ·rintro(hf|hf)
  ·exact h.fb hf
  ·omega
 ·rintro(hf|hf)
  ·exact h.fr hf
  ·omega
 ·rintro(hf|hf)
  ·exact h.fv g hg hf
  ·have:=ha g hg;omega
 ·have:=h.bl.size;rw[hk.keep g (by omega) (fun hf=>by have:=h.fw g hf;omega)];exact h.bl.block g hg
 ·have:=S.lo _ _ _ _ h.inv g hf;omega
theorem CZ.below (S:KM ls told wn Inv)(h:CZ Inv w rows sh b rb out k F v wr)(hb:Below wr.heap.size wr w')(h3:3<=w.heap.size):CZ Inv w rows sh b rb out k F v w':=by
 have ha:=h.bld.lt;have hc:rb<wr.heap.size:=(aD5.1 h.row).1;exact⟨S.keep _ _ _ _ _ h.inv hb.size (fun g hg=>hb.block g (S.lt _ _ _ _ h.inv g hg)),h.bld.keep (hb.block b ha) fun g hg=>hb.block g (h.bld.own_lt g hg).1,(hb.block rb hc).trans h.row,h.fb,h.fr,h.fv,h.vr,h.rne,h.fw,h.bl.trans (hb.mono h.size),h.wd.keep fun g hg=>hb.block g (by have:=h.size;omega),h.hrb,aEI h.size hb.size⟩
theorem CZ.write (S:KM ls told wn Inv)(h:CZ Inv w rows sh b rb out k F v wr)(h3:3<=w.heap.size){v':Value}{oa:List UInt8}(hB:UB w.heap.size b v' oa w')(hn:QX wr v v')(o:w'.os=wr.os)(t:w'.tape=wr.tape)(u:w'.output=wr.output)(hs:wr.heap.size<=w'.heap.size)(hk:∀g,g<wr.heap.size->g≠b->v.ownBlock≠some g->w'.heap[g]?=wr.heap[g]?):CZ Inv w rows sh b rb oa k F v' w':=by
 have hb:rb<wr.heap.size:=(aD5.1 h.row).1;have ha:=S.lt _ _ _ _ h.inv;have hc:=h.bld.hB;have hF:∀g,F g->w'.heap[g]?=wr.heap[g]?:=fun g hg=>hk g (ha g hg) (fun e=>h.fb (by rw[<-e];exact hg)) fun e=>h.fv g e hg
 refine⟨S.keep _ _ _ _ _ h.inv hs hF,hB,(hk rb hb h.rne h.vr).trans h.row,h.fb,h.fr,fun g hg hf=>?_,?_,h.rne,h.fw,⟨o.trans h.bl.os,t.trans h.bl.tape,u.trans h.bl.output,aEI h.bl.size hs,fun g hg=>?_⟩,h.wd.keep fun g hg=>hk g (by have:=h.size;omega) (by omega) (fun e=>?_),h.hrb,aEI h.size hs⟩
 ·rcases hn with e|e|e
  ·exact h.fv g (by rw[<-e];exact hg) hf
  ·rw[e]at hg;cases hg
  ·rw[e]at hg;injection hg with hg;have:=ha g hf;omega
 ·rcases hn with e|e|e
  ·rw[e];exact h.vr
  ·rw[e];exact fun h=>by cases h
  ·rw[e];intro h;injection h with h
   omega
 ·have hd:=h.size;rw[hk g (by omega) (by omega) (fun e=>by have:=(h.bld.own_lt g e).2;omega)];exact h.bl.block g hg
 ·have:=(h.bld.own_lt g e).2;omega
end
end
section
variable {ls:List (List UInt8)}
theorem agQ:(prog.info? 9).map (fun i=>(i.zero,i.size,i.bytes))=some (some (.string ByteArray.empty),1,16):=by kernel_rfl
theorem aa3 (ha:ls≠[])(hb:∀l∈ls,(10:UInt8)∉l)(hlen:(eY ls).length<=1000000)(W:World)(m:Int)(hm:W.cell? ⟨0,0,none⟩=some (.int .i64 m)):
  Calls prog 29 #[.string ⟨(eY ls).toArray⟩,.string ⟨#[10]⟩] W fun e w'=>e=.returned (.slice (some ⟨W.heap.size,0,none⟩) ls.length ls.length)/\w'=W.alloc (.cells (ls.map fun l=>Value.string ⟨l.toArray⟩).toArray 9):=by
 obtain⟨h1,h2⟩:=UA ha hb
 refine(Any.strings_Split Tryz.laysSplit agQ ⟨(eY ls).toArray⟩ ⟨#[10]⟩ m W (by show(eY ls).toArray.size<_;simp;omega) hm (by decide)).mono ?_
 rintro e w' ⟨rfl,rfl⟩
 rw[h1,h2]
 exact⟨rfl,rfl⟩
theorem agR {W:World}{rb:Nat}(h:W.heap[rb]?=some (.cells (ls.map fun l=>Value.string ⟨l.toArray⟩).toArray 9 (0,0))){k:Nat}{l:List UInt8}(hl:ls[k]?=some l):W.cell? ⟨rb,k,none⟩=some (.string ⟨l.toArray⟩):=by
 simp[World.cell?,h,hl]
theorem al0 (a b:List UInt8):(⟨a.toArray⟩:ByteArray)++(⟨b.toArray⟩:ByteArray)=⟨(a++b).toArray⟩:=by
 apply ByteArray.ext;simp[ByteArray.data_append]
set_option maxRecDepth 100000 in
theorem XE {told:Nat->List UInt8}{wn:Nat->Nat}{Inv:Nat->(Nat->Prop)->World->Nat->Prop}(S:KM ls told wn Inv)(ht:ls≠[])(hv:∀l∈ls,(10:UInt8)∉l)(hn:ls.length<=100)(hlen:(eY ls).length<=1000000)(hf:∀k,k<=ls.length->(mX told wn k).length<=1000000)(w:World)(hw:Wd w)(h3:3<=w.heap.size):
  Calls prog 13 #[.string ⟨(eY ls).toArray⟩] w fun e w'=>e=.returned (sB (mX told wn ls.length))/\Below w.heap.size w w':=by
 obtain⟨M,hM⟩:=hw.most
 have Hc:=aHL (fun W (hc:W.cell? ⟨0,0,none⟩=some (.int .i64 M))=>aa3 ht hv hlen W M hc)
 have HO:=aHL hf
 obtain⟨n,ho⟩:∃n,ls.length=n:=⟨_,rfl⟩
 have HL:Hid (∀k,k<n->∃l,ls[k]?=some l):=fun k hk=>⟨_,aEB (show k<ls.length by omega)⟩
 have HN:=aHL ho
 obtain⟨rows,ha⟩:∃rows,(ls.map fun l=>Value.string ⟨l.toArray⟩).toArray=rows:=⟨_,rfl⟩
 have HR:=aHL ha
 obtain⟨s,hs⟩:∃s:ByteArray,⟨(eY ls).toArray⟩=s:=⟨_,rfl⟩
 rw[ho,ha,hs]at Hc
 rw[ho]at hn⊢
 rw[hs]
 have HM:=aHL hM
 have HW:=aHL hw
 clear hM hw hf ha hs ho hv hlen ht
 go_enter func13,ntmps13
 go_wp2_with(first
  |(go_at_call 28;refine(aw2 w h3).mono ?_;rintro e w1 ⟨sh,rfl,hx,hq⟩
    have Hd:=aHL hx
    have Hb:=aHL hq
    have hp:=hq.size
    clear hx hq))
 have He:Hid (UB w.heap.size w1.heap.size (.slice none 0 0) [] (w1.alloc (Obj.cells #[.pointer none,.slice none 0 0] 89))):=⟨hp,.inl (aHO w1 _),aHN _ _ _ _,fun h=>by cases h⟩
 have Hf:Hid ((w1.alloc (Obj.cells #[.pointer none,.slice none 0 0] 89)).cell? ⟨0,0,none⟩=some (.int .i64 M)):=by
  have hb:Below w.heap.size w (w1.alloc (Obj.cells #[.pointer none,.slice none 0 0] 89)):=Hb.out.alloc hp _;exact(hb.cell (p:=⟨0,0,none⟩) (show 0<w.heap.size by omega)).trans HM.out
 go_wp2_with(go_at_call 29;refine(Hc.out _ Hf.out).mono ?_;rintro e w2 ⟨rfl,hd⟩)
 obtain⟨b,hb⟩:∃b,w1.heap.size=b:=⟨_,rfl⟩
 have R0:Hid (∃F v,CZ Inv w rows sh b (b+1) (mX told wn 0) 0 F v w2):=by
  have z1:(w1.alloc (Obj.cells #[.pointer none,.slice none 0 0] 89)).heap.size=b+1:=by simp[hb]
  have ob:∀g,g<b->(w1.alloc (Obj.cells #[.pointer none,.slice none 0 0] 89)).heap[g]?=w1.heap[g]?:=fun g hg=>aHR w1 _ (by omega)
  have oa:∀g,g<b+1->w2.heap[g]?=(w1.alloc (Obj.cells #[.pointer none,.slice none 0 0] 89)).heap[g]?:=fun g hg=>by rw[hd];exact aHR _ _ (by omega)
  have old:∀g,g<b->w2.heap[g]?=w1.heap[g]?:=fun g hg=>(oa g (by omega)).trans (ob g hg)
  have z2:w2.heap.size=b+2:=by rw[hd];simp[hb]
  have hz:Below w.heap.size w w2:=by rw[hd];exact(Hb.out.alloc hp _).alloc (by rw[z1];omega) _
  refine⟨fun g=>w.heap.size<=g/\g<w1.heap.size,.slice none 0 0,S.keep _ _ _ _ _ (S.start _ _ _ Hd.out) (by omega) (fun g hg=>old g (by omega)),?_,?_,fun h=>by omega,fun h=>by omega,(fun g hg=>by cases hg),(fun h=>by cases h),by omega,fun g hg=>hg.1,hz,HW.out.keep fun g hg=>hz.block g (by omega),by omega,by omega⟩
  ·have:=He.out;rw[hb]at this;exact this.keep (oa b (by omega)) fun g hg=>by cases hg
  ·rw[hd,<-z1];exact aHO _ _
 have Hg:Hid ((w1.alloc (Obj.cells #[.pointer none,.slice none 0 0] 89)).heap.size=b+1):=by show _=_;simp[hb]
 have R1:Hid (∃F v,CZ Inv w rows sh b (b+1) (mX told wn 0) 0 F v ((w1.alloc (Obj.cells #[.pointer none,.slice none 0 0] 89)).alloc (Obj.cells rows 9))):=by rw[<-hd];exact R0
 clear hd R0
 try rw[Hg.out]
 rw[hb]
 clear He Hf Hd Hb Hg hp
 go_loopw [12] (fun i wr=>∃k:Nat,i=.int .i64 k/\k<=n/\Aside (∃F v,CZ Inv w rows sh b (b+1) (mX told wn k) k F v wr)) (fun i _=>n-(intOf i).toNat)
 case atStart=>exact⟨0,rfl,by omega,R1.out⟩
 case round=>
  obtain⟨k,rfl,hk,HA⟩:=hrel
  by_cases hA:k<n
  ·obtain⟨F,v,hR⟩:=HA.out;obtain⟨l,hl⟩:=HL.out k hA;have hc:wr.cell? ⟨b+1,k,none⟩=some (.string ⟨l.toArray⟩):=agR (by rw[HR.out];exact hR.row) hl;have Ha:=aHL hR;have Hh:=aHL (S.line k l hl F wr sh hR.wd hR.inv);have Hi:=aHL (S.words k l hl);have Hj:=aHL (HO.out (k+1) (by have:=HN.out;omega));clear hR hl HL;by_cases h0:0<wn k
   ·have e1:mX told wn (k+1)=mX told wn k++(told k++[10]):=by
     show mX told wn k++_=_;rw[aD6 h0]
    have HE1:=aHL e1
    have hr:¬((⟨(told k).toArray⟩:ByteArray).size+(⟨#[10]⟩:ByteArray).size>9223372036854775807):=by
     have:=Hj.out;rw[e1]at this;simp at this;show ¬((told k).toArray.size+1>9223372036854775807);simp;omega
    clear e1
    go_wp2_with(first
     |(go_at_call 30;refine Hh.out.mono ?_;rintro e w3 ⟨he,hh,hi⟩
       unfold sB at he
       subst he
       have R3:=aHL (Ha.out.line S h3 hh hi)
       clear hh hi)
     |(go_at_call 31;refine(Hi.out w3).mono ?_;rintro e w4 ⟨A,c,rfl,hj⟩
       have R4:=aHL (R3.out.below S hj h3)
       clear hj))
    all_goals try(exfalso;exact hr ‹_›)
    have hW:=UC (l:=told k++[10]) R4.out.bld (by have:=Hj.out;rw[HE1.out]at this;simp at this⊢;omega) R4.out.size;rw[<-al0]at hW;have Hk:=aHL hW;clear hW;refine Hk.out.mono ?_;rintro e w5 ⟨⟨x,rfl⟩,v',hB,hN,o5,t5,u5,s5,k5⟩;have R5:=aHL (R4.out.write S h3 hB hN o5 t5 u5 s5 k5);clear hB hN o5 t5 u5 s5 k5;go_wp2;go_roundw
    case rel=>exact⟨k+1,by go_num,by omega,_,_,by rw[HE1.out];exact R5.out⟩
    case measure=>simp[intOf];omega
   ·have e1:mX told wn (k+1)=mX told wn k:=by
     show mX told wn k++_=_;rw[aD4 h0,aET]
    have HE1:=aHL e1;clear e1
    go_wp2_with(first
     |(go_at_call 30;refine Hh.out.mono ?_;rintro e w3 ⟨he,hh,hi⟩
       unfold sB at he
       subst he
       have R3:=aHL (Ha.out.line S h3 hh hi)
       clear hh hi)
     |(go_at_call 31;refine(Hi.out w3).mono ?_;rintro e w4 ⟨A,c,rfl,hj⟩
       have R4:=aHL (R3.out.below S hj h3)
       clear hj))
    go_roundw
    case rel=>exact⟨k+1,by go_num,by omega,_,_,by rw[HE1.out];exact R4.out⟩
    case measure=>simp[intOf];omega
  ·obtain rfl:k=n:=by omega
   obtain⟨F,v,hR⟩:=HA.out;have Ha:=aHL hR;clear hR;go_wp2_with fail
   refine(Tryz.Builder_String_any w.heap.size b (mX told wn k) wr Ha.out.bld.is Ha.out.size).mono ?_;rintro e w5 ⟨rfl,b5⟩;go_wp2;go_ret;exact⟨rfl,Ha.out.bl.trans b5⟩
end
theorem xG.keep {F F2:Nat->Prop}{w w':World}{sh ep:Nat}{rc:Rc}{gh:Value}{cf:Nat->Value}{s:Eg}{x:vH}(V:xG F w sh ep rc gh cf s x)(hs:w.heap.size<=w'.heap.size)(hk:∀g,F g->w'.heap[g]?=w.heap[g]?)(h2:∀g,F g->F2 g)(la:∀g,F2 g->g<w'.heap.size)(lb:∀g,F2 g->3<=g):
  xG F2 w' sh ep rc gh cf s x:=by
 have up:∀b,x.G F sh ep s b->b<w.heap.size->w'.heap[b]?=w.heap[b]?/\x.G F2 sh ep s b:=fun b hb _=>⟨hk b hb.1,h2 b hb.1,hb.2⟩
 have i0:=V.inF ep (.inl rfl)
 have i1:=V.inF x.fb (.inr (.inl rfl))
 have i2:=V.inF x.hb (.inr (.inr (.inl rfl)))
 have i3:=V.inF sh (.inr (.inr (.inr (.inl rfl))))
 refine⟨(hk _ i0).trans V.e0,(hk _ i1).trans V.e1,(hk _ i2).trans V.e2,(hk _ i3).trans V.e3,fun l hl=>?_,fun a ha=>?_,V.l1.mono up,V.l2.mono up,V.l3.mono up,V.li.mono up,V.lf.mono up,⟨V.lp.1,V.lp.2.mono up⟩,V.n1,V.n2,V.n3,V.n4,fun g hg=>h2 g (V.inF g hg),la,V.c1,lb,aEI V.l0 hs⟩
 ·obtain⟨arr,k1,k2,k3,k4,k5,k6⟩:=V.rb l hl;exact⟨arr,(hk _ (V.inF x.gb (.inr (.inr (.inr (.inr (.inl ⟨by rw[hl];rfl,rfl⟩))))))).trans k1,k2,k3,k4,k5.mono up,k6⟩
 ·obtain⟨arr,k1,k2,k3,k4,k5,k6,k7⟩:=V.ra a ha;exact⟨arr,(hk _ (V.inF x.ga (.inr (.inr (.inr (.inr (.inr ⟨by rw[ha];rfl,rfl⟩))))))).trans k1,k2,k3,k4,k5,k6,k7⟩
noncomputable def agS (B:aE):Bool:=match dR B iT mJ 30 [.atom 4000,.lit (sB [])] {}with
 |some (r,_)=>fN 0 (.val (sB [])) r
 |none=>false
theorem al1 (v:Value)(w:World):agS ⟨fun _=>False,w,OP [(4000,v)]⟩=true:=by kernel_rfl
theorem agT (v:Value)(hv:v.oneCell'=true)(w:World):Calls prog 30 #[v,sB []] w fun e w'=>e=.returned (sB [])/\Below w.heap.size w w':=by
 have h:=al1 v w;unfold agS at h;split at h
 case h_2=>cases h
 rename_i r m hr;refine(WS (B:=⟨fun _=>False,w,OP [(4000,v)]⟩) (qY (l:=[(4000,v)]) (by kernel_rfl)) (bY fS qH) hr ⟨fun _ h=>False.elim h,fun _ h=>False.elim h⟩ (xs:=#[v,sB []]) ?_).mono ?_
 ·refine aG.2 ⟨v,[sB []],?_,rfl,rfl⟩;unfold aO;show(match (Env.ini ⟨fun _=>False,w,OP [(4000,v)]⟩ (fun _=>none) fun _=>none).atom 4000 with|some v=>if v.oneCell'=true then some v else none|none=>none)=some v;show(if v.oneCell'=true then some v else none)=some v;rw[aD6 hv]
 ·rintro e w' ⟨x,ρ',rfl,hx,O⟩;exact⟨by rw[jL h hx],l7 O⟩
section
variable {j sh:Nat}{F:Nat->Prop}{w:World}
inductive vL where
 |typ (d:Nat)
 |era
 |mov
 |com
 |und
def vL.line:vL->List UInt8
 |.typ d=>lE d
 |.era=>jO
 |.mov=>tY
 |.com=>lF
 |.und=>nE
def vL.step:vL->Eg->Eg×Int
 |.typ d,s=>stepT d s
 |.era,s=>oV s
 |.mov,s=>CF s
 |.com,s=>vR (mV s.d) s
 |.und,s=>kB s
inductive pC where
 |op (o:vL)
 |shw
 |att
 |emp
def pC.line:pC->List UInt8
 |.op o=>o.line
 |.shw=>sS
 |.att=>wAt
 |.emp=>[]
def pC.told (L:Lc)(s:Eg):pC->List UInt8
 |.op o=>lN (o.step s).2
 |.shw=>lP L s
 |.att=>tAt L s
 |.emp=>[]
def pC.next (s:Eg):pC->Eg
 |.op o=>(o.step s).1
 |_=>s
def pC.wn:pC->Nat
 |.op (.typ _)=>2
 |.op .era=>2
 |.op .mov=>2
 |.op _=>1
 |.shw=>1
 |.att=>1
 |.emp=>0
def NG:List pC->Eg->Nat->Eg
 |_,s,0=>s
 |[],s,_+1=>s
 |c::l,s,k+1=>NG l (c.next s) k
theorem CN (l:List pC)(s:Eg):NG l s 0=s:=by cases l<;>rfl
theorem GS:∀(l:List pC) (s:Eg) (k:Nat) (c:pC),l[k]?=some c->NG l s (k+1)=c.next (NG l s k)
 |[],_,_,_,h=>by simp at h
 |a::l,s,0,c,h=>by
  injection h with h
  subst h
  cases l<;>rfl
 |a::l,s,k+1,c,h=>GS l (a.next s) k c h
structure GU (c:pC) (s:Eg):Prop where
 g:mU s
 n:(∃o,c=.op o)->(s.beh.getD []).length+s.ah.getD 0<=5
 d:∀d,c=.op (.typ d)->d<10
structure vW:Prop where
 t:∀d,d<10->av1 d
 e:av3
 m:∀B,ao8 B=true
 c:awW
 u:aaL
def aBN (j:Nat)(cs:List pC):Nat->(Nat->Prop)->World->Nat->Prop
 |0,F,w,sh=>UD F w sh (fI 12).rc
 |1,F,w,sh=>UD F w sh (fI j).rc
 |k+2,F,w,sh=>∃ep,PW F w sh ep (fI j).rc (fI j).gh iY (NG cs mW k)
def IP (j:Nat)(cs:List pC):List (List UInt8):=sZ j::sU::cs.map pC.line
def aa4 (j:Nat)(cs:List pC):Nat->List UInt8
 |0=>tC
 |1=>tC
 |k+2=>match cs[k]? with
  |some c=>c.told (fI j).L (NG cs mW k)
  |none=>[]
def agU (cs:List pC):Nat->Nat
 |0=>2
 |1=>1
 |k+2=>match cs[k]? with
  |some c=>c.wn
  |none=>0
theorem XF {c:pC}(hd:∀d,c=.op (.typ d)->d<10)(w:World):Calls prog 31 #[sB c.line] w fun e w'=>∃A k,e=.returned (.slice A c.wn k)/\Below w.heap.size w w':=by
 cases c with
 |op o=>
  cases o with
  |typ d=>exact kE (fun B=>aD7.1 (alY B) d (aEE.2 (hd d rfl))) w
  |era=>exact kE (fun B=>aD7.1 (NF B) jO (by simp)) w
  |mov=>exact kE (fun B=>aD7.1 (NF B) tY (by simp)) w
  |com=>exact kE (fun B=>aD7.1 (DR B) lF (by simp)) w
  |und=>exact kE (fun B=>aD7.1 (DR B) nE (by simp)) w
 |shw=>exact kE (fun B=>aD7.1 (DR B) sS (by simp)) w
 |att=>exact kE (fun B=>aD7.1 (DR B) wAt (by simp)) w
 |emp=>exact kE (fun B=>alZ B) w
theorem XG (hj:j<40)(w:World):Calls prog 31 #[sB (sZ j)] w fun e w'=>∃A k,e=.returned (.slice A 2 k)/\Below w.heap.size w w':=by
 refine kE (fun B=>?_) w;rcases aEU j 20 with h|h
 ·exact aD7.1 (agO B) j (aEE.2 h)
 ·obtain⟨i,rfl⟩:∃i,j=20+i:=⟨j-20,by omega⟩;exact aD7.1 (agP B) i (aEE.2 (by omega))
theorem zQ {w':World}{rc:Rc}(V:UD F w sh rc)(hs:w.heap.size<=w'.heap.size)(hk:∀g,F g->w'.heap[g]?=w.heap[g]?):UD F w' sh rc:=
 ⟨(hk sh V.inF).trans V.e,V.inF,fun g hg=>aEL (V.lt g hg) hs,V.lo,aEI V.l0 hs⟩
theorem RF (hj:j<40)(R:vW){c:pC}{s:Eg}(H:GU c s){ep:Nat}(hw:Wd w)(V:PW F w sh ep (fI j).rc (fI j).gh iY s):
  Calls prog 30 #[.pointer (some ⟨sh,0,none⟩),sB c.line] w fun e w'=>e=.returned (sB (c.told (fI j).L s))/\PW (F' F w w') w' sh ep (fI j).rc (fI j).gh iY (c.next s)/\Kp F w w':=by
 obtain⟨x,V⟩:=V
 have L:=DP hj
 have Hs:=nQ hj
 cases c with
 |op o=>
  have hn:=H.n ⟨o,rfl⟩
  cases o with
  |typ d=>exact afG V L hw H.g (H.d d rfl) (R.t d (H.d d rfl)) hn
  |era=>exact afK V L hw H.g R.e hn
  |mov=>exact afM V L H.g R.m
  |com=>exact agB V L H.g R.c hn
  |und=>exact afN V L hw H.g R.u hn
 |shw=>exact aaS V Hs H.g
 |att=>exact alD V Hs H.g
 |emp=>
  refine(agT _ rfl w).mono ?_
  rintro e w' ⟨rfl,hb⟩
  have hF:∀g,F g->w'.heap[g]?=w.heap[g]?:=fun g hg=>hb.block g (V.lt g hg)
  refine⟨rfl,⟨x,V.keep hb.size hF (fun g hg=> .inl hg) (fun g hg=>?_) fun g hg=>?_⟩,⟨hb.os,hb.tape,hb.output,hb.size,fun k hk _=>hb.block k hk⟩⟩
  ·rcases hg with hg|hg
   ·exact aEL (V.lt g hg) hb.size
   ·exact hg.2
  ·rcases hg with hg|hg
   ·exact V.lo g hg
   ·exact aEI V.l0 hg.1
theorem asM (hj:j<40)(R:vW){cs:List pC}(H:∀k c,cs[k]?=some c->GU c (NG cs mW k)):KM (IP j cs) (aa4 j cs) (agU cs) (aBN j cs):=by
 refine⟨fun F w sh h=>h,fun k l hl F w sh hw hI=>?_,fun k l hl w=>?_,fun k F w w' sh hI hs hk=>?_,fun k F w sh hI g hg=>?_,fun k F w sh hI g hg=>?_⟩
 ·match k,hl,hI with
  |0,hl,hI=>
   injection hl with hl
   subst hl
   exact RD hj hI
  |1,hl,hI=>
   injection hl with hl
   subst hl
   have:=KJ hw (show UD F w sh (fI j).rc from hI) (show sQ (fI j).rc (fI j).gh from DP hj)
   refine this.mono ?_
   rintro e w' ⟨rfl,⟨ep,h1⟩,h2⟩
   exact⟨rfl,⟨ep,by rw[CN];exact h1⟩,h2⟩
  |k+2,hl,hI=>
   have hl:(cs.map pC.line)[k]?=some l:=hl
   rw[aFT]at hl
   cases hc:cs[k]? with
   |none=>rw[hc]at hl;cases hl
   |some c=>
    rw[hc]at hl
    injection hl with hl
    subst hl
    obtain⟨ep,hI⟩:=hI
    refine(RF hj R (H k c hc) hw hI).mono ?_
    rintro e w' ⟨rfl,h1,h2⟩
    refine⟨?_,⟨ep,?_⟩,h2⟩
    ·show _=Ending.returned (sB (match cs[k]? with|some c=>c.told (fI j).L (NG cs mW k)|none=>[]));rw[hc]
    ·rw[GS cs mW k c hc];exact h1
 ·match k,hl with
  |0,hl=>
   injection hl with hl
   subst hl
   exact XG hj w
  |1,hl=>
   injection hl with hl
   subst hl
   exact kE RE w
  |k+2,hl=>
   have hl:(cs.map pC.line)[k]?=some l:=hl
   rw[aFT]at hl
   cases hc:cs[k]? with
   |none=>rw[hc]at hl;cases hl
   |some c=>
    rw[hc]at hl
    injection hl with hl
    subst hl
    have:=XF (H k c hc).d w
    show Calls _ _ _ _ fun e w'=>∃A q,e=.returned (.slice A (match cs[k]? with|some c=>c.wn|none=>0) q)/\_
    rw[hc]
    exact this
 ·match k,hI with
  |0,hI=>exact zQ hI hs hk
  |1,hI=>exact zQ hI hs hk
  |k+2,hI=>
   obtain⟨ep,x,V⟩:=hI
   exact⟨ep,x,V.keep hs hk (fun _ h=>h) (fun g hg=>aEL (V.lt g hg) hs) V.lo⟩
 ·match k,hI with
  |0,hI=>exact hI.lt g hg
  |1,hI=>exact hI.lt g hg
  |k+2,hI=>
   obtain⟨ep,x,V⟩:=hI
   exact V.lt g hg
 ·match k,hI with
  |0,hI=>exact hI.lo g hg
  |1,hI=>exact hI.lo g hg
  |k+2,hI=>
   obtain⟨ep,x,V⟩:=hI
   exact V.lo g hg
end
section
variable {c:pC}{j:Nat}
theorem agV:(List.range 40).all (fun j=>!(sZ j).contains 10&&Nat.ble (sZ j).length 20)=true:=by kernel_rfl
theorem agW:(List.range 10).all (fun d=>!(lE d).contains 10&&Nat.ble (lE d).length 20)=true:=by kernel_rfl
theorem agX (hd:∀d,c=.op (.typ d)->d<10):(10:UInt8)∉c.line/\c.line.length<=20:=by
 cases c with
 |op o=>
  cases o with
  |typ d=>
   have:=aD7.1 agW d (aEE.2 (hd d rfl))
   rw[aD3]at this
   exact⟨by show(10:UInt8)∉lE d;simpa using this.1,aEJ this.2⟩
  |era=>exact⟨by decide,by decide⟩
  |mov=>exact⟨by decide,by decide⟩
  |com=>exact⟨by decide,by decide⟩
  |und=>exact⟨by decide,by decide⟩
 |shw=>exact⟨by decide,by decide⟩
 |att=>exact⟨by decide,by decide⟩
 |emp=>exact⟨by decide,by decide⟩
theorem KN {n:Nat}:∀(ls:List (List UInt8)),(∀l∈ls,l.length<=n)->(eY ls).length<=ls.length*(n+1)
 |[],_=>aES _
 |[l],h=>by
  have:=h l aEH;show l.length<=1*(n+1);omega
 |l::m::ls,h=>by
  have h1:=h l aEH;have h2:=KN (m::ls) fun x hx=>h x (aEM _ hx)
  rw[xS,aD2,aEN,aEN,Nat.succ_mul];omega
theorem agY (n:Int):(lN n).length<=20:=by
 unfold lN;split
 ·decide
 ·simp[II]
theorem agZ (hj:j<40){s:Eg}(H:GU c s):(c.told (fI j).L s).length<=300:=by
 have hb:DG (fI j).L:=(nQ hj).b
 cases c with
 |op o=>
  have:=agY (o.step s).2
  show(lN (o.step s).2).length<=300
  omega
 |shw=>
  have:=uZ hb H.g.d
  show(iU (bC (fI j).L s.d)).length<=300
  omega
 |att=>
  obtain⟨h1,h2⟩:=zN hb H.g.d H.g.c
  have h3:=uF (lO (fI j).L s.d s.c)
  show(eL _++[32]++eL _).length<=300
  simp only[aD2,aEN,aEW]
  omega
 |emp=>exact aES _
set_option maxRecDepth 100000 in
theorem al2 (hj:j<40)(R:vW){cs:List pC}(H:∀(k:Nat) (c:pC),cs[k]?=some c->GU c (NG cs mW k))(hn:cs.length<=90){w:World}(hw:Wd w)(h3:3<=w.heap.size):
  Calls prog 13 #[.string ⟨(eY (IP j cs)).toArray⟩] w fun e w'=>e=.returned (sB (mX (aa4 j cs) (agU cs) (cs.length+2)))/\Below w.heap.size w w':=by
 have hlen:(IP j cs).length=cs.length+2:=by simp[IP]
 have hl:∀l∈IP j cs,(10:UInt8)∉l/\l.length<=20:=by
  intro l hl;rcases aER.1 hl with rfl|hl
  ·have:=aD7.1 agV j (aEE.2 hj);rw[aD3]at this;exact⟨by simpa using this.1,aEJ this.2⟩
  ·rcases aER.1 hl with rfl|hl
   ·exact⟨by decide,by decide⟩
   ·obtain⟨c,hc,rfl⟩:=aEZ.1 hl;obtain⟨k,hk⟩:=List.mem_iff_getElem?.1 hc;exact agX (H k c hk).d
 have ht:∀k,(aa4 j cs k).length<=300:=fun k=>by
  match k with
  |0=>exact(by decide:tC.length<=300)
  |1=>exact(by decide:tC.length<=300)
  |k+2=>
   show(match cs[k]? with|some c=>c.told (fI j).L (NG cs mW k)|none=>[]).length<=300
   cases hc:cs[k]? with
   |none=>exact aES _
   |some c=>exact agZ hj (H k c hc)
 have ho:∀k,(mX (aa4 j cs) (agU cs) k).length<=k*301:=by
  intro k;induction k with
  |zero=>exact aD1 _
  |succ k ih=>
   have:=ht k
   show(mX (aa4 j cs) (agU cs) k++_).length<=_
   rw[aD2,Nat.succ_mul]
   split
   ·simp only[aD2,aEN,aEW];omega
   ·simp only[aEW];omega
 have:=XE (asM hj R H) (by simp[IP]) (fun l h=>(hl l h).1) (by rw[hlen];omega) (by have:=KN (n:=20) (IP j cs) fun l h=>(hl l h).2;rw[hlen]at this;omega) (fun k hk=>by have:=ho k;rw[hlen]at hk;omega) w hw h3
 rw[hlen]at this
 exact this
end
def xV:List vL->List pC
 |[]=>[.emp]
 |o::os=> .op o:: .shw:: .att::xV os
theorem RG:∀os,(xV os).length=3*os.length+1
 |[]=>rfl
 |_::os=>by simp[xV,RG os];omega
def qJ (s:Eg):Nat:=(s.beh.getD []).length+s.ah.getD 0
theorem ag0 (s:Eg)(r:Int):((dF s r).getD []).length<=(s.beh.getD []).length+1:=by
 unfold dF;split
 ·simp
 ·omega
theorem ag1 (a:Option Nat):(a.map fun _=>0).getD 0=0:=by cases a<;>rfl
theorem GV (o:vL)(s:Eg):qJ (o.step s).1<=qJ s+1:=by
 have hp:=ag0 s
 cases o with
 |typ d=>
  show qJ (stepT d s).1<=_
  unfold stepT
  split
  ·unfold qJ;have:=hp 1;simp only[ag1];omega
  ·exact aHH _
 |era=>
  show qJ (oV s).1<=_
  unfold oV
  split
  ·exact aHH _
  ·split
   ·unfold qJ;have:=hp 2;simp only[ag1];omega
   ·exact aHH _
 |mov=>exact aHH _
 |com=>
  show qJ (vR (mV s.d) s).1<=_
  unfold vR qJ
  have:=hp 0
  simp only[ag1]
  omega
 |und=>
  show qJ (kB s).1<=_
  unfold kB
  split
  ·exact aHH _
  ·rename_i q hq;unfold qJ;simp only[aFR,List.length_dropLast];have:0<(s.beh.getD []).length:=List.length_pos_of_mem (List.mem_of_getLast? hq);omega
theorem vB {o:vL}(hd:∀d,o=.typ d->d<10){s:Eg}(h:mU s):mU (o.step s).1:=by
 cases o with
 |typ d=>exact FM h ⟨by omega,by have:=hd d rfl;omega⟩
 |era=>exact FN h
 |mov=>exact FO h
 |com=>exact FP h (rL s.d)
 |und=>exact FQ h
theorem XH:∀(os:List vL) (s:Eg),mU s->qJ s+os.length<=6->(∀o∈os,∀d,o=.typ d->d<10)->∀(k:Nat) (c:pC),(xV os)[k]?=some c->GU c (NG (xV os) s k)
 |[],s,h,_,_,k,c,hk=>by
  cases k with
  |zero=>
   injection hk with hk
   subst hk
   exact⟨by rw[CN];exact h,(fun⟨o,e⟩=>by cases e),(fun d e=>by cases e)⟩
  |succ k=>simp[xV]at hk
 |o::os,s,h,hn,hd,k,c,hk=>by
  have ha:=hd o aEH;have h1:=vB ha h;have h2:=GV o s
  match k,hk with
  |0,hk=>
   injection hk with hk
   subst hk
   refine⟨by rw[CN];exact h,fun _=>?_,fun d e=>?_⟩
   ·rw[CN];unfold qJ at hn;simp only[aEN]at hn;omega
   ·injection e with e
    exact ha d e
  |1,hk=>
   injection hk with hk
   subst hk
   exact⟨by show mU (NG _ (o.step s).1 0);rw[CN];exact h1,(fun⟨o,e⟩=>by cases e),(fun d e=>by cases e)⟩
  |2,hk=>
   injection hk with hk
   subst hk
   exact⟨by show mU (NG _ (o.step s).1 0);rw[CN];exact h1,(fun⟨o,e⟩=>by cases e),(fun d e=>by cases e)⟩
  |k+3,hk=>exact XH os (o.step s).1 h1 (by simp only[aEN]at hn;omega) (fun o' ho=>hd o' (aEM _ ho)) k c hk
def ag2 (L:Lc):List pC->Eg->List UInt8
 |[],_=>[]
 |c::cs,s=>(if 0<c.wn then c.told L s++[10]else [])++ag2 L cs (c.next s)
theorem vC (f:Nat->List UInt8)(g:Nat->Nat):∀n,mX f g (n+1)=(if 0<g 0 then f 0++[10]else [])++mX (fun k=>f (k+1)) (fun k=>g (k+1)) n
 |0=>by simp[mX]
 |n+1=>by
  show mX f g (n+1)++_=_++(mX (fun k=>f (k+1)) (fun k=>g (k+1)) n++_);rw[vC f g n,aEF]
theorem XI (L:Lc):∀(cs:List pC) (s:Eg),mX (fun k=>match cs[k]? with|some c=>c.told L (NG cs s k)|none=>[]) (fun k=>match cs[k]? with|some c=>c.wn|none=>0) cs.length=ag2 L cs s
 |[],_=>rfl
 |c::cs,s=>by
  rw[aEN,vC];exact aEK _ (XI L cs (c.next s))
theorem ag3 (j:Nat)(cs:List pC):mX (aa4 j cs) (agU cs) (cs.length+2)=tC++[10]++(tC++[10]++ag2 (fI j).L cs mW):=by
 rw[vC,vC];exact aEK _ (aEK _ (XI (fI j).L cs mW))
def pY (L:Lc):List vL->Eg->List UInt8
 |[],_=>[]
 |o::os,s=>(lN (o.step s).2++[10])++((lP L (o.step s).1++[10])++((tAt L (o.step s).1++[10])++pY L os (o.step s).1))
theorem KO (L:Lc):∀(os:List vL) (s:Eg),ag2 L (xV os) s=pY L os s
 |[],_=>rfl
 |o::os,s=>by
  have hw:0<(pC.op o).wn:=by cases o<;>exact aHK _
  show(if 0<(pC.op o).wn then lN (o.step s).2++[10]else [])++((lP L (o.step s).1++[10])++((tAt L (o.step s).1++[10])++ag2 L (xV os) (o.step s).1))=_;rw[aD6 hw,KO L os];rfl
theorem zR:mU mW:=⟨⟨rfl,(fun x hx=>by cases hx),(fun x hx=>by cases hx),by decide,by decide,.inr rfl⟩,aES _,(fun q hq=>by cases hq),fun h=>absurd rfl h⟩
theorem al3 {j:Nat}(hj:j<40)(R:vW){os:List vL}(hn:os.length<=6)(hd:∀o∈os,∀d,o=.typ d->d<10){w:World}(hw:Wd w)(h3:3<=w.heap.size):
  Calls prog 13 #[.string ⟨(eY (IP j (xV os))).toArray⟩] w fun e w'=>e=.returned (sB (tC++[10]++(tC++[10]++pY (fI j).L os mW)))/\Below w.heap.size w w':=by
 have:=al2 hj R (cs:=xV os) (XH os mW zR (by show 0+os.length<=6;omega) hd) (by rw[RG];omega) hw h3
 rw[ag3,KO]at this
 exact this
section
variable {j q:Nat}{pv nv mv vi vf v x:Value}{w w' w2:World}{G G':Nat->Prop}{lc rl cs ys:List Value}{X:List (Nat×Value)}
theorem ag4 (rc:Rc)(l:List (Int×List UInt8)):IK rc l=aaT rc l:=by
 unfold IK aaT;generalize(l.flatMap fun y=>if y.1=1 then rc.cur else if y.1=2 then rc.pct else y.2)=t
 cases t<;>rfl
theorem UF (hj:j<40){sv:Value}(L:F0 (fun _=>True) w (aI j) pv sv nv mv):RLc w (aI j).rc pv sv nv mv (aI j).mi (aI j).mf (aI j).xf (aI j).L:=by
 have K:qI (aI j):=zP hj;have hq:=K.pq;have hb:=K.b;refine⟨fun W hB=>?_,fun W d h0 h9=>?_,rfl,rfl,hq.1,hq.2.1,hq.2.2.1,hq.2.2.2,by have:=hb.na;omega,by have:=hb.nb;omega⟩
 ·have h:=ae6 hj (w:=W) (L.mono fun b _ ha=>⟨hB.block b ha,trivial⟩);rw[ag4,ag4]at h;exact h
 ·obtain⟨n,rfl⟩:=Int.eq_ofNat_of_zero_le h0;exact ae0 K.dg (d:=n) (by omega) W
structure iE (G:Nat->Prop) (w:World) (j:Nat) (pv sv nv mv v1 v2 v3:Value):Prop where
 L:F0 G w (aI j) pv sv nv mv
 a:jJ G w v1 dS
 b:jJ G w v2 dS
 c:jJ G w v3 [1]
theorem iE.mono {sv v1 v2 v3:Value}(h:iE G w j pv sv nv mv v1 v2 v3)(hG:∀b,G b->b<w.heap.size->w'.heap[b]?=w.heap[b]?/\G' b):iE G' w' j pv sv nv mv v1 v2 v3:=
 ⟨h.L.mono hG,h.a.mono hG,h.b.mono hG,h.c.mono hG⟩
def gM (G:Nat->Prop)(w:World)(lc rl:List Value):List (Dr×Nat)->List Value->Prop
 |[],us=>us=[]
 |t::l,us=>∃vi vf r,us=fV lc rl t.1 t.2 vi vf++r/\jJ G w vi t.1.int/\jJ G w vf t.1.frac/\gM G w lc rl l r
theorem gM.mono (hG:∀b,G b->b<w.heap.size->w'.heap[b]?=w.heap[b]?/\G' b):∀{l:List (Dr×Nat)} {us:List Value},gM G w lc rl l us->gM G' w' lc rl l us
 |[],_,h=>h
 |_::_,_,⟨vi,vf,r,h1,h2,h3,h4⟩=>⟨vi,vf,r,h1,h2.mono hG,h3.mono hG,gM.mono hG h4⟩
theorem gM.snoc {t:Dr×Nat}(h1:jJ G w vi t.1.int)(h2:jJ G w vf t.1.frac):∀{l:List (Dr×Nat)} {us:List Value},gM G w lc rl l us->gM G w lc rl (l++[t]) (us++fV lc rl t.1 t.2 vi vf)
 |[],us,h=>by
  have h:us=[]:=h;subst h;exact⟨vi,vf,[],by simp,h1,h2,rfl⟩
 |_::_,_,⟨a,b,r,e,k1,k2,k3⟩=>⟨a,b,r++fV lc rl t.1 t.2 vi vf,by rw[e,aEF],k1,k2,gM.snoc h1 h2 k3⟩
structure qK (G:Nat->Prop) (w:World) (lc rl:List Value) (s:Eg) (vi vf vb va:Value) (us ax:List Value):Prop where
 i:jJ G w vi s.d.int
 f:jJ G w vf s.d.frac
 b:nS G w 43 40 vb us
 r:gM G w lc rl (s.beh.getD []) us
 ul:us.length=40*(s.beh.getD []).length
 u1:∀u∈us,u.oneCell'=true
 a:nS G w 43 40 va ax
 al:ax.length=40*s.ah.getD 0
 a1:∀u∈ax,u.oneCell'=true
 ne:∀g,vb.ownBlock=some g->va.ownBlock≠some g
def eCs (lc rl:List Value)(s:Eg)(vi vf vb va:Value):List Value:=fV lc rl s.d s.c vi vf++[vb,va,.int .i64 s.run]
theorem qK.mono {s:Eg}{vb va:Value}{us ax:List Value}(h:qK G w lc rl s vi vf vb va us ax)(hG:∀b,G b->b<w.heap.size->w'.heap[b]?=w.heap[b]?/\G' b):qK G' w' lc rl s vi vf vb va us ax:=
 ⟨h.i.mono hG,h.f.mono hG,h.b.mono hG,h.r.mono hG,h.ul,h.u1,h.a.mono hG,h.al,h.a1,h.ne⟩
structure qL where
 a:Bool
 b:Bool
 c:Bool
 i:Value
 f:Value
 vb:Value
 va:Value
 us:List Value
 ax:List Value
structure qL.Is (p:qL) (w w':World) (s:Eg) (vi vf vb va:Value):Prop where
 a:if p.a=true then jJ (fun g=>w.heap.size<=g) w' vi s.d.int/\jJ (fun g=>w.heap.size<=g) w' vf s.d.frac else vi=p.i/\vf=p.f
 b:if p.b=true then nS (fun g=>w.heap.size<=g) w' 43 40 vb p.us else vb=p.vb
 c:if p.c=true then nS (fun g=>w.heap.size<=g) w' 43 40 va p.ax else va=p.va
def GW (b:Bool)(vb:Value)(us fs:List Value):qL:=⟨true,b,false,.slice none 0 0,.slice none 0 0,vb,.slice none 0 0,if b=true then us++fs else us,[]⟩
def UG (G:Nat->Prop)(w:World)(lc rl:List Value)(r:Eg×Int)(p:qL)(e:Ending)(w':World):Prop:=
 (∃vi vf vb va,e=.returned (.tuple #[.agg (eCs lc rl r.1 vi vf vb va).toArray,.int .i64 r.2])/\qK (fun g=>G g∨w.heap.size<=g) w' lc rl r.1 vi vf vb va p.us p.ax/\p.Is w w' r.1 vi vf vb va)/\Below w.heap.size w w'
def dB (w:World)(cs:List Value)(X:List (Nat×Value)):aE:=⟨fun g=>g<w.heap.size,w,fun i=>if 8000<=i then two cs [] i else OP X i⟩
theorem aw3 (hX:VK X=true):∀i x,(dB w cs X).A i=some x->i%2≠1:=fun i x h=>by
 have h:(if 8000<=i then two cs [] i else OP X i)=some x:=h;split at h
 ·exact FY i x h
 ·exact qY (l:=X) hX i x h
theorem aBO (w:World)(cs:List Value)(X:List (Nat×Value)):eN (dB w cs X) w:=⟨fun _ h=>h,fun _ _=>rfl⟩
theorem aBP (hl:cs.length<=250)(h:cs[q]?=some v):(dB w cs X).A (8000+4*q)=some v:=by
 have:=P1 (b:=[]) hl h;rw[aEV]at this;exact(aD6 (by omega)).trans this
def al4:eG:= .agg [.val (.bool false),.at_ 8140,.at_ 8144,.at_ 8148]
def BO:List eG:=[.val (.bool false),.at_ 8140,.at_ 8144,.at_ 8148,.at_ 8152,.at_ 8152]
def aa5:List eG:=[.val (.bool true),.at_ 8072,.val (.int .i64 2),.val (.bool false),.at_ 8084,.val (.int .i64 2),.val (.bool false),.at_ 8096,.val (.int .i64 0),.val (.bool true),.val (.int .i64 6),.val (.int .i64 4),.val (.int .i64 2),.val (.int .i64 1),.val (.int .i64 2),.val (.int .i64 6),.val (.int .i64 20)]
def fEP:List eG:=lG 0 17++(aa5++BO)
def eEP:List eG:=fEP++[.at_ 8160,.at_ 8164,.at_ 8168]
theorem gW {B:aE}{G:Nat->Prop}{w:World}:∀{a b:List eG} {x:List Value},kW B G w (a++b) x->∃y z,x=y++z/\kW B G w a y/\kW B G w b z
 |[],_,x,h=>⟨[],x,rfl,rfl,h⟩
 |_::a,b,_,h=>by
  obtain⟨y,r,rfl,h1,h2⟩:=h;obtain⟨p,q,rfl,k1,k2⟩:=gW (a:=a) (b:=b) h2;exact⟨y::p,q,rfl,⟨y,p,rfl,h1,k1⟩,k2⟩
section
variable {w:World}{D:eB}{pv sv nv mv v1 v2 v3 vi vf vb va:Value}{s:Eg}{X:List (Nat×Value)}
abbrev pD (D:eB)(pv sv nv mv v1 v2 v3:Value)(s:Eg)(vi vf vb va:Value):List Value:=eCs (aY D pv sv nv mv) (bH v1 v2 v3) s vi vf vb va
theorem NH:(pD D pv sv nv mv v1 v2 v3 s vi vf vb va).length=43:=rfl
theorem aA (h:(pD D pv sv nv mv v1 v2 v3 s vi vf vb va)[q]?=some v):(dB w (pD D pv sv nv mv v1 v2 v3 s vi vf vb va) X).A (8000+4*q)=some v:=aBP (by rw[NH];omega) h
theorem RH (h:(aY D pv sv nv mv)[q]?=some v):(dB w (pD D pv sv nv mv v1 v2 v3 s vi vf vb va) X).A (8000+4*(0+q))=some v:=by
 rw[aEV];refine aA ?_;show((aY D pv sv nv mv++_)++_)[q]?=_;rw[aEF,aEG (aED.1 h).1];exact h
theorem ag6:lJ (dB w (pD D pv sv nv mv v1 v2 v3 s vi vf vb va) X) (lG 0 17):=BE 17 0 fun q hq=>⟨_,RH (aEB hq)⟩
theorem asN (h:fG (dB w (pD D pv sv nv mv v1 v2 v3 s vi vf vb va) X) G w2 (.agg (lG 0 17)) x):x=.agg (aY D pv sv nv mv).toArray:=by
 obtain⟨ys,rfl,k⟩:=h;rw[lH (aY D pv sv nv mv) 0 ys (fun q v hq=>RH hq) k]
theorem UH:lJ (dB w (pD D pv sv nv mv v1 v2 v3 s vi vf vb va) X) aa5:=
 ⟨trivial,⟨_,aA (q:=18) rfl⟩,trivial,trivial,⟨_,aA (q:=21) rfl⟩,trivial,trivial,⟨_,aA (q:=24) rfl⟩,trivial,trivial,trivial,trivial,trivial,trivial,trivial,trivial,trivial,trivial⟩
theorem UI:lJ (dB w (pD D pv sv nv mv v1 v2 v3 s vi vf vb va) X) BO:=
 ⟨trivial,⟨_,aA (q:=35) rfl⟩,⟨_,aA (q:=36) rfl⟩,⟨_,aA (q:=37) rfl⟩,⟨_,aA (q:=38) rfl⟩,⟨_,aA (q:=38) rfl⟩,trivial⟩
theorem GX (h:kW (dB w (pD D pv sv nv mv v1 v2 v3 s vi vf vb va) X) G w2 aa5 ys):ys=bH v1 v2 v3:=by
 obtain⟨y0,_,rfl,b0,y1,_,rfl,b1,y2,_,rfl,b2,y3,_,rfl,b3,y4,_,rfl,b4,y5,_,rfl,b5,y6,_,rfl,b6,y7,_,rfl,b7,y8,_,rfl,b8,y9,_,rfl,b9,ya,_,rfl,ba,yb,_,rfl,bb,yc,_,rfl,bc,y13,_,rfl,bd,yd,_,rfl,be,ye,_,rfl,bf,yf,_,rfl,bg,rfl⟩:=h;rw[show y0=_ from b0,bF (aA (q:=18) rfl) b1,show y2=_ from b2,show y3=_ from b3,bF (aA (q:=21) rfl) b4,show y5=_ from b5,show y6=_ from b6,bF (aA (q:=24) rfl) b7,show y8=_ from b8,show y9=_ from b9,show ya=_ from ba,show yb=_ from bb,show yc=_ from bc,show y13=_ from bd,show yd=_ from be,show ye=_ from bf,show yf=_ from bg];rfl
theorem NI (h:kW (dB w (pD D pv sv nv mv v1 v2 v3 s vi vf vb va) X) G w2 BO ys):ys=pV s.d s.c vi vf:=by
 obtain⟨y0,_,rfl,b0,y1,_,rfl,b1,y2,_,rfl,b2,y3,_,rfl,b3,y4,_,rfl,b4,y5,_,rfl,b5,rfl⟩:=h;rw[show y0=_ from b0,bF (aA (q:=35) rfl) b1,bF (aA (q:=36) rfl) b2,bF (aA (q:=37) rfl) b3,bF (aA (q:=38) rfl) b4,bF (aA (q:=38) rfl) b5];rfl
theorem asO (hn:s.d.neg=false)(h:fG (dB w (pD D pv sv nv mv v1 v2 v3 s vi vf vb va) X) G w2 al4 x):x=mT vi vf s.d:=by
 obtain⟨ys,rfl,y0,_,rfl,b0,y1,_,rfl,b1,y2,_,rfl,b2,y3,_,rfl,b3,rfl⟩:=h;rw[show y0=_ from b0,bF (aA (q:=35) rfl) b1,bF (aA (q:=36) rfl) b2,bF (aA (q:=37) rfl) b3,<-hn];rfl
theorem al5 (hn:s.d.neg=false)(h:fG (dB w (pD D pv sv nv mv v1 v2 v3 s vi vf vb va) X) G w2 (.agg BO) x):x=oQ vi vf s.d s.c:=by
 obtain⟨ys,rfl,k⟩:=h;rw[NI k];unfold oQ;rw[hn];rfl
theorem aw5 (h:fG (dB w (pD D pv sv nv mv v1 v2 v3 s vi vf vb va) X) G w2 (.agg fEP) x):x=.agg (fV (aY D pv sv nv mv) (bH v1 v2 v3) s.d s.c vi vf).toArray:=by
 obtain⟨ys,rfl,k⟩:=h;obtain⟨a,b,rfl,k1,k2⟩:=gW k;obtain⟨b,c,rfl,k2,k3⟩:=gW k2;rw[lH (aY D pv sv nv mv) 0 a (fun q v hq=>RH hq) k1,GX k2,NI k3];rfl
theorem aw6:lJ (dB w (pD D pv sv nv mv v1 v2 v3 s vi vf vb va) X) fEP:=iA ag6 (iA UH UI)
theorem aBQ:lJ (dB w (pD D pv sv nv mv v1 v2 v3 s vi vf vb va) X) eEP:=iA aw6 ⟨⟨_,aA (q:=40) rfl⟩,⟨_,aA (q:=41) rfl⟩,⟨_,aA (q:=42) rfl⟩,trivial⟩
end
end
def mY:dO:=⟨27,[.agg (lG 0 17),al4],.ls 11⟩
def NJ:dO:=⟨107,[.agg (lG 0 17),.at_ 5036],.tup [.agg [.val (.bool false),.ls 6],.val (.int .i64 0)]⟩
def XJ (b:Bool):dO:=⟨108,[.agg BO,MN,.agg [.val (.bool false),.ls 6]],oT b⟩
def qM:dO:=⟨23,[.at_ 8160,.agg fEP,.val (.int .i64 20)],.ls 12⟩
def GY (z b:Bool):dO:=⟨76,[.agg BO,MN,.val (.int .i64 0)],FC z b⟩
def ag7:dO:=⟨77,[.agg BO,.val (.int .i64 0),.val (.bool false)],.tup [.agg [.val (.bool false),.at_ 8140,.at_ 8144,.at_ 8148,.at_ 232,.at_ 232],.val (.int .i64 0)]⟩
def ag8:dO:=⟨83,[.agg aa5,al4],.tup [pG (.val (.bool false)) 8 (.at_ 68) 9,.val (.int .i64 0)]⟩
def ag9:dO:=⟨35,[pG (.val (.bool false)) 8 (.at_ 68) 9],.ls 14⟩
def UJ (k:Int)(t:eG):eG:= .agg [.val (.int .i64 k),.val (.int .i64 0),.val (.int .i64 0),t,.val (.bool false),.val (sB []),.val (sB []),.val (sB []),.val (sB []),.val (sB []),.val (sB []),.val (sB []),.val (sB [])]
def BP (c:Nat):List eG:=[.val (.bool false),.ls 8,.at_ 68,.ls 9,.at_ c,.at_ c]
def doP (st:List eG)(b a r:eG)(n:Int):eG:= .tup [.agg ((lG 0 17++(aa5++st))++[b,a,r]),.val (.int .i64 n)]
def ahA:eG:= .val (.slice none 0 0)
noncomputable def zS (B:aE)(T:Tb)(E:List dO)(op res:eG):Bool:=match dR B T (bT E) 10 (eW 0 [.agg eEP,op]).1 {nc:=(eW 0 [.agg eEP,op]).2}with
 |some (r,_)=>fN (eW 0 [.agg eEP,op]).2 res r
 |none=>false
def aw7 (k:Int)(p:Bool):Tb:=mR [⟨.neq,.lit (.int .i64 k),.atom 8168,.lit (.bool p)⟩] [] [] []
def aBR (p:Bool):Tb:=mR [⟨.neq,.lit (.int .i64 1),.atom 8168,.lit (.bool p)⟩] [] [] [⟨6,.lit (.int .i64 1)⟩]
def aa7 (p:Bool):eG:=if p then .ls 12 else .at_ 8160
theorem al6 (B:aE)(p:Bool):zS B (aBR p) [mY,NJ,XJ true,qM] (UJ 0 (.at_ 5036)) (doP (BP 224) (aa7 p) ahA (.val (.int .i64 1)) 0)=true:=by cases p<;>kernel_rfl
theorem ahB (B:aE):zS B (mR [] [] [] [⟨6,.lit (.int .i64 1)⟩]) [mY,NJ,XJ false,qM] (UJ 0 (.at_ 5036)) (doP BO (.at_ 8160) (.at_ 8164) (.at_ 8168) 4)=true:=by kernel_rfl
theorem al7 (B:aE)(p:Bool):zS B (aw7 2 p) [mY,GY false true,qM] (UJ 2 (.val (sB []))) (doP (BP 232) (aa7 p) ahA (.val (.int .i64 2)) 0)=true:=by cases p<;>kernel_rfl
theorem RI (B:aE)(z:Bool):zS B iT [mY,GY z false,qM] (UJ 2 (.val (sB []))) (doP BO (.at_ 8160) (.at_ 8164) (.at_ 8168) (if z then 7 else 4))=true:=by cases z<;>kernel_rfl
theorem al8 (B:aE):zS B iT [mY,ag7] (UJ 3 (.val (sB []))) (doP [.val (.bool false),.at_ 8140,.at_ 8144,.at_ 8148,.at_ 232,.at_ 232] (.at_ 8160) (.at_ 8164) (.val (.int .i64 0)) 0)=true:=by kernel_rfl
theorem al9 (B:aE):zS B (mR [] [] [] [⟨14,.atom 224⟩]) [mY,ag8,ag9,qM] (UJ 7 (.val (sB []))) (doP (BP 224) (.ls 12) ahA (.val (.int .i64 0)) 0)=true:=by kernel_rfl
section
variable {v:Value}{w2:World}
theorem pZ {B:aE}{P:Program}{f:Nat}(l:List (Arg B))(r:Ans B)(h:∀(w:World) (xs:List Value),eN B w->ajK l w xs->Calls P f xs.toArray w fun e w'=>∃x,e=.returned x/\r.P w.heap.size w' x/\Below w.heap.size w w'):aK B P ⟨f,l.map (·.p),r.p⟩:=by
 refine⟨TD l,fun w hu xs hx=>(h w xs hu (TC hx)).mono ?_⟩;rintro e w' ⟨x,rfl,hx,hb⟩;exact⟨x,rfl,r.inn _ _ _ hx,hb⟩
section
variable {w:World}{D:eB}{pv sv nv mv v1 v2 v3 vi vf vb va:Value}{s:Eg}{X:List (Nat×Value)}
abbrev aB (w:World)(D:eB)(pv sv nv mv v1 v2 v3:Value)(s:Eg)(vi vf vb va:Value)(X:List (Nat×Value)):aE:=dB w (pD D pv sv nv mv v1 v2 v3 s vi vf vb va) X
def aw8:Arg (aB w D pv sv nv mv v1 v2 v3 s vi vf vb va X):=⟨.agg (lG 0 17),fun _ x=>x=.agg (aY D pv sv nv mv).toArray,ag6,fun _ _ _ h=>asN h⟩
def aDr (hn:s.d.neg=false):Arg (aB w D pv sv nv mv v1 v2 v3 s vi vf vb va X):=⟨al4,fun _ x=>x=mT vi vf s.d,⟨trivial,⟨_,aA (q:=35) rfl⟩,⟨_,aA (q:=36) rfl⟩,⟨_,aA (q:=37) rfl⟩,trivial⟩,fun _ _ _ h=>asO hn h⟩
def aSt (hn:s.d.neg=false):Arg (aB w D pv sv nv mv v1 v2 v3 s vi vf vb va X):=⟨.agg BO,fun _ x=>x=oQ vi vf s.d s.c,UI,fun _ _ _ h=>al5 hn h⟩
def aF:Arg (aB w D pv sv nv mv v1 v2 v3 s vi vf vb va X):=⟨.agg fEP,fun _ x=>x=.agg (fV (aY D pv sv nv mv) (bH v1 v2 v3) s.d s.c vi vf).toArray,aw6,fun _ _ _ h=>aw5 h⟩
def aBT:Arg (aB w D pv sv nv mv v1 v2 v3 s vi vf vb va X):=⟨.agg aa5,fun _ x=>x=.agg (bH v1 v2 v3).toArray,UH,fun _ _ x h=>by
 obtain⟨ys,rfl,k⟩:=h;rw[GX k]⟩
def aVb:Arg (aB w D pv sv nv mv v1 v2 v3 s vi vf vb va X):=⟨.at_ 8160,fun _ x=>x=vb,⟨_,aA (q:=40) rfl⟩,fun _ _ _ h=>bF (aA (q:=40) rfl) h⟩
theorem l8 {l:List Int}(h:aC w v l)(hu:eN (aB w D pv sv nv mv v1 v2 v3 s vi vf vb va X) w2):aC w2 v l:=by
 have h1:jJ (fun _=>True) w v l:=⟨h,fun _ _ _=>trivial⟩;exact(h1.mono (G':=fun _=>True) fun b _ ha=>⟨hu.old b ha,trivial⟩).1
theorem aw9 {t sz:Nat}{ys:List Value}(h:nS (fun _=>True) w t sz v ys)(hu:eN (aB w D pv sv nv mv v1 v2 v3 s vi vf vb va X) w2):nS (fun _=>True) w2 t sz v ys:=h.mono fun b _ ha=>⟨hu.old b ha,trivial⟩
end
theorem amA {w w':World}{t:TypeId}{n:Nat}{xs:List Value}{N:Nat}(h:w'.ownsRow N t 1 v n xs):v.oneCell'=true:=by
 obtain⟨b,off,c,rfl,_⟩:=bJ h;rfl
section
variable {G:Nat->Prop}{w:World}{j:Nat}{pv sv nv mv v1 v2 v3 vi vf vb va:Value}{us ax:List Value}{s:Eg}{X:List (Nat×Value)}
theorem zT (E:iE G w j pv sv nv mv v1 v2 v3)(h1:vi.oneCell'=true)(h2:vf.oneCell'=true)(d:Dr)(c:Nat):∀u∈fV (aY (aI j) pv sv nv mv) (bH v1 v2 v3) d c vi vf,u.oneCell'=true:=by
 obtain⟨_,_,_,rfl,_⟩:=E.L.a;obtain⟨_,_,_,rfl,_⟩:=E.L.b;have e1:=E.a.one;have e2:=E.b.one;have e3:=E.c.one;have e4:=E.L.on;have e5:=E.L.om;intro u hu;simp only[fV,aY,eB.is,bH,pV,Rc.l,aEQ,aER,aFF,aGX]at hu;rcases hu with((rfl|rfl|rfl|rfl|rfl|rfl|rfl|rfl)|(rfl|rfl|rfl|rfl)|(rfl|rfl|rfl|rfl|rfl))|(rfl|rfl|rfl|rfl|rfl|rfl|rfl|rfl|rfl|rfl|rfl|rfl|rfl|rfl|rfl|rfl|rfl)|(rfl|rfl|rfl|rfl|rfl|rfl)<;>first|rfl|assumption
theorem vD (hj:j<40)(E:iE G w j pv sv nv mv v1 v2 v3)(V:qK G w (aY (aI j) pv sv nv mv) (bH v1 v2 v3) s vi vf vb va us ax)(g:mU s)(hX:(aB w (aI j) pv sv nv mv v1 v2 v3 s vi vf vb va X).A 46=some (.int .i64 0)):aK (aB w (aI j) pv sv nv mv v1 v2 v3 s vi vf vb va X) prog mY:=by
 refine pZ [aw8,aDr g.d.ng] ⟨.ls 11,fun _ _ x=>x.oneCell'=true,⟨by decide,_,hX⟩,fun _ _ x hx=>⟨by decide,hx,_,hX,trivial⟩⟩ ?_;rintro w2 _ hu ⟨_,_,rfl,rfl,_,_,rfl,rfl,rfl⟩;have L:=UF hj (w:=w2) (E.L.mono fun b _ ha=>⟨hu.old b ha,trivial⟩);refine(GH (aI j).rc pv sv nv mv (aI j).mi (aI j).mf (aI j).xf (aI j).L vi vf s.d w2 L (g.d.stOK (aES _) (l8 V.i.1 hu) (l8 V.f.1 hu)).ok g.d.ng (nQ hj).1 g.d).mono ?_;rintro e w' ⟨v',rfl,ho,hb⟩;exact⟨v',rfl,amA (w:=w2) ho,hb⟩
theorem GZ (E:iE G w j pv sv nv mv v1 v2 v3)(V:qK G w (aY (aI j) pv sv nv mv) (bH v1 v2 v3) s vi vf vb va us ax)(hb:(s.beh.getD []).length<=5)(hX:(aB w (aI j) pv sv nv mv v1 v2 v3 s vi vf vb va X).A 50=some (.iface 43 (.iface 40 (.agg (us++fV (aY (aI j) pv sv nv mv) (bH v1 v2 v3) s.d s.c vi vf).toArray)))):aK (aB w (aI j) pv sv nv mv v1 v2 v3 s vi vf vb va X) prog qM:=by
 refine pZ [aVb,aF,rP (.val _)] ⟨.ls 12,fun N W x=>x.oneCell'=true/\nS (fun g=>N<=g) W 43 40 x (us++fV (aY (aI j) pv sv nv mv) (bH v1 v2 v3) s.d s.c vi vf),⟨by decide,_,hX⟩,fun _ _ x hx=>⟨by decide,hx.1,_,hX,hx.2⟩⟩ ?_;rintro w2 _ hu ⟨_,_,rfl,rfl,_,_,rfl,rfl,_,_,rfl,rfl,rfl⟩;refine(P4 (us:=us) (fs:=fV (aY (aI j) pv sv nv mv) (bH v1 v2 v3) s.d s.c vi vf) hb (aw9 (V.b.mono fun _ _ _=>⟨rfl,trivial⟩) hu) V.ul rfl V.u1 (zT E V.i.one V.f.one s.d s.c) (.inl rfl)).mono ?_;rintro e w' ⟨v',rfl,q1,q2,q3⟩;exact⟨v',rfl,⟨q1,q2⟩,q3⟩
theorem aa8 {d:Nat}(hj:j<40)(hd:d<10)(E:iE G w j pv sv nv mv v1 v2 v3)(hX:(aB w (aI j) pv sv nv mv v1 v2 v3 s vi vf vb va X).A 5036=some (jK d))(h6:cG (aB w (aI j) pv sv nv mv v1 v2 v3 s vi vf vb va X) 6 [(d:Int)]):aK (aB w (aI j) pv sv nv mv v1 v2 v3 s vi vf vb va X) prog NJ:=by
 refine pZ [aw8,rP (.atm hX)] ⟨.tup [.agg [.val (.bool false),.ls 6],.val (.int .i64 0)],fun N W x=>∃v,x=.tuple #[.agg #[.bool false,v],.int .i64 0]/\aC W v [(d:Int)]/\dC N v,⟨⟨trivial,jM h6,trivial⟩,trivial,trivial⟩,fun N W x hx=>?_⟩ ?_
 ·obtain⟨v,rfl,h1,h2⟩:=hx;exact⟨_,rfl,_,_,rfl,⟨_,rfl,_,_,rfl,rfl,_,_,rfl,E7 h6 h1 h2,rfl⟩,_,_,rfl,rfl,rfl⟩
 ·rintro w2 _ hu ⟨_,_,rfl,rfl,_,_,rfl,rfl,rfl⟩;have K:qI (aI j):=zP hj;obtain⟨_,_,_,rfl,_⟩:=E.L.a;obtain⟨_,_,_,rfl,_⟩:=E.L.b;refine(ZW hj hd K.dg rfl rfl E.L.on E.L.om w2).mono ?_;rintro e w' ⟨v,rfl,h1,h2,h3⟩;exact⟨_,rfl,⟨v,rfl,h1,h2⟩,h3⟩
end
end
section
variable {G2:Nat->Prop}{w2 w':World}{B:aE}{k n:Int}{v y:Value}{st:List eG}{b a r:eG}{c:Nat}{D:Dr}
def opV (k:Int)(t:Value):Value:= .agg #[.int .i64 k,.int .i64 0,.int .i64 0,t,.bool false,sB [],sB [],sB [],sB [],sB [],sB [],sB [],sB []]
section
variable {G:Nat->Prop}{w:World}{j:Nat}{pv sv nv mv v1 v2 v3 vi vf vb va:Value}{us ax:List Value}{s:Eg}{X:List (Nat×Value)}
theorem aBU (E:iE G w j pv sv nv mv v1 v2 v3)(V:qK G w (aY (aI j) pv sv nv mv) (bH v1 v2 v3) s vi vf vb va us ax):kW (aB w (aI j) pv sv nv mv v1 v2 v3 s vi vf vb va X) G2 w2 eEP (pD (aI j) pv sv nv mv v1 v2 v3 s vi vf vb va):=by
 have h1:=zT E V.i.one V.f.one s.d s.c;have hb:vb.oneCell'=true:=by obtain⟨_,_,_,rfl,_⟩:=V.b;rfl
 have ha:va.oneCell'=true:=by obtain⟨_,_,_,rfl,_⟩:=V.a;rfl
 refine mM (mM (zF (aY (aI j) pv sv nv mv) 0 fun q v hq=>⟨RH hq,h1 v (aGK _ (aE6 hq))⟩) (mM ?_ ?_)) ?_
 ·exact⟨_,_,rfl,rfl,_,_,rfl,⟨aA (q:=18) rfl,E.a.one⟩,_,_,rfl,rfl,_,_,rfl,rfl,_,_,rfl,⟨aA (q:=21) rfl,E.b.one⟩,_,_,rfl,rfl,_,_,rfl,rfl,_,_,rfl,⟨aA (q:=24) rfl,E.c.one⟩,_,_,rfl,rfl,_,_,rfl,rfl,_,_,rfl,rfl,_,_,rfl,rfl,_,_,rfl,rfl,_,_,rfl,rfl,_,_,rfl,rfl,_,_,rfl,rfl,_,_,rfl,rfl,rfl⟩
 ·exact⟨_,_,rfl,rfl,_,_,rfl,⟨aA (q:=35) rfl,V.i.one⟩,_,_,rfl,⟨aA (q:=36) rfl,rfl⟩,_,_,rfl,⟨aA (q:=37) rfl,V.f.one⟩,_,_,rfl,⟨aA (q:=38) rfl,rfl⟩,_,_,rfl,⟨aA (q:=38) rfl,rfl⟩,rfl⟩
 ·exact⟨_,_,rfl,⟨aA (q:=40) rfl,hb⟩,_,_,rfl,⟨aA (q:=41) rfl,ha⟩,_,_,rfl,⟨aA (q:=42) rfl,rfl⟩,rfl⟩
theorem axA {t:eG}(h:fG B G2 w2 t v):fG B G2 w2 (UJ k t) (opV k v):=
 ⟨_,rfl,_,_,rfl,rfl,_,_,rfl,rfl,_,_,rfl,rfl,_,_,rfl,h,_,_,rfl,rfl,_,_,rfl,rfl,_,_,rfl,rfl,_,_,rfl,rfl,_,_,rfl,rfl,_,_,rfl,rfl,_,_,rfl,rfl,_,_,rfl,rfl,_,_,rfl,rfl,rfl⟩
theorem anW {t:eG}(h:qC B t):qC B (UJ k t):=⟨trivial,trivial,trivial,h,trivial,trivial,trivial,trivial,trivial,trivial,trivial,trivial,trivial,trivial⟩
theorem ahC (h1:lJ (aB w (aI j) pv sv nv mv v1 v2 v3 s vi vf vb va X) st)(h2:qC (aB w (aI j) pv sv nv mv v1 v2 v3 s vi vf vb va X) b)(h3:qC (aB w (aI j) pv sv nv mv v1 v2 v3 s vi vf vb va X) a)(h4:qC (aB w (aI j) pv sv nv mv v1 v2 v3 s vi vf vb va X) r):qC (aB w (aI j) pv sv nv mv v1 v2 v3 s vi vf vb va X) (doP st b a r n):=
 ⟨iA (iA ag6 (iA UH h1)) ⟨h2,h3,h4,trivial⟩,trivial,trivial⟩
theorem NK (E:iE G w j pv sv nv mv v1 v2 v3)(V:qK G w (aY (aI j) pv sv nv mv) (bH v1 v2 v3) s vi vf vb va us ax)(hX:VK X=true){T:Tb}(hT:kY prog (aB w (aI j) pv sv nv mv v1 v2 v3 s vi vf vb va X) T){Es:List dO}(hE:∀e∈Es,aK (aB w (aI j) pv sv nv mv v1 v2 v3 s vi vf vb va X) prog e){t:eG}(ht:qC (aB w (aI j) pv sv nv mv v1 v2 v3 s vi vf vb va X) t)(hv:fG (aB w (aI j) pv sv nv mv v1 v2 v3 s vi vf vb va X) (fun _=>True) w t v){res:eG}(hr:qC (aB w (aI j) pv sv nv mv v1 v2 v3 s vi vf vb va X) res)(h:zS (aB w (aI j) pv sv nv mv v1 v2 v3 s vi vf vb va X) T Es (UJ k t) res=true):
  Calls prog 10 #[.agg (pD (aI j) pv sv nv mv v1 v2 v3 s vi vf vb va).toArray,opV k v] w fun e w'=>∃x,e=.returned x/\fG (aB w (aI j) pv sv nv mv v1 v2 v3 s vi vf vb va X) (fun g=>w.heap.size<=g) w' res x/\Below w.heap.size w w':=by
 have hM:aK (aB w (aI j) pv sv nv mv v1 v2 v3 s vi vf vb va X) prog ⟨10,[.agg eEP,UJ k t],res⟩:=sD (aw3 hX) (bY hT (bB hE)) rfl ⟨aBQ,anW ht,trivial⟩ hr h
 exact hM.2 w (aBO _ _ _) [.agg (pD (aI j) pv sv nv mv v1 v2 v3 s vi vf vb va).toArray,opV k v] ⟨_,_,rfl,⟨_,rfl,aBU E V⟩,_,_,rfl,axA hv,rfl⟩
theorem UK {x:Value}(h:fG (aB w (aI j) pv sv nv mv v1 v2 v3 s vi vf vb va X) G2 w2 (doP st b a r n) x):
  ∃ys y z u,x=.tuple #[.agg ((aY (aI j) pv sv nv mv++(bH v1 v2 v3++ys))++[y,z,u]).toArray,.int .i64 n]/\kW (aB w (aI j) pv sv nv mv v1 v2 v3 s vi vf vb va X) G2 w2 st ys/\fG (aB w (aI j) pv sv nv mv v1 v2 v3 s vi vf vb va X) G2 w2 b y/\fG (aB w (aI j) pv sv nv mv v1 v2 v3 s vi vf vb va X) G2 w2 a z/\fG (aB w (aI j) pv sv nv mv v1 v2 v3 s vi vf vb va X) G2 w2 r u:=by
 obtain⟨_,rfl,y0,_,rfl,⟨cs,rfl,k⟩,y1,_,rfl,k1,rfl⟩:=h
 obtain⟨a0,b0,rfl,k2,y,_,rfl,k3,z,_,rfl,k4,u,_,rfl,k5,rfl⟩:=gW k
 obtain⟨l,b1,rfl,k6,k7⟩:=gW k2
 obtain⟨q,ys,rfl,k8,k9⟩:=gW k7
 rw[lH (aY (aI j) pv sv nv mv) 0 l (fun q v hq=>RH hq) k6,GX k8,show y1=_ from k1]
 exact⟨ys,y,z,u,rfl,k9,k3,k4,k5⟩
theorem amB {n:Nat}(hS:pJ B 8 68 9 c D n){ys:List Value}(h:kW B G2 w2 (BP c) ys):∃vc vd,ys=pV D n vc vd/\jJ G2 w2 vc D.int/\jJ G2 w2 vd D.frac:=by
 obtain⟨y0,_,rfl,b0,y1,_,rfl,b1,y2,_,rfl,b2,y3,_,rfl,b3,y4,_,rfl,b4,y5,_,rfl,b5,rfl⟩:=h;rw[show y0=_ from b0,bF hS.s b2,bF hS.c b4,bF hS.c b5];exact⟨y1,y3,rfl,yT hS.l b1,yT hS.r b3⟩
theorem vE {t sz:Nat}:nS G2 w2 t sz (.slice none 0 0) []:=⟨none,0,0,rfl,aD1 _,by omega,by simp,.inl ⟨rfl,rfl⟩⟩
theorem asP (E:iE G w j pv sv nv mv v1 v2 v3)(V:qK G w (aY (aI j) pv sv nv mv) (bH v1 v2 v3) s vi vf vb va us ax){p:Bool}(hp:dF s k=if p=true then some (s.beh.getD []++[(s.d,s.c)])else s.beh)(hb:Below w.heap.size w w')(hX:(aB w (aI j) pv sv nv mv v1 v2 v3 s vi vf vb va X).A 50=some (.iface 43 (.iface 40 (.agg (us++fV (aY (aI j) pv sv nv mv) (bH v1 v2 v3) s.d s.c vi vf).toArray))))(hy:fG (aB w (aI j) pv sv nv mv v1 v2 v3 s vi vf vb va X) (fun g=>w.heap.size<=g) w' (aa7 p) y){vc vd:Value}(h1:jJ (fun g=>w.heap.size<=g) w' vc D.int)(h2:jJ (fun g=>w.heap.size<=g) w' vd D.frac):
  qK (fun g=>G g∨w.heap.size<=g) w' (aY (aI j) pv sv nv mv) (bH v1 v2 v3) ⟨D,c,dF s k,s.ah.map fun _=>0,k⟩ vc vd y (.slice none 0 0) (GW p vb us (fV (aY (aI j) pv sv nv mv) (bH v1 v2 v3) s.d s.c vi vf)).us []/\
   (GW p vb us (fV (aY (aI j) pv sv nv mv) (bH v1 v2 v3) s.d s.c vi vf)).Is w w' ⟨D,c,dF s k,s.ah.map fun _=>0,k⟩ vc vd y (.slice none 0 0):=by
 have hO:∀b,G b->b<w.heap.size->w'.heap[b]?=w.heap[b]?/\(G b∨w.heap.size<=b):=fun b h hc=>⟨hb.block b hc,.inl h⟩
 have hN:∀b,w.heap.size<=b->b<w'.heap.size->w'.heap[b]?=w'.heap[b]?/\(G b∨w.heap.size<=b):=fun b h _=>⟨rfl,.inr h⟩
 have ha:((s.ah.map fun _=>0).getD 0)=0:=ag1 _
 cases p with
 |true=>
  have hp:dF s k=some (s.beh.getD []++[(s.d,s.c)]):=hp
  obtain⟨_,q1,gh,q2,q3⟩:=(show fG _ _ _ (.ls 12) y from hy)
  rw[show(aB w (aI j) pv sv nv mv v1 v2 v3 s vi vf vb va X).A (gid 12)=_ from hX]at q2
  injection q2 with q2
  subst q2
  have q3:nS (fun g=>w.heap.size<=g) w' 43 40 y (us++fV (aY (aI j) pv sv nv mv) (bH v1 v2 v3) s.d s.c vi vf):=q3
  refine⟨⟨h1.mono hN,h2.mono hN,q3.mono hN,?_,?_,?_,vE,?_,(fun _ h=>by cases h),fun g _ h=>by cases h⟩,⟨h1,h2⟩,q3,rfl⟩
  ·rw[hp];exact gM.snoc (t:=(s.d,s.c)) (V.i.mono hO) (V.f.mono hO) (V.r.mono hO)
  ·rw[hp];show(us++fV (aY (aI j) pv sv nv mv) (bH v1 v2 v3) s.d s.c vi vf).length=_;rw[aD2,V.ul];show _+40=40*(s.beh.getD []++[(s.d,s.c)]).length;rw[aD2];simp only[aEN,aEW];omega
  ·exact DK V.u1 (zT E V.i.one V.f.one s.d s.c)
  ·show([]:List Value).length=_;rw[ha];rfl
 |false=>
  have hp:dF s k=s.beh:=hp
  have q1:=bF (aA (w:=w) (X:=X) (D:=aI j) (pv:=pv) (sv:=sv) (nv:=nv) (mv:=mv) (v1:=v1) (v2:=v2) (v3:=v3) (s:=s) (vi:=vi) (vf:=vf) (vb:=vb) (va:=va) (q:=40) rfl) (show fG _ _ _ (.at_ 8160) y from hy)
  subst q1
  refine⟨⟨h1.mono hN,h2.mono hN,V.b.mono hO,?_,?_,V.u1,vE,?_,(fun _ h=>by cases h),fun g _ h=>by cases h⟩,⟨h1,h2⟩,rfl,rfl⟩
  ·rw[hp];exact V.r.mono hO
  ·rw[hp];exact V.ul
  ·show([]:List Value).length=_;rw[ha];rfl
theorem asQ (V:qK G w (aY (aI j) pv sv nv mv) (bH v1 v2 v3) s vi vf vb va us ax)(hb:Below w.heap.size w w'){st:List Value}{z u:Value}(h1:kW (aB w (aI j) pv sv nv mv v1 v2 v3 s vi vf vb va X) G2 w' BO st)(h2:fG (aB w (aI j) pv sv nv mv v1 v2 v3 s vi vf vb va X) G2 w' (.at_ 8160) y)(h3:fG (aB w (aI j) pv sv nv mv v1 v2 v3 s vi vf vb va X) G2 w' (.at_ 8164) z)(h4:fG (aB w (aI j) pv sv nv mv v1 v2 v3 s vi vf vb va X) G2 w' (.at_ 8168) u)(n:Int):
  UG G w (aY (aI j) pv sv nv mv) (bH v1 v2 v3) (s,n) ⟨false,false,false,vi,vf,vb,va,us,ax⟩ (.returned (.tuple #[.agg ((aY (aI j) pv sv nv mv++(bH v1 v2 v3++st))++[y,z,u]).toArray,.int .i64 n])) w':=by
 rw[NI h1,bF (aA (q:=40) rfl) h2,bF (aA (q:=41) rfl) h3,bF (aA (q:=42) rfl) h4]
 exact⟨⟨vi,vf,vb,va,rfl,V.mono fun b h ha=>⟨hb.block b ha,.inl h⟩,⟨rfl,rfl⟩,rfl,rfl⟩,hb⟩
end
end
section
variable {B:aE}{k r:Int}{p:Bool}{X:List (Nat×Value)}{T:Tb}{Es:List dO}{v:Value}
theorem axB {P:Program}(h:B.A 8168=some (.int .i64 r))(hp:(k !=r)=p):wT P B ⟨.neq,.lit (.int .i64 k),.atom 8168,.lit (.bool p)⟩:=
 ⟨.int .i64 k,.int .i64 r,.bool p,rfl,cS h rfl,rfl,fun t ox oy w=>by subst hp;simp[eqGuard,binOp,Op.intCmp,bne]⟩
theorem DS {s:Eg}(hk:k≠0)(hp:(k !=s.run)=p):dF s k=if p=true then some (s.beh.getD []++[(s.d,s.c)])else s.beh:=by
 unfold dF;subst hp;by_cases h:k=s.run
 ·rw[aD4 (by simp[hk,h];omega),aD4 (by simp[h])]
 ·rw[aD6 (.inr h),aD6 (by simpa using h)]
section
variable {G:Nat->Prop}{w:World}{j:Nat}{pv sv nv mv v1 v2 v3 vi vf vb va:Value}{us ax:List Value}{s:Eg}
theorem UL (E:iE G w j pv sv nv mv v1 v2 v3)(V:qK G w (aY (aI j) pv sv nv mv) (bH v1 v2 v3) s vi vf vb va us ax)(hX:VK X=true)(hT:kY prog (aB w (aI j) pv sv nv mv v1 v2 v3 s vi vf vb va X) T)(hE:∀e∈Es,aK (aB w (aI j) pv sv nv mv v1 v2 v3 s vi vf vb va X) prog e){n:Int}{t:eG}(ht:qC (aB w (aI j) pv sv nv mv v1 v2 v3 s vi vf vb va X) t)(hv:fG (aB w (aI j) pv sv nv mv v1 v2 v3 s vi vf vb va X) (fun _=>True) w t v)(h:zS (aB w (aI j) pv sv nv mv v1 v2 v3 s vi vf vb va X) T Es (UJ k t) (doP BO (.at_ 8160) (.at_ 8164) (.at_ 8168) n)=true):
  Calls prog 10 #[.agg (pD (aI j) pv sv nv mv v1 v2 v3 s vi vf vb va).toArray,opV k v] w fun e w'=>UG G w (aY (aI j) pv sv nv mv) (bH v1 v2 v3) (s,n) ⟨false,false,false,vi,vf,vb,va,us,ax⟩ e w':=by
 refine(NK E V hX hT hE ht hv (res:=doP BO (.at_ 8160) (.at_ 8164) (.at_ 8168) n) (ahC UI ⟨_,aA (q:=40) rfl⟩ ⟨_,aA (q:=41) rfl⟩ ⟨_,aA (q:=42) rfl⟩) h).mono ?_
 rintro e w' ⟨x,rfl,hx,ha⟩
 obtain⟨ys,y,z,u,rfl,k1,k2,k3,k4⟩:=UK hx
 exact asQ V ha k1 k2 k3 k4 n
theorem UM (E:iE G w j pv sv nv mv v1 v2 v3)(V:qK G w (aY (aI j) pv sv nv mv) (bH v1 v2 v3) s vi vf vb va us ax)(hX:VK X=true)(hT:kY prog (aB w (aI j) pv sv nv mv v1 v2 v3 s vi vf vb va X) T)(hE:∀e∈Es,aK (aB w (aI j) pv sv nv mv v1 v2 v3 s vi vf vb va X) prog e){t:eG}(ht:qC (aB w (aI j) pv sv nv mv v1 v2 v3 s vi vf vb va X) t)(hv:fG (aB w (aI j) pv sv nv mv v1 v2 v3 s vi vf vb va X) (fun _=>True) w t v){c:Nat}{D:Dr}{n:Nat}(hS:pJ (aB w (aI j) pv sv nv mv v1 v2 v3 s vi vf vb va X) 8 68 9 c D n)(ha:(aB w (aI j) pv sv nv mv v1 v2 v3 s vi vf vb va X).A 50=some (.iface 43 (.iface 40 (.agg (us++fV (aY (aI j) pv sv nv mv) (bH v1 v2 v3) s.d s.c vi vf).toArray))))(hp:dF s r=if p=true then some (s.beh.getD []++[(s.d,s.c)])else s.beh)(h:zS (aB w (aI j) pv sv nv mv v1 v2 v3 s vi vf vb va X) T Es (UJ k t) (doP (BP c) (aa7 p) ahA (.val (.int .i64 r)) 0)=true):
  Calls prog 10 #[.agg (pD (aI j) pv sv nv mv v1 v2 v3 s vi vf vb va).toArray,opV k v] w fun e w'=>UG G w (aY (aI j) pv sv nv mv) (bH v1 v2 v3) (⟨D,n,dF s r,s.ah.map fun _=>0,r⟩,0) (GW p vb us (fV (aY (aI j) pv sv nv mv) (bH v1 v2 v3) s.d s.c vi vf)) e w':=by
 have hc:qC (aB w (aI j) pv sv nv mv v1 v2 v3 s vi vf vb va X) (aa7 p):=by
  cases p
  ·exact⟨_,aA (q:=40) rfl⟩
  ·exact⟨by decide,_,ha⟩
 refine(NK E V hX hT hE ht hv (res:=doP (BP c) (aa7 p) ahA (.val (.int .i64 r)) 0) (ahC ⟨trivial,jM hS.l,⟨_,hS.s⟩,jM hS.r,⟨_,hS.c⟩,⟨_,hS.c⟩,trivial⟩ hc trivial trivial) h).mono ?_
 rintro e w' ⟨x,rfl,hx,hb⟩
 obtain⟨ys,y,z,u,rfl,k1,k2,k3,k4⟩:=UK hx
 obtain⟨vc,vd,rfl,l1,l2⟩:=amB hS k1
 rw[show z=_ from k3,show u=_ from k4]
 obtain⟨m1,m2⟩:=asP E V hp hb ha k2 l1 l2
 exact⟨⟨vc,vd,y,_,rfl,m1,m2⟩,hb⟩
set_option maxRecDepth 100000 in
theorem amC (hj:j<40)(E:iE G w j pv sv nv mv v1 v2 v3)(V:qK G w (aY (aI j) pv sv nv mv) (bH v1 v2 v3) s vi vf vb va us ax)(g:mU s){d:Nat}(hd:d<10)(hb:(s.beh.getD []).length<=5):
  Calls prog 10 #[.agg (pD (aI j) pv sv nv mv v1 v2 v3 s vi vf vb va).toArray,opV 0 (jK d)] w fun e w'=>UG G w (aY (aI j) pv sv nv mv) (bH v1 v2 v3) (stepT d s) (if fZ (aN false (lX s.d s.c [(d:Int)])) 6 4=true then GW ((1:Int) !=s.run) vb us (fV (aY (aI j) pv sv nv mv) (bH v1 v2 v3) s.d s.c vi vf)else⟨false,false,false,vi,vf,vb,va,us,ax⟩) e w':=by
 obtain⟨D,hD⟩:∃D,aN false (lX s.d s.c [(d:Int)])=D:=⟨_,rfl⟩
 have hl:D.neg=false:=by rw[<-hD];exact fD _ _
 obtain⟨b,hf⟩:∃b,fZ D 6 4=b:=⟨_,rfl⟩
 let X:List (Nat×Value):=[(26,.agg (ints [(d:Int)]).toArray),(34,.agg (ints D.int).toArray),(38,.agg (ints D.frac).toArray),(46,.int .i64 0),(50,.iface 43 (.iface 40 (.agg (us++fV (aY (aI j) pv sv nv mv) (bH v1 v2 v3) s.d s.c vi vf).toArray))),(68,.bool D.sep),(224,.int .i64 ((s.c+1:Nat):Int)),(5036,jK d)]
 let B:aE:=aB w (aI j) pv sv nv mv v1 v2 v3 s vi vf vb va X
 have hX:VK X=true:=by kernel_rfl
 have h6:cG B 6 [(d:Int)]:=⟨by decide,rfl⟩
 have hS:pJ B 8 68 9 224 D (s.c+1):=⟨⟨by decide,rfl⟩,⟨by decide,rfl⟩,rfl,rfl⟩
 have hR:dQ B (.val (.bool false)) 8 (.at_ 68) 9 D:=⟨hS.l,hS.r,by rw[hl];exact .val _,.atm hS.s⟩
 have hc:B.A 5036=some (jK d):=rfl
 have hh:B.A 50=some (.iface 43 (.iface 40 (.agg (us++fV (aY (aI j) pv sv nv mv) (bH v1 v2 v3) s.d s.c vi vf).toArray))):=rfl
 have hn:B.A 46=some (.int .i64 0):=rfl
 have hF:NP B (.at_ 224) (.int .i64 ((s.c+1:Nat):Int)):= .atm rfl
 have hg:aK B prog (XJ b):=by
  have ho:qC B (oT b):=by
   cases b
   ·exact⟨iH,trivial,trivial⟩
   ·exact⟨iR hR hF,trivial,trivial⟩
  refine pZ [aSt g.d.ng,afE,afF h6] ⟨oT b,fun N w x=>if b=true then ∃vi vf,x=.tuple #[oQ vi vf D (s.c+1),.int .i64 0]/\aC w vi D.int/\aC w vf D.frac/\cW N vi D.int/\cW N vf D.frac else x=.tuple #[xF,.int .i64 4],ho,fun N w x hx=>by
   cases b
   ·exact(noR (B:=B) 4).inn N w x hx
   ·exact(stR hR hF).inn N w x hx⟩ ?_
  rintro w2 _ hu ⟨_,_,rfl,rfl,_,_,rfl,rfl,_,_,rfl,⟨v,rfl,kv⟩,rfl⟩;refine(afJ vi vf v s.d s.c 6 4 true [(d:Int)] w2 (g.d.stOK g.c (l8 V.i.1 hu) (l8 V.f.1 hu)) kv (fun x hx=>by simp at hx;omega) (by simp) (yY (MP (oD g.d) s.c ⟨by omega,by omega⟩))).mono ?_;rintro e w' ⟨x,rfl,hx,hq⟩;unfold oS at hx;rw[hD,hf]at hx;exact⟨x,rfl,hx,hq⟩
 have hi:∀e∈[mY,NJ,XJ b,qM],aK B prog e:=aD (vD hj E V g hn) (aD (aa8 hj hd E hc h6) (aD hg (aD (GZ E V hb hh) aH)))
 have hk:∀F∈[(⟨6,.lit (.int .i64 1)⟩:LnF)],VL B F:=aD ⟨_,h6.2,rfl⟩ aH
 have hv:fG B (fun _=>True) w (.at_ 5036) (jK d):=⟨hc,rfl⟩
 have ha:stepT d s=if b=true then(⟨D,s.c+1,dF s 1,s.ah.map fun _=>0,1⟩,0)else(s,4):=by
  unfold stepT;rw[hD,hf]
 rw[ha,hD,hf]
 cases b with
 |false=>exact UL E V hX (bD aH aH aH hk) hi (t:= .at_ 5036) ⟨_,hc⟩ hv (ahB B)
 |true=>
  obtain⟨p,hp⟩:∃p,((1:Int) !=s.run)=p:=⟨_,rfl⟩
  rw[hp]
  exact UM E V hX (bD (aD (axB (aA (q:=42) rfl) hp) aH) aH aH hk) hi (t:= .at_ 5036) ⟨_,hc⟩ hv hS hh (DS (by decide) hp) (al6 B p)
theorem G1 {G2:Nat->Prop}{w2:World}:fG B G2 w2 (.val (sB [])) (sB []):=rfl
set_option maxRecDepth 100000 in
theorem amD (hj:j<40)(E:iE G w j pv sv nv mv v1 v2 v3)(V:qK G w (aY (aI j) pv sv nv mv) (bH v1 v2 v3) s vi vf vb va us ax)(g:mU s)(hb:(s.beh.getD []).length<=5):
  Calls prog 10 #[.agg (pD (aI j) pv sv nv mv v1 v2 v3 s vi vf vb va).toArray,opV 2 (sB [])] w fun e w'=>UG G w (aY (aI j) pv sv nv mv) (bH v1 v2 v3) (oV s) (if s.c=0 then⟨false,false,false,vi,vf,vb,va,us,ax⟩else if fZ (aN false (pH s.d s.c)) 6 4=true then GW ((2:Int) !=s.run) vb us (fV (aY (aI j) pv sv nv mv) (bH v1 v2 v3) s.d s.c vi vf)else⟨false,false,false,vi,vf,vb,va,us,ax⟩) e w':=by
 obtain⟨D,hD⟩:∃D,aN false (pH s.d s.c)=D:=⟨_,rfl⟩
 have hi:D.neg=false:=by rw[<-hD];exact fD _ _
 obtain⟨b,hd⟩:∃b,fZ D 6 4=b:=⟨_,rfl⟩
 obtain⟨z,hz⟩:∃z,decide (s.c=0)=z:=⟨_,rfl⟩
 let X:List (Nat×Value):=[(34,.agg (ints D.int).toArray),(38,.agg (ints D.frac).toArray),(46,.int .i64 0),(50,.iface 43 (.iface 40 (.agg (us++fV (aY (aI j) pv sv nv mv) (bH v1 v2 v3) s.d s.c vi vf).toArray))),(68,.bool D.sep),(232,.int .i64 ((s.c-1:Nat):Int))]
 let B:aE:=aB w (aI j) pv sv nv mv v1 v2 v3 s vi vf vb va X
 have hX:VK X=true:=by kernel_rfl
 have hS:pJ B 8 68 9 232 D (s.c-1):=⟨⟨by decide,rfl⟩,⟨by decide,rfl⟩,rfl,rfl⟩
 have hR:dQ B (.val (.bool false)) 8 (.at_ 68) 9 D:=⟨hS.l,hS.r,by rw[hi];exact .val _,.atm hS.s⟩
 have hh:B.A 50=some (.iface 43 (.iface 40 (.agg (us++fV (aY (aI j) pv sv nv mv) (bH v1 v2 v3) s.d s.c vi vf).toArray))):=rfl
 have hk:B.A 46=some (.int .i64 0):=rfl
 have hF:NP B (.at_ 232) (.int .i64 ((s.c-1:Nat):Int)):= .atm rfl
 have hf:aK B prog (GY z b):=by
  have hl:qC B (FC z b):=by
   cases z
   ·cases b
    ·exact⟨iH,trivial,trivial⟩
    ·exact⟨iR hR hF,trivial,trivial⟩
   ·exact⟨iH,trivial,trivial⟩
  refine pZ [aSt g.d.ng,afE,rP (.val (.int .i64 0))] ⟨FC z b,fun N w x=>if s.c=0 then x=.tuple #[xF,.int .i64 7]else if b=true then ∃vi vf,x=.tuple #[oQ vi vf D (s.c-1),.int .i64 0]/\aC w vi D.int/\aC w vf D.frac/\cW N vi D.int/\cW N vf D.frac else x=.tuple #[xF,.int .i64 4],hl,fun N w x hx=>by
   cases z
   ·have hc:s.c≠0:=aGG hz;rw[aD4 hc]at hx
    cases b
    ·exact(noR (B:=B) 4).inn N w x hx
    ·exact(stR hR hF).inn N w x hx
   ·have hc:s.c=0:=aE3 hz;rw[aD6 hc]at hx;exact(noR (B:=B) 7).inn N w x hx⟩ ?_
  rintro w2 _ hu ⟨_,_,rfl,rfl,_,_,rfl,rfl,_,_,rfl,rfl,rfl⟩;refine(T5 vi vf s.d s.c 6 4 true w2 (g.d.stOK g.c (l8 V.i.1 hu) (l8 V.f.1 hu)) (yY (MQ (oD g.d) s.c))).mono ?_;rintro e w' ⟨x,rfl,hx,hn⟩;unfold AZ at hx;rw[hD,hd]at hx;exact⟨x,rfl,hx,hn⟩
 have ha:oV s=if s.c=0 then(s,7)else if b=true then(⟨D,s.c-1,dF s 2,s.ah.map fun _=>0,2⟩,0)else(s,4):=by
  unfold oV;rw[hD,hd]
 rw[ha,hD,hd]
 have hg:∀e∈[mY,GY z b,qM],aK B prog e:=aD (vD hj E V g hk) (aD hf (aD (GZ E V hb hh) aH))
 cases z with
 |true=>
  rw[aD6 (aE3 hz),aD6 (aE3 hz)]
  exact UL E V hX (bD aH aH aH aH) (Es:=[mY,GY true false,qM]) hg (t:= .val (sB [])) trivial G1 (RI B true)
 |false=>
  rw[aD4 (aGG hz),aD4 (aGG hz)]
  cases b with
  |false=>exact UL E V hX (bD aH aH aH aH) hg (t:= .val (sB [])) trivial G1 (RI B false)
  |true=>
   obtain⟨p,hp⟩:∃p,((2:Int) !=s.run)=p:=⟨_,rfl⟩
   rw[hp]
   exact UM E V hX (bD (aD (axB (aA (q:=42) rfl) hp) aH) aH aH aH) hg (t:= .val (sB [])) trivial G1 hS hh (DS (by decide) hp) (al7 B p)
end
end
section
section
variable {G:Nat->Prop}{w:World}{j:Nat}{pv sv nv mv v1 v2 v3 vi vf vb va:Value}{us ax:List Value}{s:Eg}
set_option maxRecDepth 100000 in
theorem amE (hj:j<40)(E:iE G w j pv sv nv mv v1 v2 v3)(V:qK G w (aY (aI j) pv sv nv mv) (bH v1 v2 v3) s vi vf vb va us ax)(g:mU s):
  Calls prog 10 #[.agg (pD (aI j) pv sv nv mv v1 v2 v3 s vi vf vb va).toArray,opV 3 (sB [])] w fun e w'=>UG G w (aY (aI j) pv sv nv mv) (bH v1 v2 v3) (CF s) ⟨false,false,false,vi,vf,vb,va,us,ax⟩ e w':=by
 let X:List (Nat×Value):=[(46,.int .i64 0),(232,.int .i64 ((s.c-1:Nat):Int))]
 let B:aE:=aB w (aI j) pv sv nv mv v1 v2 v3 s vi vf vb va X
 have hX:VK X=true:=by kernel_rfl
 have hf:B.A 46=some (.int .i64 0):=rfl
 have hc:B.A 232=some (.int .i64 ((s.c-1:Nat):Int)):=rfl
 have hd:lJ B [.val (.bool false),.at_ 8140,.at_ 8144,.at_ 8148,.at_ 232,.at_ 232]:=⟨trivial,⟨_,aA (q:=35) rfl⟩,⟨_,aA (q:=36) rfl⟩,⟨_,aA (q:=37) rfl⟩,⟨_,hc⟩,⟨_,hc⟩,trivial⟩
 have hb:aK B prog ag7:=by
  refine pZ [aSt g.d.ng,rP (.val (.int .i64 0)),rP (.val (.bool false))] ⟨.tup [.agg [.val (.bool false),.at_ 8140,.at_ 8144,.at_ 8148,.at_ 232,.at_ 232],.val (.int .i64 0)],fun N w x=>x=.tuple #[oQ vi vf s.d (s.c-1),.int .i64 0],⟨hd,trivial,trivial⟩,fun N w x hx=>by
   rw[hx];unfold oQ;rw[g.d.ng];exact⟨_,rfl,_,_,rfl,⟨_,rfl,_,_,rfl,rfl,_,_,rfl,⟨aA (q:=35) rfl,V.i.one⟩,_,_,rfl,⟨aA (q:=36) rfl,rfl⟩,_,_,rfl,⟨aA (q:=37) rfl,V.f.one⟩,_,_,rfl,⟨hc,rfl⟩,_,_,rfl,⟨hc,rfl⟩,rfl⟩,_,_,rfl,rfl,rfl⟩⟩ ?_
  rintro w2 _ hu ⟨_,_,rfl,rfl,_,_,rfl,rfl,_,_,rfl,rfl,rfl⟩;refine(aaK vi vf s.d s.c w2 (g.d.stOK g.c (l8 V.i.1 hu) (l8 V.f.1 hu))).mono ?_;rintro e w' ⟨rfl,ha⟩;exact⟨_,rfl,rfl,ha⟩
 refine(NK E V hX (bD aH aH aH aH) (Es:=[mY,ag7]) (aD (vD hj E V g hf) (aD hb aH)) (t:= .val (sB [])) trivial G1 (res:=doP [.val (.bool false),.at_ 8140,.at_ 8144,.at_ 8148,.at_ 232,.at_ 232] (.at_ 8160) (.at_ 8164) (.val (.int .i64 0)) 0) (ahC hd ⟨_,aA (q:=40) rfl⟩ ⟨_,aA (q:=41) rfl⟩ trivial) (al8 B)).mono ?_
 rintro e w' ⟨x,rfl,hx,ha⟩
 obtain⟨ys,y,z,u,rfl,k1,k2,k3,k4⟩:=UK hx
 obtain⟨y0,_,rfl,b0,y1,_,rfl,b1,y2,_,rfl,b2,y3,_,rfl,b3,y4,_,rfl,b4,y5,_,rfl,b5,rfl⟩:=k1
 rw[show y0=_ from b0,bF (aA (q:=35) rfl) b1,bF (aA (q:=36) rfl) b2,bF (aA (q:=37) rfl) b3,bF hc b4,bF hc b5,bF (aA (q:=40) rfl) k2,bF (aA (q:=41) rfl) k3,show u=_ from k4]
 have m:qK (fun g=>G g∨w.heap.size<=g) w' (aY (aI j) pv sv nv mv) (bH v1 v2 v3) s vi vf vb va us ax:=V.mono fun b h hg=>⟨ha.block b hg,.inl h⟩
 exact⟨⟨vi,vf,vb,va,rfl,⟨m.i,m.f,m.b,m.r,m.ul,m.u1,m.a,m.al,m.a1,m.ne⟩,⟨rfl,rfl⟩,rfl,rfl⟩,ha⟩
set_option maxRecDepth 100000 in
theorem amF (hj:j<40)(E:iE G w j pv sv nv mv v1 v2 v3)(V:qK G w (aY (aI j) pv sv nv mv) (bH v1 v2 v3) s vi vf vb va us ax)(g:mU s)(hb:(s.beh.getD []).length<=5):
  Calls prog 10 #[.agg (pD (aI j) pv sv nv mv v1 v2 v3 s vi vf vb va).toArray,opV 7 (sB [])] w fun e w'=>UG G w (aY (aI j) pv sv nv mv) (bH v1 v2 v3) (vR (mV s.d) s) (GW true vb us (fV (aY (aI j) pv sv nv mv) (bH v1 v2 v3) s.d s.c vi vf)) e w':=by
 have hg:=rL s.d
 obtain⟨D,hD⟩:∃D,mV s.d=D:=⟨_,rfl⟩
 have hh:D.neg=false:=by rw[<-hD];exact hg.ng
 let X:List (Nat×Value):=[(34,.agg (ints D.int).toArray),(38,.agg (ints D.frac).toArray),(46,.int .i64 0),(50,.iface 43 (.iface 40 (.agg (us++fV (aY (aI j) pv sv nv mv) (bH v1 v2 v3) s.d s.c vi vf).toArray))),(58,.agg (ints (aJ D)).toArray),(68,.bool D.sep),(224,.int .i64 ((aJ D).length:Nat))]
 let B:aE:=aB w (aI j) pv sv nv mv v1 v2 v3 s vi vf vb va X
 have hX:VK X=true:=by kernel_rfl
 have hS:pJ B 8 68 9 224 D (aJ D).length:=⟨⟨by decide,rfl⟩,⟨by decide,rfl⟩,rfl,rfl⟩
 have hR:dQ B (.val (.bool false)) 8 (.at_ 68) 9 D:=⟨hS.l,hS.r,by rw[hh];exact .val _,.atm hS.s⟩
 have hd:B.A 50=some (.iface 43 (.iface 40 (.agg (us++fV (aY (aI j) pv sv nv mv) (bH v1 v2 v3) s.d s.c vi vf).toArray))):=rfl
 have hi:B.A 46=some (.int .i64 0):=rfl
 have hf:cG B 14 (aJ D):=⟨by decide,rfl⟩
 have ha:aK B prog ag8:=by
  refine pZ [aBT,aDr g.d.ng] (TJ hR) ?_;rintro w2 _ hu ⟨_,_,rfl,rfl,_,_,rfl,rfl,rfl⟩;refine(af0 vi vf v1 v2 v3 g.d w2 (l8 V.i.1 hu) (l8 V.f.1 hu) (l8 E.a.1 hu) (l8 E.b.1 hu) (l8 E.c.1 hu)).mono ?_;rintro e w' ⟨vc,vd,rfl,h1,h2,h3,h4,h5⟩;rw[hD]at h1 h2 h3 h4⊢;exact⟨_,rfl,⟨vc,vd,rfl,h1,h2,h3,h4⟩,h5⟩
 have hc:aK B prog ag9:=by
  refine pZ [ME hR] (ZJ hf) ?_;rintro w2 _ hu ⟨_,_,rfl,⟨vc,vd,rfl,h1,h2⟩,rfl⟩;rw[hD]at hg;refine(oZ vc vd D w2 (hg.stOK (aES _) h1 h2).ok).mono ?_;rintro e w' ⟨v',rfl,ho,hb⟩;exact⟨v',rfl,⟨aC.of_own ho,fun g hg=>(ho.lt g hg).1⟩,hb⟩
 have hk:∀e∈[mY,ag8,ag9,qM],aK B prog e:=aD (vD hj E V g hi) (aD ha (aD hc (aD (GZ E V hb hd) aH)))
 have hl:∀F∈[(⟨14,.atom 224⟩:LnF)],VL B F:=aD ⟨_,hf.2,by
  rw[aEX,aQ];exact cS hS.c rfl⟩ aH
 unfold vR
 rw[hD]
 exact UM E V hX (bD aH aH aH hl) hk (t:= .val (sB [])) trivial G1 (p:=true) hS hd (by unfold dF;rw[aD6 (.inl rfl)];rfl) (al9 B)
end
end
section
variable {G:Nat->Prop}{w:World}{lc rl:List Value}{c:Nat}{A:Option Addr}{l0:List (Dr×Nat)}{q:Dr×Nat}
theorem uH (lc rl:List Value)(h1:lc.length=17)(h2:rl.length=17)(d:Dr)(c:Nat)(vi vf:Value):(fV lc rl d c vi vf).length=40:=by
 unfold fV pV;simp[h1,h2]
theorem gM.len (h1:lc.length=17)(h2:rl.length=17):∀{l:List (Dr×Nat)} {us:List Value},gM G w lc rl l us->us.length=40*l.length
 |[],us,h=>by
  have h:us=[]:=h;subst h;rfl
 |_::l,_,⟨a,b,r,e,_,_,k3⟩=>by
  have:=gM.len h1 h2 k3;rw[e,aD2,uH lc rl h1 h2,this,aEN];omega
theorem gM.last:∀{l:List (Dr×Nat)} {q:Dr×Nat} {us:List Value},gM G w lc rl (l++[q]) us->∃ua vi vf,us=ua++fV lc rl q.1 q.2 vi vf/\gM G w lc rl l ua/\jJ G w vi q.1.int/\jJ G w vf q.1.frac
 |[],q,us,⟨a,b,r,e,k1,k2,k3⟩=>by
  have k3:r=[]:=k3;subst k3;exact⟨[],a,b,by simpa using e,rfl,k1,k2⟩
 |_::l,q,us,⟨a,b,r,e,k1,k2,k3⟩=>by
  obtain⟨ua,vi,vf,e2,k4,k5,k6⟩:=gM.last k3;exact⟨_,vi,vf,by rw[e,e2,aEF],⟨a,b,ua,rfl,k1,k2,k4⟩,k5,k6⟩
theorem RJ {t sz n:Nat}{a b:List Value}(h:nS G w t sz (.slice A (n+1) c) (a++b))(ha:a.length=n*sz):nS G w t sz (.slice A n c) a:=by
 obtain⟨A',n',c',e,h1,h2,h3,h4⟩:=h;injection e with e1 e2 e3
 subst e1 e3;refine⟨_,n,_,rfl,by omega,h2,ha,h4.imp id ?_⟩;rintro⟨b',off,arr,e,g,hb,hs,hc⟩;refine⟨b',off,arr,e,g,hb,hs,fun j hj=>?_⟩;have:=hc j (by rw[aD2];omega);rwa[aEG hj]at this
section
variable {G:Nat->Prop}{w:World}{j:Nat}{pv sv nv mv v1 v2 v3 vi vf vb va:Value}{us ax:List Value}{s:Eg}
theorem KP (E:iE G w j pv sv nv mv v1 v2 v3)(V:qK G w (aY (aI j) pv sv nv mv) (bH v1 v2 v3) s vi vf vb va us ax)(h0:s.beh.getD []=[])(hb:s.ah.getD 0<=5):
  Calls prog 8 #[.agg (pD (aI j) pv sv nv mv v1 v2 v3 s vi vf vb va).toArray] w fun e w'=>UG G w (aY (aI j) pv sv nv mv) (bH v1 v2 v3) (kB s) ⟨false,false,false,vi,vf,vb,va,us,ax⟩ e w':=by
 have ha:=V.ul
 rw[h0]at ha
 refine(WN (us:=us) (cs:=fV (aY (aI j) pv sv nv mv) (bH v1 v2 v3) s.d s.c vi vf) (ax:=ax) (n:=0) (m:=s.ah.getD 0) (by omega) (by omega) (vb:=vb) (va:=va) (run:= .int .i64 s.run) (V.b.mono fun _ _ _=>⟨rfl,trivial⟩) ha (V.a.mono fun _ _ _=>⟨rfl,trivial⟩) V.al rfl V.u1 V.a1 (zT E V.i.one V.f.one s.d s.c) rfl V.ne).mono ?_
 rintro e w' ⟨hP,hc⟩
 unfold kB
 rw[h0]
 exact⟨⟨vi,vf,vb,va,hP,V.mono fun b h hd=>⟨hc.block b hd,.inl h⟩,⟨rfl,rfl⟩,rfl,rfl⟩,hc⟩
theorem KQ (V:qK G w (aY (aI j) pv sv nv mv) (bH v1 v2 v3) s vi vf vb va us ax)(hl:s.beh.getD []=l0++[q]):
  ∃ua vc vd A c,us=ua++fV (aY (aI j) pv sv nv mv) (bH v1 v2 v3) q.1 q.2 vc vd/\vb=.slice A (l0.length+1) c/\vc.oneCell'=true/\vd.oneCell'=true:=by
 have hr:=V.r
 have ha:=V.ul
 rw[hl]at hr ha
 obtain⟨ua,vc,vd,e,k1,k2,k3⟩:=gM.last hr
 obtain⟨A,n,c,e1,_,_,e2,_⟩:=V.b
 rw[aD2]at ha
 simp only[aEN,aEW]at ha
 have:n=l0.length+1:=by omega
 subst this
 exact⟨ua,vc,vd,A,c,e,e1,k2.one,k3.one⟩
theorem KR {ua:List Value}{vc vd:Value}(E:iE G w j pv sv nv mv v1 v2 v3)(V:qK G w (aY (aI j) pv sv nv mv) (bH v1 v2 v3) s vi vf vb va us ax)(hl:s.beh.getD []=l0++[q])(hi:us=ua++fV (aY (aI j) pv sv nv mv) (bH v1 v2 v3) q.1 q.2 vc vd)(ha:vb=.slice A (l0.length+1) c)(hb:l0.length<=5)(hv:s.ah.getD 0<=5):
  Calls prog 8 #[.agg (pD (aI j) pv sv nv mv v1 v2 v3 s vi vf vb va).toArray] w fun e w'=>UG G w (aY (aI j) pv sv nv mv) (bH v1 v2 v3) (kB s) ⟨false,false,true,vc,vd,.slice A l0.length c,.slice none 0 0,ua,ax++fV (aY (aI j) pv sv nv mv) (bH v1 v2 v3) s.d s.c vi vf⟩ e w':=by
 have hr:=V.r
 have hc:=V.ul
 rw[hl]at hr hc
 have hj:=zT E V.i.one V.f.one s.d s.c
 rw[aD2]at hc
 refine(WN (us:=us) (cs:=fV (aY (aI j) pv sv nv mv) (bH v1 v2 v3) s.d s.c vi vf) (ax:=ax) (n:=l0.length+1) (m:=s.ah.getD 0) (by omega) (by omega) (vb:=vb) (va:=va) (run:= .int .i64 s.run) (V.b.mono fun _ _ _=>⟨rfl,trivial⟩) hc (V.a.mono fun _ _ _=>⟨rfl,trivial⟩) V.al rfl V.u1 V.a1 hj rfl V.ne).mono ?_
 rintro e w' ⟨hP,hk⟩
 refine⟨?_,hk⟩
 have hO:∀b,G b->b<w.heap.size->w'.heap[b]?=w.heap[b]?/\(G b∨w.heap.size<=b):=fun b h hn=>⟨hk.block b hn,.inl h⟩
 have hN:∀b,w.heap.size<=b->b<w'.heap.size->w'.heap[b]?=w'.heap[b]?/\(G b∨w.heap.size<=b):=fun b h _=>⟨rfl,.inr h⟩
 unfold kB
 rw[hl]
 obtain⟨A2,c2,vh,e1,rfl,o1,hf⟩:=(show av2 _ _ _ _ _ _ _ _ _ (l0.length+1)from hP)
 rw[ha]at e1
 injection e1 with e1 e2 e3
 subst e1 e3
 obtain⟨ub,ve,vg,e4,k1,k2,k3⟩:=gM.last hr
 have h0:=gM.len rfl rfl k1
 have hq:ua.length=40*l0.length:=by
  have:(ua++fV (aY (aI j) pv sv nv mv) (bH v1 v2 v3) q.1 q.2 vc vd).length=(ub++fV (aY (aI j) pv sv nv mv) (bH v1 v2 v3) q.1 q.2 ve vg).length:=by rw[<-hi,<-e4]
  rw[aD2,aD2,uH _ _ rfl rfl,uH _ _ rfl rfl]at this;omega
 have e5:ub=ua/\fV (aY (aI j) pv sv nv mv) (bH v1 v2 v3) q.1 q.2 ve vg=fV (aY (aI j) pv sv nv mv) (bH v1 v2 v3) q.1 q.2 vc vd:=List.append_inj (e4.symm.trans hi) (by omega)
 obtain⟨rfl,e6⟩:=e5
 have e7:ve=vc:=by
  have:=aEK (fun l=>l[35]?) e6;injection this
 have e8:vg=vd:=by
  have:=aEK (fun l=>l[37]?) e6;injection this
 subst e7 e8
 have hd:us.drop (40*l0.length)=fV (aY (aI j) pv sv nv mv) (bH v1 v2 v3) q.1 q.2 ve vg:=by
  rw[e4,<-h0];exact List.drop_left
 rw[hd]
 have hh:=V.b
 have ho:=V.u1
 have hs:=V.ne
 rw[ha,e4]at hh
 rw[ha]at hs
 rw[e4]at ho
 rw[List.getLast?_append]
 refine⟨ve,vg,.slice A l0.length c,vh,rfl,⟨k2.mono hO,k3.mono hO,(RJ hh (by omega)).mono hO,?_,?_,fun u hu=>ho u (aGK _ hu),hf.mono hN,?_,DK V.a1 hj,fun g hg hp=>?_⟩,⟨rfl,rfl⟩,rfl,hf⟩
 ·show gM _ _ _ _ (l0++[q]).dropLast ub;rw[aG0];exact k1.mono hO
 ·show _=40*((l0++[q]).dropLast).length;rw[aG0];exact h0
 ·show(ax++fV (aY (aI j) pv sv nv mv) (bH v1 v2 v3) s.d s.c vi vf).length=_;rw[aD2,V.al];show _+40=40*(s.ah.getD 0+1);omega
 ·obtain⟨A1,n1,c1,e,_,_,_,h4⟩:=hh;injection e with e2 e3 e4
  subst e2;rcases h4 with⟨rfl,_⟩|⟨b,off,arr,rfl,_,ht,_⟩
  ·simp[Value.ownBlock]at hg
  ·have hg:g=b:=by simpa [Value.ownBlock]using hg.symm
   subst hg;have hn:=(aD5.1 ht).1;obtain⟨A2,n2,c2,rfl,_,_,_,h5⟩:=hf;rcases h5 with⟨rfl,_⟩|⟨b2,oa,aa,rfl,hx,_⟩
   ·simp[Value.ownBlock]at hp
   ·have:g=b2:=by simpa [Value.ownBlock]using hp.symm
    omega
end
end
def sq1:Code->Code
 |.seq a _=>a
 |c=>c
def R6:Code->Code
 |.seq _ b=>b
 |c=>c
def blB:Code->Code
 |.block _ c=>c
 |c=>c
def lpB:Code->Code
 |.loop c=>c
 |c=>c
noncomputable def aBW:Func:=(VE prog 3).getD default
noncomputable def aBX:Code:=aBW.body.getD .skip
noncomputable def amG:Code:=R6 (R6 (R6 (R6 (R6 (R6 (R6 (R6 (R6 aBX))))))))
noncomputable def aa9:Code:=R6 (sq1 amG)
noncomputable def RM:Code:=lpB (blB aa9)
noncomputable def UN:Code:=sq1 RM
noncomputable def ahE:Code:=sq1 (blB (sq1 (R6 RM)))
noncomputable def BQ:Code:=R6 (blB (sq1 (R6 RM)))
noncomputable def ahF:Code:=R6 (R6 RM)
noncomputable def abA:Code:=R6 amG
noncomputable def KT (B:aE)(q:Tb)(orc:bM)(c:Code)(s:St):Option (fM×St):=wM prog (SR B q) (dR B q orc) (EH prog (SR B q) (dR B q orc)) 1000000 c s
def liP (f:Bool)(k i:Nat):eG:=if f then .ls k else .at_ i
def asS (a:Bool):List eG:=[.val (.bool false),liP a 8 5100,.at_ 68,liP a 9 5104,.at_ 224,.at_ 224]
def G4 (a b c:Bool):List eG:=(lG 0 34++asS a)++[liP b 12 5108,liP c 13 5112,.at_ 4220]
def XK:eG:= .tup [.agg ((List.range 43).map fun _=> .ls 11),.ls 11]
def doE (op r:eG):dO:=⟨10,[.agg (lG 0 43),op],r⟩
def unE (r:eG):dO:=⟨8,[.agg (lG 0 43)],r⟩
def txE (a:Bool):dO:=⟨26,[.agg (lG 0 17),.agg [.val (.bool false),liP a 8 5100,.at_ 68,liP a 9 5104]],.at_ 5008⟩
def atE (a:Bool):dO:=⟨12,[.agg (lG 0 34++asS a),.at_ 224],.at_ 240⟩
def dcE (i k:Nat):dO:=⟨9,[.at_ i],.at_ k⟩
def dcN (n:Nat):dO:=FS 9 [.int .i64 n] (sB (eL n))
def IQ (n:Nat):List UInt8:=if n=0 then [111,107,10]else [101,114,114,111,114,32]++eL n++[10]
def NL (i:Nat)(v:AV)(k:Nat):YT:=⟨.add,.atom i,v,.atom k⟩
def amH (n:Nat)(word:AV):List YT:=[NL 5000 (.lit (sB (IQ n))) 5004,NL 5004 (.atom 5008) 5012,NL 5012 (.lit (sB [10])) 5016,NL 5016 (.atom 244) 5020,NL 5020 (.lit (sB [32])) 5024,NL 5024 (.atom 244) 5028,NL 5028 (.lit (sB [10])) 5032,
 NL 5044 word 5052,NL 5052 (.lit (sB [10,115,104,111,119,10,97,116,10])) 5056]
def axF:List YT:=[⟨.lss,.atom 5048,.lit (.int .i64 10),.lit (.bool true)⟩,⟨.gtr,.atom 5048,.lit (.int .i64 10),.lit (.bool false)⟩,⟨.add,.lit (sB [116,121,112,101,32]),.atom 5036,.atom 5040⟩]
def opC (k:Int):List Value:=[.int .i64 k,.int .i64 0,.int .i64 0,sB [],.bool false,sB [],sB [],sB [],sB [],sB [],sB [],sB [],sB []]
def opsV:List Value:=opC 3++(opC 2++opC 7)
def ahG (l:List Value):List PC:=l.map fun v=> .p (.val v)
def mZ:List IB:=[⟨46,dH 0 43,true⟩,⟨9,ahG [sB tY,sB jO,sB lF],false⟩,⟨54,ahG opsV,false⟩]
def UO:List Nat:=[1,6,7,8,12,13,14,15]
def G5 (k:eG):List PC:=[.p (.at_ 5060),.p (.at_ 5044),.p (.at_ 5000),.ptr 0,.row 1 3 1 1,.row 2 3 13 2,.p (.at_ 5064),.p k]
noncomputable def jP (t:Tr AV)(k:Nat)(v:AV):Bool:=match gA t k with
 |some x=>jV x v
 |none=>false
noncomputable def ahH (B:aE)(a b c:Bool)(k:eG)(e:fM)(s:St):Bool:=match e with
 |.normal=>TR 147 s.ts 1 0&&(s.ds.isEmpty&&(jP s.ts 6 (.atom 5056)&&(jP s.ts 7 (.atom 5032)&&(jP s.ts 1 (.atom 5060)&&(jP s.ts 8 (.ptr 0 0)&&(jP s.ts 12 (.slc 1 0 3 1 (.lo 1 0))&&(jP s.ts 13 (.slc 2 0 3 13 (.lo 2 0))&&(jP s.ts 14 (.atom 5064)&&(GO s.m 0 46 ((G4 a b c).map .p)&&
  (tN (s.m.H.get 1) (bQ 3 mZ).1[1]?&&tN (s.m.H.get 2) (bQ 3 mZ).1[2]?))))))))))
 |_=>false
noncomputable def rN (B:aE)(T:Tb)(E:List dO)(a b c:Bool)(k:eG):Prop:=∀J,(match KT B T (bT E) BQ {ts:=FW UO (bX (bQ 3 mZ).2 (G5 k)).1 (vS 147 J 8 1 0),ds:=[],m:={H:=tB (bQ 3 mZ).1,nb:=mZ.length,nc:=(bX (bQ 3 mZ).2 (G5 k)).2}}with
 |some (e,s)=>ahH B a b c k e s
 |none=>false)=true
def XL (a b c:Bool)(n:Nat):List dO:=[unE XK,doE (UJ 0 (.at_ 5036)) (.tup [.agg (G4 a b c),.val (.int .i64 n)]),txE a,atE a,dcE 240 244,dcE 5048 5036,dcN n]
def KU (k:Int)(a b c:Bool)(n:Nat):List dO:=[unE XK,doE (UJ k (.val (sB []))) (.tup [.agg (G4 a b c),.val (.int .i64 n)]),txE a,atE a,dcE 240 244,dcN n]
def XM (a b c:Bool)(n:Nat):List dO:=[unE (.tup [.agg (G4 a b c),.val (.int .i64 n)]),txE a,atE a,dcE 240 244,dcN n]
def ahI (n:Nat):Tb:=mR (axF++amH n (.atom 5040)) [] [] []
def CO (n:Nat)(w:List UInt8):Tb:=mR (amH n (.lit (sB w))) [] [] []
theorem axG (B:aE)(b:Bool):rN B (ahI 0) (XL true b false 0) true b false (.at_ 5048):=by intro J;cases b<;>kernel_rfl
theorem asT (B:aE):rN B (ahI 4) (XL false false false 4) false false false (.at_ 5048):=by intro J;kernel_rfl
theorem axH (B:aE):rN B (CO 0 tY) (KU 3 false false false 0) false false false (.val (.int .i64 11)):=by intro J;kernel_rfl
theorem axI (B:aE)(b:Bool):rN B (CO 0 jO) (KU 2 true b false 0) true b false (.val (.int .i64 12)):=by intro J;cases b<;>kernel_rfl
theorem ahJ (B:aE)(z:Bool):rN B (CO (if z then 7 else 4) jO) (KU 2 false false false (if z then 7 else 4)) false false false (.val (.int .i64 12)):=by intro J;cases z<;>kernel_rfl
theorem asU (B:aE):rN B (CO 0 lF) (KU 7 true true false 0) true true false (.val (.int .i64 13)):=by intro J;kernel_rfl
theorem axJ (B:aE):rN B (CO 7 nE) (XM false false false 7) false false false (.val (.int .i64 10)):=by intro J;kernel_rfl
theorem asV (B:aE):rN B (CO 0 nE) (XM false false true 0) false false true (.val (.int .i64 10)):=by intro J;kernel_rfl
section
variable {K G:Nat->Prop}{w W w2 w':World}{cs:List Value}{X:List (Nat×Value)}{q:Nat}{v:Value}{B:aE}{r:Eg×Int}{e:Ending}
structure qL.Pre (p:qL) (G:Nat->Prop) (w:World) (lc rl:List Value) (s:Eg):Prop where
 r:gM G w lc rl (s.beh.getD []) p.us
 ul:p.us.length=40*(s.beh.getD []).length
 u1:∀u∈p.us,u.oneCell'=true
 al:p.ax.length=40*s.ah.getD 0
 a1:∀u∈p.ax,u.oneCell'=true
 i:p.a=false->jJ G w p.i s.d.int/\jJ G w p.f s.d.frac
 b:p.b=false->nS G w 43 40 p.vb p.us
 c:p.c=false->nS G w 43 40 p.va p.ax
 n0:p.b=false->p.c=false->∀g,p.vb.ownBlock=some g->p.va.ownBlock≠some g
 n1:p.b=true->p.c=false/\p.va=.slice none 0 0
def lB (K:Nat->Prop)(w:World)(cs:List Value)(X:List (Nat×Value)):aE:=⟨K,w,fun i=>if 8000<=i then two cs [] i else OP X i⟩
theorem RN (hX:VK X=true):∀i x,(lB K w cs X).A i=some x->i%2≠1:=fun i x h=>by
 have h:(if 8000<=i then two cs [] i else OP X i)=some x:=h;split at h
 ·exact FY i x h
 ·exact qY (l:=X) hX i x h
theorem axK (hl:cs.length<=250)(h:cs[q]?=some v):(lB K w cs X).A (8000+4*(0+q))=some v:=by
 have:=P1 (b:=[]) hl h;exact(aD6 (by omega)).trans this
structure G6 (B:aE) (p:qL) (s:Eg):Prop where
 l:cG B 8 s.d.int
 r:cG B 9 s.d.frac
 b:B.A 50=some (.iface 43 (.iface 40 (.agg p.us.toArray)))
 a:B.A 54=some (.iface 43 (.iface 40 (.agg p.ax.toArray)))
 sep:B.A 68=some (.bool s.d.sep)
 c:B.A 224=some (.int .i64 s.c)
 run:B.A 4220=some (.int .i64 s.run)
 i0:B.A 5100=some p.i
 f0:B.A 5104=some p.f
 b0:B.A 5108=some p.vb
 a0:B.A 5112=some p.va
 j:B.A 46=some (.int .i64 0)
section
variable {K:Nat->Prop}{w:World}{cs:List Value}{X:List (Nat×Value)}{p:qL}{s s':Eg}{lc rl:List Value}{vi vf vb va:Value}
theorem axL (ha:cs=eCs lc rl s vi vf vb va)(hl:lc.length=17)(hr:rl.length=17)(h:(lc++rl)[q]?=some v):(lB K w cs X).A (8000+4*(0+q))=some v:=by
 refine axK (by rw[ha];unfold eCs;rw[aD2,uH _ _ hl hr];simp) ?_;rw[ha];unfold eCs fV;rw[<-aEF,aEF,aEG (aED.1 h).1];exact h
theorem amI (hB:∀q v,cs[q]?=some v->B.A (8000+4*(0+q))=some v)(hl:cs.length=43){x:Value}(h:fG B G W (.agg (lG 0 43)) x):x=.agg cs.toArray:=by
 obtain⟨ys,rfl,k⟩:=h;rw[<-hl]at k;rw[lH cs 0 ys hB k]
theorem KV {f:Bool}{k i:Nat}{gh:Value}(h1:k<1024)(h2:B.A (gid k)=some gh)(h3:B.A i=some v):qC B (liP f k i):=by
 cases f
 ·exact⟨_,h3⟩
 ·exact⟨h1,_,h2⟩
theorem ahK (H:G6 B p s'):lJ B (asS p.a):=⟨trivial,KV (by decide) H.l.2 H.i0,⟨_,H.sep⟩,KV (by decide) H.r.2 H.f0,⟨_,H.c⟩,⟨_,H.c⟩,trivial⟩
theorem asW (H:G6 B p s')(hL:lJ B (lG 0 34)):lJ B (G4 p.a p.b p.c):=
 iA (iA hL (ahK H)) ⟨KV (by decide) H.b H.b0,KV (by decide) H.a H.a0,⟨_,H.run⟩,trivial⟩
theorem ahL (H:G6 B p r.1)(hl:(lc++rl).length=34)(h1:∀u∈lc++rl,u.oneCell'=true)(hB:∀q v,(lc++rl)[q]?=some v->B.A (8000+4*(0+q))=some v)(D:UG G w2 lc rl r p e w'):
  ∃x,e=.returned x/\fG B (fun g=>w2.heap.size<=g) w' (.tup [.agg (G4 p.a p.b p.c),.val (.int .i64 r.2)]) x/\Below w2.heap.size w2 w':=by
 obtain⟨⟨vi,vf,vb,va,rfl,V,I⟩,hb⟩:=D
 have hf:vb.oneCell'=true:=by obtain⟨_,_,_,rfl,_⟩:=V.b;rfl
 have hg:va.oneCell'=true:=by obtain⟨_,_,_,rfl,_⟩:=V.a;rfl
 refine⟨_,rfl,⟨_,rfl,_,_,rfl,⟨_,rfl,?_⟩,_,_,rfl,rfl,rfl⟩,hb⟩
 unfold eCs fV G4
 rw[<-aEF]
 have hd:kW B (fun g=>w2.heap.size<=g) w' (lG 0 34) (lc++rl):=by
  have:=zF (B:=B) (G:=fun g=>w2.heap.size<=g) (w:=w') (lc++rl) 0 fun q v hq=>⟨hB q v hq,h1 v (aE6 hq)⟩
  rwa[hl]at this
 refine mM (mM hd ?_) ?_
 ·have ha:=I.a
  have:fG B (fun g=>w2.heap.size<=g) w' (liP p.a 8 5100) vi/\fG B (fun g=>w2.heap.size<=g) w' (liP p.a 9 5104) vf:=by
   cases hpa:p.a with
   |true=>
    rw[hpa]at ha
    exact⟨TN H.l ha.1,TN H.r ha.2⟩
   |false=>
    rw[hpa]at ha
    have e1:vi=p.i:=ha.1
    have e2:vf=p.f:=ha.2
    exact⟨⟨by rw[e1];exact H.i0,V.i.one⟩,by rw[e2];exact H.f0,V.f.one⟩
  exact⟨_,_,rfl,rfl,_,_,rfl,this.1,_,_,rfl,⟨H.sep,rfl⟩,_,_,rfl,this.2,_,_,rfl,⟨H.c,rfl⟩,_,_,rfl,⟨H.c,rfl⟩,rfl⟩
 ·refine⟨_,_,rfl,?_,_,_,rfl,?_,_,_,rfl,⟨H.run,rfl⟩,rfl⟩
  ·have hb:=I.b
   cases hpb:p.b with
   |true=>
    rw[hpb]at hb
    exact⟨by decide,hf,_,H.b,hb⟩
   |false=>
    rw[hpb]at hb
    have e1:vb=p.vb:=hb
    exact⟨by rw[e1];exact H.b0,hf⟩
  ·have hc:=I.c
   cases hpc:p.c with
   |true=>
    rw[hpc]at hc
    exact⟨by decide,hg,_,H.a,hc⟩
   |false=>
    rw[hpc]at hc
    have e1:va=p.va:=hc
    exact⟨by rw[e1];exact H.a0,hg⟩
theorem RO (hj:B.A 46=some (.int .i64 0)):∀(l:List Value) (n:Nat),l.length=n->(∀u∈l,u.oneCell'=true)->∀m,kW B G W ((List.range' m n).map fun _=> .ls 11) l
 |[],n,h,_,_=>by
  have:n=0:=h.symm;subst this;rfl
 |v::l,n,h,h1,m=>by
  obtain⟨k,rfl⟩:∃k,n=k+1:=⟨l.length,h.symm⟩;rw[List.range'_succ,aFB];exact⟨v,l,rfl,⟨by decide,h1 v aEH,_,hj,trivial⟩,RO hj l k (by simpa using h) (fun u hu=>h1 u (aEM _ hu)) (m+1)⟩
theorem RP {q:qL}(hj:B.A 46=some (.int .i64 0))(hl:(lc++rl).length=34)(h1:∀u∈lc++rl,u.oneCell'=true)(D:UG G w2 lc rl r q e w'):
  ∃x,e=.returned x/\fG B (fun g=>w2.heap.size<=g) w' XK x/\Below w2.heap.size w2 w':=by
 obtain⟨⟨vi,vf,vb,va,rfl,V,I⟩,hb⟩:=D
 have ha:vb.oneCell'=true:=by obtain⟨_,_,_,rfl,_⟩:=V.b;rfl
 have hc:va.oneCell'=true:=by obtain⟨_,_,_,rfl,_⟩:=V.a;rfl
 refine⟨_,rfl,⟨_,rfl,_,_,rfl,⟨_,rfl,?_⟩,_,_,rfl,⟨by decide,rfl,_,hj,trivial⟩,rfl⟩,hb⟩
 have:=RO (B:=B) (G:=fun g=>w2.heap.size<=g) (W:=w') hj (eCs lc rl r.1 vi vf vb va) 43 (by
  unfold eCs fV pV;rw[<-aEF,aD2,aD2,hl];rfl) (fun u hu=>by
  unfold eCs fV at hu;rw[<-aEF,aEQ,aEQ]at hu;rcases hu with(hu|hu)|hu
  ·exact h1 u hu
  ·simp only[pV,aER,aFF,aGX]at hu;rcases hu with rfl|rfl|rfl|rfl|rfl|rfl<;>first|rfl|exact V.i.one|exact V.f.one
  ·simp only[aER,aFF,aGX]at hu;rcases hu with rfl|rfl|rfl<;>first|rfl|assumption) 0
 rwa[<-List.range_eq_range']at this
end
end
section
variable {q:Nat}{v:Value}{w2:World}{lc rl:List Value}
section
variable {K:Nat->Prop}{w:World}{X:List (Nat×Value)}{p:qL}{s s':Eg}{j:Nat}{pv sv nv mv v1 v2 v3 vi vf vb va:Value}
abbrev rB (K:Nat->Prop)(w:World)(j:Nat)(pv sv nv mv v1 v2 v3:Value)(s:Eg)(vi vf vb va:Value)(X:List (Nat×Value)):aE:=lB K w (pD (aI j) pv sv nv mv v1 v2 v3 s vi vf vb va) X
theorem rA (h:(pD (aI j) pv sv nv mv v1 v2 v3 s vi vf vb va)[q]?=some v):(rB K w j pv sv nv mv v1 v2 v3 s vi vf vb va X).A (8000+4*(0+q))=some v:=axK (by rw[NH];omega) h
theorem rAl (h:(aY (aI j) pv sv nv mv++bH v1 v2 v3)[q]?=some v):(rB K w j pv sv nv mv v1 v2 v3 s vi vf vb va X).A (8000+4*(0+q))=some v:=axL (vi:=vi) (vf:=vf) (vb:=vb) (va:=va) (s:=s) rfl rfl rfl h
theorem rW (n:Nat)(hn:n<=43):lJ (rB K w j pv sv nv mv v1 v2 v3 s vi vf vb va X) (lG 0 n):=BE n 0 fun q hq=>⟨_,rA (aEB (by rw[NH];omega))⟩
theorem rK {l:List Int}(h:jJ K w v l)(hu:eN (rB K w j pv sv nv mv v1 v2 v3 s vi vf vb va X) w2):aC w2 v l:=(h.mono (G':=fun _=>True) fun b hb _=>⟨hu.old b hb,trivial⟩).1
theorem XN (H:G6 (rB K w j pv sv nv mv v1 v2 v3 s vi vf vb va X) p s')(P:p.Pre K w lc rl s')(hu:eN (rB K w j pv sv nv mv v1 v2 v3 s vi vf vb va X) w2){G:Nat->Prop}{x y:Value}(h1:fG (rB K w j pv sv nv mv v1 v2 v3 s vi vf vb va X) G w2 (liP p.a 8 5100) x)(h2:fG (rB K w j pv sv nv mv v1 v2 v3 s vi vf vb va X) G w2 (liP p.a 9 5104) y):
  aC w2 x s'.d.int/\aC w2 y s'.d.frac:=by
 cases hp:p.a with
 |true=>
  rw[hp]at h1 h2
  exact⟨kL H.l h1,kL H.r h2⟩
 |false=>
  rw[hp]at h1 h2
  rw[bF H.i0 h1,bF H.f0 h2]
  exact⟨rK (P.i hp).1 hu,rK (P.i hp).2 hu⟩
theorem asX (hj:j<40)(E:iE K w j pv sv nv mv v1 v2 v3)(H:G6 (rB K w j pv sv nv mv v1 v2 v3 s vi vf vb va X) p s')(P:p.Pre K w lc rl s')(g:mU s')(ht:(rB K w j pv sv nv mv v1 v2 v3 s vi vf vb va X).A 5008=some (sB (lP (aI j).L s'))):aK (rB K w j pv sv nv mv v1 v2 v3 s vi vf vb va X) prog (txE p.a):=by
 refine⟨⟨rW 17 (by omega),⟨trivial,KV (by decide) H.l.2 H.i0,⟨_,H.sep⟩,KV (by decide) H.r.2 H.f0,trivial⟩,trivial⟩,fun w2 hu xs ha=>?_⟩;obtain⟨x0,_,rfl,⟨ys,rfl,k0⟩,x1,_,rfl,⟨_,rfl,y0,_,rfl,b0,y1,_,rfl,b1,y2,_,rfl,b2,y3,_,rfl,b3,rfl⟩,rfl⟩:=ha;have e1:=lH (aY (aI j) pv sv nv mv) 0 ys (fun q v hq=>rAl (by rw[aEG (aED.1 hq).1];exact hq)) k0;obtain⟨i1,i2⟩:=XN H P hu b1 b3;rw[e1,show y0=_ from b0,bF H.sep b2,<-g.d.ng];have L:=UF hj (w:=w2) (E.L.mono fun b hb _=>⟨hu.old b hb,trivial⟩);refine(QG (aI j).rc pv sv nv mv (aI j).mi (aI j).mf (aI j).xf (aI j).L y1 y3 s'.d w2 L (g.d.stOK (aES _) i1 i2).ok g.d.ng (nQ hj).1 g.d).mono ?_;rintro e w' ⟨rfl,hb⟩;exact⟨_,rfl,⟨ht,rfl⟩,hb⟩
theorem asY (hj:j<40)(E:iE K w j pv sv nv mv v1 v2 v3)(H:G6 (rB K w j pv sv nv mv v1 v2 v3 s vi vf vb va X) p s')(P:p.Pre K w lc rl s')(g:mU s')(ht:(rB K w j pv sv nv mv v1 v2 v3 s vi vf vb va X).A 240=some (.int .i64 (lO (aI j).L s'.d s'.c:Nat))):aK (rB K w j pv sv nv mv v1 v2 v3 s vi vf vb va X) prog (atE p.a):=by
 refine⟨⟨iA (rW 34 (by omega)) (ahK H),⟨_,H.c⟩,trivial⟩,fun w2 hu xs ha=>?_⟩;obtain⟨x0,_,rfl,⟨zs,rfl,k⟩,x1,_,rfl,c0,rfl⟩:=ha;obtain⟨ys,_,rfl,k0,y0,_,rfl,b0,y1,_,rfl,b1,y2,_,rfl,b2,y3,_,rfl,b3,y4,_,rfl,b4,y5,_,rfl,b5,rfl⟩:=gW k;have e1:=lH (aY (aI j) pv sv nv mv++bH v1 v2 v3) 0 ys (fun q v hq=>rAl hq) k0;obtain⟨i1,i2⟩:=XN H P hu b1 b3;rw[e1,show y0=_ from b0,bF H.sep b2,bF H.c b4,bF H.c b5,bF H.c c0];have L:=UF hj (w:=w2) (E.L.mono fun b hb _=>⟨hu.old b hb,trivial⟩);have h:=akR (aI j).rc pv sv nv mv (aI j).mi (aI j).mf (aI j).xf (aI j).L (bH v1 v2 v3) y1 y3 s'.d s'.c s'.c w2 L rfl (g.d.stOK (aES _) i1 i2).ok g.d.ng (nQ hj).1 g.d g.c;rw[(zN (nQ hj).1 g.d g.c).1]at h;refine h.mono ?_;rintro e w' ⟨rfl,hb⟩;exact⟨_,rfl,⟨ht,rfl⟩,hb⟩
end
structure axN (B:aE) (W S tx word:List UInt8) (n pos:Nat):Prop where
 a:B.A 5000=some (sB W)
 b:B.A 5004=some (sB (W++IQ n))
 c:B.A 5008=some (sB tx)
 d:B.A 5012=some (sB (W++IQ n++tx))
 e:B.A 5016=some (sB (W++IQ n++tx++[10]))
 f:B.A 5020=some (sB (W++IQ n++tx++[10]++eL pos))
 g:B.A 5024=some (sB (W++IQ n++tx++[10]++eL pos++[32]))
 h:B.A 5028=some (sB (W++IQ n++tx++[10]++eL pos++[32]++eL pos))
 i:B.A 5032=some (sB (W++IQ n++tx++[10]++eL pos++[32]++eL pos++[10]))
 j:B.A 5044=some (sB S)
 k:B.A 5052=some (sB (S++word))
 l:B.A 5056=some (sB (S++word++[10,115,104,111,119,10,97,116,10]))
 m:B.A 244=some (sB (eL pos))
theorem amJ (n:Nat):(IQ n).length<=9:=by
 have:=uF n;unfold IQ;split<;>simp;omega
theorem amK {B:aE}{W S tx word:List UInt8}{n pos:Nat}(h:axN B W S tx word n pos)(h1:W.length<=100000)(h2:S.length<=100000)(h3:tx.length<=100)(h4:word.length<=100){av:AV}(hv:sv B av=some (sB word)):∀F∈amH n av,wT prog B F:=by
 have e1:=amJ n;have e2:=uF pos
 refine aD ⟨_,_,_,cS h.a rfl,rfl,cS h.b rfl,iC _ _ _ rfl (by omega)⟩ (aD ⟨_,_,_,cS h.b rfl,cS h.c rfl,cS h.d rfl,iC _ _ _ rfl (by simp only[aD2];omega)⟩ (aD ⟨_,_,_,cS h.d rfl,rfl,cS h.e rfl,iC _ _ _ rfl (by simp only[aD2,aEN,aEW];omega)⟩ (aD ⟨_,_,_,cS h.e rfl,cS h.m rfl,cS h.f rfl,iC _ _ _ rfl (by simp only[aD2,aEN,aEW];omega)⟩
  (aD ⟨_,_,_,cS h.f rfl,rfl,cS h.g rfl,iC _ _ _ rfl (by simp only[aD2,aEN,aEW];omega)⟩ (aD ⟨_,_,_,cS h.g rfl,cS h.m rfl,cS h.h rfl,iC _ _ _ rfl (by simp only[aD2,aEN,aEW];omega)⟩ (aD ⟨_,_,_,cS h.h rfl,rfl,cS h.i rfl,iC _ _ _ rfl (by simp only[aD2,aEN,aEW];omega)⟩
  (aD ⟨_,_,_,cS h.j rfl,hv,cS h.k rfl,iC _ _ _ rfl (by omega)⟩ (aD ⟨_,_,_,cS h.k rfl,rfl,cS h.l rfl,iC _ _ _ rfl (by simp only[aD2,aEN,aEW];omega)⟩ aH))))))))
end
end Go.Proofs.YtoeiaflkdcbkdaaGreatDoor
