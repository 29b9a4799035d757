/- TopShell, part 5 of 36. -/
import Derived.Deep.RegionLaw
import Derived.Laws.CopyOwn
import Derived.OwnWalk
import Derived.Deep.RegionHeld3
import Derived.Test.YtoeiaflkdcbkdaaGreatDoorK04
set_option maxHeartbeats 16000000
set_option linter.unusedVariables false
set_option linter.unusedSimpArgs false
namespace Go.Proofs.YtoeiaflkdcbkdaaGreatDoor
open Go.RowKit Go.Proofs.Tryz
def dv (sl:Value)(d:Dc):Value:= .agg #[.bool d.neg,sl,.int .i64 d.s]
theorem iN (v:Value)(d:Dc)(w:World)(ha:aC w v d.l)(da:Dg d.l)(hs:d.s<=1000):
  Calls prog 250 #[dv v d] w fun e w'=>e=.returned (.bool true)/\Below w.heap.size w w':=by
 obtain⟨n,l,s⟩:=d
 simp only[dv]at *
 have HM:=aHL (fun w1 (h:Below w.heap.size w w1)=>rC v l w1 (ha.below h (aD1 _)) da)
 have HB:=aHL (fun o=>(Below.refl w.heap.size w).alloc (aD1 _) o)
 have h1:decide ((s:Int)<=1000)=true:=aE8 (by omega)
 go_enter func250,ntmps250
 go_wp2_with(first
  |(go_at_call 290;refine(HM.out _ (HB.out _)).mono ?_;rintro e w' ⟨rfl,rfl⟩))
 go_ret
 exact⟨rfl,HB.out _⟩
structure aoX (w wr:World) (n:Bool) (v0:Value) (A:Option Addr) (c:Nat) (kl:List Int) (k:Nat):Prop where
 ints:aC wr (.slice A kl.length c) kl
 far:dC (w.heap.size+2) (.slice A kl.length c)
 z1:cO wr w.heap.size (.bool n) v0 (.int .i64 k)
 z2:cO wr (w.heap.size+1) (.bool false) (.slice none 0 0) (.int .i64 0)
 bel:Below w.heap.size w wr
theorem eX (v:Value)(d:Dc)(w:World)(ha:aC w v d.l)(hl:d.l.length<=1000000)(hs:d.s<=1000):
  Calls prog 253 #[dv v d] w fun e w'=>∃sl,e=.returned (dv sl (aL d))/\aC w' sl (aL d).l/\dC w.heap.size sl/\Below w.heap.size w w':=by
 obtain⟨td,hf⟩:∃td,aL d=td:=⟨_,rfl⟩
 rw[hf]
 obtain⟨n,l,s⟩:=d
 simp only[dv]at *
 obtain⟨W2,hc⟩:∃W2,(w.alloc (Obj.cells #[.bool n,v,.int .i64 s] 274)).alloc (Obj.cells #[.bool false,.slice none 0 0,.int .i64 0] 274)=W2:=⟨_,rfl⟩
 have ht:W2.heap.size=w.heap.size+2:=by rw[<-hc];simp
 have hg:Below w.heap.size w W2:=by rw[<-hc];exact((Below.refl _ w).alloc (aD1 _) _).alloc (by simp) _
 have z2:cO W2 (w.heap.size+1) (.bool false) (.slice none 0 0) (.int .i64 0):=by
  rw[<-hc];have:=cO.new (w.alloc (Obj.cells #[.bool n,v,.int .i64 s] 274)) (.bool false) (.slice none 0 0) (.int .i64 0);simpa using this
 have z1:cO W2 w.heap.size (.bool n) v (.int .i64 s):=by
  rw[<-hc];exact(cO.new w _ _ _).keep (aHR _ _ (by simp))
 have q1:=z1.c1
 have HT:=aHL (nX v l W2 (ha.below hg (aD1 _)) hl)
 have Hb:=aHL hc
 have Z:=aside (And.intro z1 (And.intro z2 hg))
 have HD:=aHL hf
 clear hc z1 z2 hg hf ha
 go_enter func253,ntmps253
 go_wp2_with fail
 rw[Hb.out]
 go_wp2_with(first
  |(go_at_call 291;refine HT.out.mono ?_;rintro e w4 ⟨v4,rfl,o4,b4⟩))
 go_loopw [3] (fun v3 wr=>∃(A:Option Addr) (c:Nat) (kl:List Int) (k:Nat),v3=.slice A kl.length c/\k<=1000/\kl.length<=1000000/\Aside (aoX w wr n v A c kl k/\dV kl k=dV (bW l) s)) (fun v3 _=>match v3 with|.slice _ n _=>n|_=>0)
 case atStart=>
  have hI:=aC.of_own o4
  obtain⟨A,c,rfl,-⟩:∃A c,v4=.slice A (bW l).length c/\True:=by obtain⟨A,c,he,_⟩:=hI;exact⟨A,c,he,trivial⟩
  have hz:(bW l).length<=l.length:=(aG4 _).length_le
  exact⟨A,c,bW l,s,rfl,hs,by omega,⟨hI,fun k hk=>by have:=(o4.lt k hk).1;omega,Z.out.1.below b4 (by omega),Z.out.2.1.below b4 (by omega),Z.out.2.2.trans (b4.mono (by omega))⟩,rfl⟩
 case round=>
  obtain⟨A,c,kl,k,rfl,hk,hj,HR⟩:=hrel
  have p0:=HR.out.1.z1.c0
  have p1:=HR.out.1.z1.c1
  have p2:=HR.out.1.z1.c2
  have pf:=HR.out.1.z1.fz
  have r0:=HR.out.1.z2.c0
  have r1:=HR.out.1.z2.c1
  have r2:=HR.out.1.z2.c2
  have rf:=HR.out.1.z2.fz
  clear q1
  rcases aGD kl with rfl|⟨m,x,rfl⟩
  ·have HE:Hid (td=⟨false,[],0⟩):=by
    rw[<-HD.out];have h:=HR.out.2;unfold aL;rw[aD6 (by rw[<-h];exact oL k)];exact rfl
   have h0:decide ((0:Int)<(k:Int))=decide (0<k):=by simp
   clear HD o4 b4;rcases aFY k with rfl|hh
   all_goals
    go_wp2
    refine aHP (aH0 (by rfl) _ _ (w.heap.size+1) _ _ _ _ rfl (cO.setAll HR.out.1.z2 _ _ _) underlying274 rfl (by kernel_rfl)) rfl ?_
    refine⟨.slice none 0 0,by(rw[HE.out];try rfl),?_,fun q hq=>by simp[Value.ownBlock]at hq,?_⟩
    ·rw[HE.out];exact aC.nil_ _ _ _ (by omega)
    ·exact((HR.out.1.bel.setCell (p:=⟨w.heap.size+1,0,none⟩) (by simp) _).setCell (p:=⟨w.heap.size+1,1,none⟩) (by simp) _).setCell (p:=⟨w.heap.size+1,2,none⟩) (by simp) _
  ·rw[aGE]at *;obtain⟨b,off,rfl,hn,hA,hB,hd⟩:=HR.out.1.ints.last;by_cases ho:0<k/\x=0
   ·obtain⟨hh,rfl⟩:=ho;obtain⟨k1,hv⟩:∃k',k=k'+1:=⟨k-1,by omega⟩;obtain⟨N,hN⟩:∃N,m.length+1=N:=⟨_,rfl⟩;have hC:IntKind.i64.wrap ((k:Int)-1)=(k1:Int):=by rw[aR _ (by omega) (by omega)];omega
    have hD:IntKind.i64.wrap ((N:Int)-1)=(m.length:Int):=by rw[aR _ (by omega) (by omega)];omega
    have hE:IntKind.i64.wrap ((m.length:Nat):Int)=(m.length:Int):=aR _ (by omega) (by omega);have hF:m.length<=c:=by omega
    have hG:IntKind.i64.wrap (k1:Int)=(k1:Int):=aR _ (by omega) (by omega);have Ha:=HR;have HX:=aHL hn;rw[hn,hN]at hj⊢;clear hn HR;have hi:wr.cell? ⟨b,off+(N-1),none⟩=some (.int .i64 0):=by rw[<-hd];congr 2;omega
    go_wp2;go_region_with fail
    all_goals
     go_wp2
     go_roundw
     case rel=>
      have F:=Ha.out.1
      have hb:=F.bel.setCell (p:=⟨w.heap.size,2,none⟩) (by simp) (.int .i64 (k1:Int))
      refine⟨_,c,m,k1,rfl,by omega,by omega,⟨?_,?_,?_,?_,⟨hb.os,hb.tape,hb.output,hb.size,hb.block⟩⟩,?_⟩
      ·exact(aC.front F.ints).far (B:=w.heap.size+2) (fun q hq=>F.far q (by simpa [Value.ownBlock]using hq)) (by show w.heap.size<_;omega) _
      ·exact fun q hq=>F.far q (by simpa [Value.ownBlock]using hq)
      ·have:=F.z1.set2 (.int .i64 (k1:Int));exact this
      ·exact F.z2.far (p:=⟨w.heap.size,2,none⟩) (by simp) _
      ·rw[<-Ha.out.2,hv,tQ]
     case measure=>simp;omega
   ·have HE:Hid (td=⟨n,m++[x],k⟩):=by
     rw[<-HD.out];have h:=HR.out.2
     have h2:dV (m++[x]) k=(m++[x],k):=by
      cases k with
      |zero=>rfl
      |succ k=>rw[dV,aD4 (by simp;omega)]
     unfold aL;rw[<-h,h2];show _=_;simp
    have HX:=aHL hn;have Ha:=HR;have hp:aC wr (.slice (some ⟨b,off,none⟩) (m.length+1) c) (m++[x]):=by rw[<-hn];exact HR.out.1.ints
    have hr:dC (w.heap.size+2) (.slice (some ⟨b,off,none⟩) (m.length+1) c):=by rw[<-hn];exact HR.out.1.far
    rw[hn]at hj⊢;have HS:=aside (And.intro hp hr);clear hn HR HD o4 b4 hp hr;rcases aFY k with rfl|hh
    ·go_wp2;refine aHP (aH0 (by rfl) _ _ (w.heap.size+1) _ _ _ _ rfl (cO.setAll Ha.out.1.z2 _ _ _) underlying274 rfl (by kernel_rfl)) rfl ?_;refine⟨.slice (some ⟨b,off,none⟩) (m.length+1) c,by(rw[HE.out];try rfl),?_,fun q hq=>by have:=HS.out.2 q hq;omega,?_⟩
     ·rw[HE.out];exact((HS.out.1.far HS.out.2 (by show w.heap.size+_<_;omega) _).far HS.out.2 (by show w.heap.size+_<_;omega) _).far HS.out.2 (by show w.heap.size+_<_;omega) _
     ·exact((Ha.out.1.bel.setCell (p:=⟨w.heap.size+1,0,none⟩) (by simp) _).setCell (p:=⟨w.heap.size+1,1,none⟩) (by simp) _).setCell (p:=⟨w.heap.size+1,2,none⟩) (by simp) _
    ·have hx:x≠0:=fun h=>ho ⟨hh,h⟩
     have hH:decide (x=0)=false:=aEC hx;go_wp2;refine aHP (aH0 (by rfl) _ _ (w.heap.size+1) _ _ _ _ rfl (cO.setAll Ha.out.1.z2 _ _ _) underlying274 rfl (by kernel_rfl)) rfl ?_;refine⟨.slice (some ⟨b,off,none⟩) (m.length+1) c,by(rw[HE.out];try rfl),?_,fun q hq=>by have:=HS.out.2 q hq;omega,?_⟩
     ·rw[HE.out];exact((HS.out.1.far HS.out.2 (by show w.heap.size+_<_;omega) _).far HS.out.2 (by show w.heap.size+_<_;omega) _).far HS.out.2 (by show w.heap.size+_<_;omega) _
     ·exact((Ha.out.1.bel.setCell (p:=⟨w.heap.size+1,0,none⟩) (by simp) _).setCell (p:=⟨w.heap.size+1,1,none⟩) (by simp) _).setCell (p:=⟨w.heap.size+1,2,none⟩) (by simp) _
section
variable {w:World}{B:Nat}{v:Value}
theorem eH {N:Nat}{t:TypeId}{n:Nat}{xs:List Value}(h:w.ownsRow B t 1 v n xs)(hN:N<=B):dC N v:=fun k hk=>aEI hN (h.lt k hk).1
theorem aC.set3 {l:List Int}{g:Nat}(h:aC w v l)(hf:dC B v)(hg:g<B)(x y z:Value):aC (((w.setCell ⟨g,0,none⟩ x).setCell ⟨g,1,none⟩ y).setCell ⟨g,2,none⟩ z) v l:=
 ((h.far hf (p:=⟨g,0,none⟩) hg x).far hf (p:=⟨g,1,none⟩) hg y).far hf (p:=⟨g,2,none⟩) hg z
end
def aZ (l:List Int)(k:Nat):List Int:=l++List.replicate k 0
theorem bV (l:List Int)(k:Nat):(aZ l k).length=l.length+k:=by simp[aZ]
theorem cJ {l:List Int}(h:Dg l)(k:Nat):Dg (aZ l k):=h.append (Dg.replicate k)
theorem tR (l:List Int)(k:Nat):num (aZ l k)=num l*10^k:=JL l k
theorem ZA (v u:Value)(a b:Dc)(w:World)(ha:aC w v a.l)(hb:aC w u b.l)(da:Dg a.l)(db:Dg b.l)(la:a.l.length<=40)(lb:b.l.length<=40)(sa:a.s<=40)(sb:b.s<=40):
  Calls prog 366 #[dv v a,dv u b] w fun e w'=>∃A c A' c',e=.returned (.tuple #[.slice A (aZ a.l (max a.s b.s-a.s)).length c,.slice A' (aZ b.l (max a.s b.s-b.s)).length c',.int .i64 (max a.s b.s:Nat)])/\
   aC w' (.slice A (aZ a.l (max a.s b.s-a.s)).length c) (aZ a.l (max a.s b.s-a.s))/\aC w' (.slice A' (aZ b.l (max a.s b.s-b.s)).length c') (aZ b.l (max a.s b.s-b.s))/\
   dC w.heap.size (.slice A (aZ a.l (max a.s b.s-a.s)).length c)/\dC w.heap.size (.slice A' (aZ b.l (max a.s b.s-b.s)).length c')/\Below w.heap.size w w':=by
 obtain⟨K,hK⟩:∃K,max a.s b.s=K:=⟨_,rfl⟩
 rw[hK]
 obtain⟨W2,hd,hh,z1,z2,hc⟩:=AN w (.bool a.neg) v (.int .i64 a.s) (.bool b.neg) u (.int .i64 b.s)
 have h1:=fun W (hB:Below W2.heap.size W2 W)=>wX v a.l (K-a.s) W ((ha.below hc (aD1 _)).below hB (aD1 _)) da (by omega) (by omega)
 have h2:=fun W (hB:Below W2.heap.size W2 W)=>wX u b.l (K-b.s) W ((hb.below hc (aD1 _)).below hB (aD1 _)) db (by omega) (by omega)
 obtain⟨x,hx⟩:∃x,a.l++List.replicate (K-a.s) 0=x:=⟨_,rfl⟩
 obtain⟨y,hy⟩:∃y,b.l++List.replicate (K-b.s) 0=y:=⟨_,rfl⟩
 rw[hx]at h1
 rw[hy]at h2
 simp only[aZ,hx,hy]
 obtain⟨ka,hf⟩:∃k,K-a.s=k:=⟨_,rfl⟩
 obtain⟨kb,hg⟩:∃k,K-b.s=k:=⟨_,rfl⟩
 rw[hf]at h1
 rw[hg]at h2
 have H1:=aHL h1
 have H2:=aHL h2
 have hj:IntKind.i64.wrap ((K:Int)-(a.s:Int))=(ka:Int):=by rw[aR _ (by omega) (by omega)];omega
 have hl:IntKind.i64.wrap ((K:Int)-(b.s:Int))=(kb:Int):=by rw[aR _ (by omega) (by omega)];omega
 have hn:max (a.s:Int) (b.s:Int)=(K:Int):=by omega
 have Ha:=aHL hd
 have HZ:=aHL (fun W (hB:Below W2.heap.size W2 W)=>And.intro (z1.below hB (by omega)).bx (z2.below hB (by omega)).bx)
 have Hb:=aHL hc
 have q0:=z1.c0
 have q1:=z1.c1
 have q2:=z1.c2
 have r0:=z2.c0
 have r1:=z2.c1
 have r2:=z2.c2
 obtain⟨na,l,s⟩:=a
 obtain⟨nb,l',s'⟩:=b
 simp only[dv]at *
 have B0:Below W2.heap.size W2 W2:=Below.refl _ _
 clear hd z1 z2 hc ha da hb db hx hy h1 h2 hf hg
 go_enter func366,ntmps366
 go_wp2_with fail
 rw[Ha.out]
 go_wp2_with fail
 refine(H1.out _ B0).mono ?_
 rintro e w4 ⟨v4,rfl,o4,b4⟩
 obtain⟨A4,c4,rfl⟩:=bJ o4
 have Z4:=HZ.out _ b4
 have c0:=Z4.1.c0
 have c1:=Z4.1.c1
 have c2:=Z4.1.c2
 have d0:=Z4.2.c0
 have d1:=Z4.2.c1
 have d2:=Z4.2.c2
 clear q0 q1 q2 r0 r1 r2
 go_wp2_with fail
 refine(H2.out _ b4).mono ?_
 rintro e w5 ⟨v5,rfl,o5,b5⟩
 obtain⟨A5,c5,rfl⟩:=bJ o5
 have hi:=b4.size
 have b6:=b4.trans (b5.mono hi)
 have i4:=aC.of_own o4
 have i5:=aC.of_own o5
 have f4:=eH o4 (aD1 _)
 have f5:=eH o5 (aD1 _)
 have X:=aside (And.intro (i4.below b5 (aD1 _)) (And.intro i5 (And.intro f4 (And.intro f5 b6))))
 clear i4 i5 f4 f5 o4 o5 b6
 go_wp2
 refine aHP (results_tmp3 (by rfl) _ _ _) rfl ⟨A4,c4,A5,c5,rfl,X.out.1,X.out.2.1,fun k hk=>?_,fun k hk=>?_,Hb.out.trans (X.out.2.2.2.2.mono (by omega))⟩
 ·have:=X.out.2.2.1 k hk;omega
 ·have:=X.out.2.2.2.1 k hk;omega
def jN (a b:Dc):Int:=
 if a.neg=true/\b.neg=true then eS (num (aZ b.l (max a.s b.s-b.s)):Nat) (num (aZ a.l (max a.s b.s-a.s)):Nat)
 else if a.neg=true then -1 else if b.neg=true then 1
 else eS (num (aZ a.l (max a.s b.s-a.s)):Nat) (num (aZ b.l (max a.s b.s-b.s)):Nat)
theorem aA1 {w w5:World}{g:Nat}{a b c a' b' c':Value}{s4 s5:Value}{l4 l5:List Int}(h1:cO w5 g a b c)(h2:cO w5 (g+1) a' b' c')(i4:aC w5 s4 l4)(i5:aC w5 s5 l5)
  (f4:dC (g+2) s4) (f5:dC (g+2) s5) (hb:Below g w w5) (x y z x' y' z':Value):
  ∃W6,((((((w5.setCell ⟨g,0,none⟩ x).setCell ⟨g,1,none⟩ y).setCell ⟨g,2,none⟩ z).setCell ⟨g+1,0,none⟩ x').setCell ⟨g+1,1,none⟩ y').setCell ⟨g+1,2,none⟩ z')=W6/\
   cO W6 g x y z/\cO W6 (g+1) x' y' z'/\aC W6 s4 l4/\aC W6 s5 l5/\Below g w W6/\W6.heap.size=w5.heap.size:=by
 have k1:=h1.setAll x y z
 have k2:cO (((w5.setCell ⟨g,0,none⟩ x).setCell ⟨g,1,none⟩ y).setCell ⟨g,2,none⟩ z) (g+1) a' b' c':=((h2.far (p:=⟨g,0,none⟩) (by simp) x).far (p:=⟨g,1,none⟩) (by simp) y).far (p:=⟨g,2,none⟩) (by simp) z
 refine⟨_,rfl,((k1.far (p:=⟨g+1,0,none⟩) (by simp) x').far (p:=⟨g+1,1,none⟩) (by simp) y').far (p:=⟨g+1,2,none⟩) (by simp) z',k2.setAll x' y' z',?_,?_,?_,by simp⟩
 ·exact(i4.set3 f4 (by omega) x y z).set3 f4 (by omega) x' y' z'
 ·exact(i5.set3 f5 (by omega) x y z).set3 f5 (by omega) x' y' z'
 ·exact Below.set3 (Below.set3 hb (aD1 _) x y z) (by omega) x' y' z'
theorem oM (v u:Value)(a b:Dc)(w:World)(ha:aC w v a.l)(hb:aC w u b.l)(da:Dg a.l)(db:Dg b.l)(la:a.l.length<=40)(lb:b.l.length<=40)(sa:a.s<=40)(sb:b.s<=40):
  Calls prog 295 #[dv v a,dv u b] w fun e w'=>e=.returned (.int .i64 (jN (aL a) (aL b)))/\Below w.heap.size w w':=by
 obtain⟨W2,hi,hq,z1,z2,hd⟩:=AN w (.bool a.neg) v (.int .i64 a.s) (.bool b.neg) u (.int .i64 b.s)
 have h1:=fun W (hB:Below W2.heap.size W2 W)=>eX v a W ((ha.below hd (aD1 _)).below hB (aD1 _)) (by omega) (by omega)
 have h2:=fun W (hB:Below W2.heap.size W2 W)=>eX u b W ((hb.below hd (aD1 _)).below hB (aD1 _)) (by omega) (by omega)
 have ta:=iL a da
 have tb:=iL b db
 have tc:=iD a
 have td:=iD b
 have te:=kD a
 have tf:=kD b
 obtain⟨a',hj⟩:∃a',aL a=a':=⟨_,rfl⟩
 obtain⟨b',hn⟩:∃b',aL b=b':=⟨_,rfl⟩
 rw[hj]at h1 ta tc te⊢
 rw[hn]at h2 tb td tf⊢
 have hl:=fun W A c A' c' (i1:aC W (.slice A a'.l.length c) a'.l) (i2:aC W (.slice A' b'.l.length c') b'.l)=>ZA (.slice A a'.l.length c) (.slice A' b'.l.length c') a' b' W i1 i2 ta tb (by omega) (by omega) (by omega) (by omega)
 have hf:=fun W X Y (i1:aC W X (aZ a'.l (max a'.s b'.s-a'.s))) (i2:aC W Y (aZ b'.l (max a'.s b'.s-b'.s)))=>
  E3 X Y _ _ W i1 i2 (cJ ta _) (cJ tb _) (by rw[bV];omega) (by rw[bV];omega)
 have hg:=fun W X Y (i1:aC W X (aZ a'.l (max a'.s b'.s-a'.s))) (i2:aC W Y (aZ b'.l (max a'.s b'.s-b'.s)))=>
  E3 Y X _ _ W i2 i1 (cJ tb _) (cJ ta _) (by rw[bV];omega) (by rw[bV];omega)
 obtain⟨r,hr⟩:∃r,jN a' b'=r:=⟨_,rfl⟩
 have hc:=hr
 unfold jN at hc
 rw[hr]
 obtain⟨x,hx⟩:∃x,aZ a'.l (max a'.s b'.s-a'.s)=x:=⟨_,rfl⟩
 obtain⟨y,hy⟩:∃y,aZ b'.l (max a'.s b'.s-b'.s)=y:=⟨_,rfl⟩
 rw[hx,hy]at hc
 simp only[hx,hy]at hl hf hg
 have H1:=aHL h1
 have H2:=aHL h2
 have HL:=aHL hl
 have HX:=aHL hf
 have HY:=aHL hg
 have Hb:=aHL hi
 have HZ:=aHL (fun W (hB:Below W2.heap.size W2 W)=>And.intro (z1.below hB (by omega)) (z2.below hB (by omega)))
 have Hc:=aHL hd
 have q0:=z1.c0
 have q1:=z1.c1
 have q2:=z1.c2
 have r0:=z2.c0
 have r1:=z2.c1
 have r2:=z2.c2
 obtain⟨na,l,s⟩:=a
 obtain⟨nb,l',s'⟩:=b
 obtain⟨na',ld,sc⟩:=a'
 obtain⟨nb',lf,sd⟩:=b'
 simp only[dv]at *
 have B0:Below W2.heap.size W2 W2:=Below.refl _ _
 clear hi z1 z2 hd ha da hb db hx hy h1 h2 hl hf hg hj hn hr ta tb
 go_enter func295,ntmps295
 go_wp2_with fail
 rw[Hb.out]
 go_wp2_with fail
 go_region_with (first
  |(go_at_call 253;refine(H2.out _ ba).mono ?_;rintro e w5 ⟨v5,rfl,i5,f5,b5⟩;obtain⟨A5,c5,rfl⟩:=i5.form;have b6:=ba.trans (b5.mono ba.size);have Z5:=HZ.out _ b6;have e0:=Z5.1.c0;have e1:=Z5.1.c1;have e2:=Z5.1.c2;have ef:=Z5.1.fz;have g0:=Z5.2.c0;have g1:=Z5.2.c1;have g2:=Z5.2.c2;have gf:=Z5.2.fz)
  |(go_at_call 253;refine(H1.out W2.drew ⟨B0.os,B0.tape,B0.output,B0.size,B0.block⟩).mono ?_;rintro e w4 ⟨v4,rfl,i4,f4,b4⟩;have ba:Below W2.heap.size W2 w4:=⟨b4.os,b4.tape,b4.output,b4.size,b4.block⟩;obtain⟨A4,c4,rfl⟩:=i4.form;have Z4:=(HZ.out _ ba).2.bx;have d0:=Z4.c0;have d1:=Z4.c1;have d2:=Z4.c2))
 all_goals
  have ho:=b4.size
  have hh:=ba.size
  simp only[World.drew]at ho
  have F4:dC (w.heap.size+2) (.slice A4 ld.length c4):=fun k hk=>by have:=f4 k hk;simp only[World.drew]at this;omega
  have F5:dC (w.heap.size+2) (.slice A5 lf.length c5):=fun k hk=>by have:=f5 k hk;omega
  obtain⟨W6,hp,K1,K2,K4,K5,KB,Ks⟩:=aA1 Z5.1 Z5.2 (i4.below b5 (aD1 _)) i5 F4 F5 (Hc.out.trans (b6.mono (by omega))) (.bool na') (.slice A4 ld.length c4) (.int .i64 sc) (.bool nb') (.slice A5 lf.length c5) (.int .i64 sd)
  rw[hp]
  have p0:=K1.c0
  have p1:=K1.c1
  have p2:=K1.c2
  have s0:=K2.c0
  have s1:=K2.c1
  have s2:=K2.c2
  have Ha:=aHL (HL.out W6 A4 c4 A5 c5 K4 K5)
  have hs:=b6.size
  have HF:=aHL (fun W (hB:Below W6.heap.size W6 W)=>And.intro (K1.below hB (by omega)).bx (K2.below hB (by omega)).bx)
  have KK:=aside KB
  clear b4 ba i4 f4 Z4 d0 d1 d2 b5 i5 f5 b6 Z5 e0 e1 e2 ef g0 g1 g2 gf K1 K2 K4 K5 KB hp F4 F5 q0 q1 q2 r0 r1 r2 ho hh H1 H2 HZ HL
  cases na'<;>cases nb'
  ·simp at hc
   go_wp2_with(first
    |(go_at_call 367;refine(HX.out _ _ _ i7 i8).mono ?_;rintro e w8 ⟨rfl,b8⟩)
    |(go_at_call 366;refine Ha.out.mono ?_;rintro e w7 ⟨A7,c7,A8,c8,rfl,i7,i8,-,-,b7⟩;have Z7:=HF.out _ b7;have u0:=Z7.1.c0;have u1:=Z7.2.c0))
   go_ret;exact⟨by rw[<-hc];rfl,KK.out.trans ((b7.mono (by omega)).trans (b8.mono (by have:=b7.size;omega)))⟩
  ·simp at hc;subst hc
   go_wp2_with(first
    |(go_at_call 366;refine Ha.out.mono ?_;rintro e w7 ⟨A7,c7,A8,c8,rfl,i7,i8,-,-,b7⟩;have Z7:=HF.out _ b7;have u0:=Z7.1.c0;have u1:=Z7.2.c0))
   go_ret;exact⟨rfl,KK.out.trans (b7.mono (by omega))⟩
  ·simp at hc;subst hc
   go_wp2_with(first
    |(go_at_call 366;refine Ha.out.mono ?_;rintro e w7 ⟨A7,c7,A8,c8,rfl,i7,i8,-,-,b7⟩;have Z7:=HF.out _ b7;have u0:=Z7.1.c0;have u1:=Z7.2.c0))
   go_ret;exact⟨rfl,KK.out.trans (b7.mono (by omega))⟩
  ·simp at hc
   go_wp2_with(first
    |(go_at_call 367;refine(HY.out _ _ _ i7 i8).mono ?_;rintro e w8 ⟨rfl,b8⟩)
    |(go_at_call 366;refine Ha.out.mono ?_;rintro e w7 ⟨A7,c7,A8,c8,rfl,i7,i8,-,-,b7⟩;have Z7:=HF.out _ b7;have u0:=Z7.1.c0;have u1:=Z7.2.c0))
   go_ret;exact⟨by rw[<-hc];rfl,KK.out.trans ((b7.mono (by omega)).trans (b8.mono (by have:=b7.size;omega)))⟩
theorem aoY (w:World)(a b c a' b' c' x y z:Value):∃W2,((w.alloc (Obj.cells #[a,b,c] 274)).alloc (Obj.cells #[a',b',c'] 274)).alloc (Obj.cells #[x,y,z] 274)=W2/\W2.heap.size=w.heap.size+3/\
  cO W2 w.heap.size a b c/\cO W2 (w.heap.size+1) a' b' c'/\cO W2 (w.heap.size+2) x y z/\Below w.heap.size w W2:=by
 obtain⟨W1,h1,s1,k1,k2,kb⟩:=AN w a b c a' b' c'
 refine⟨_,rfl,by simp,?_,?_,?_,?_⟩
 ·rw[h1];exact k1.keep (aHR _ _ (by omega))
 ·rw[h1];exact k2.keep (aHR _ _ (by omega))
 ·rw[h1];have:=cO.new W1 x y z;rw[s1]at this;exact this
 ·rw[h1];exact kb.alloc (by omega) _
def lV (d:Dc)(K:Nat):Dc:=⟨(aL d).neg,bW (aZ (aL d).l (K-(aL d).s)),K⟩
theorem sE (v:Value)(d:Dc)(K:Nat)(w:World)(ha:aC w v d.l)(da:Dg d.l)(hl:d.l.length<=40)(hs:d.s<=40)(hK:K<=40)(hn:(aL d).s<=K):
  Calls prog 537 #[dv v d,.int .i64 K] w fun e w'=>∃sl,e=.returned (.tuple #[dv sl (lV d K),.int .i64 0])/\aC w' sl (lV d K).l/\dC w.heap.size sl/\Below w.heap.size w w':=by
 obtain⟨W2,hf,ho,z1,z2,hb⟩:=AN w (.bool d.neg) v (.int .i64 d.s) (.bool false) (.slice none 0 0) (.int .i64 0)
 have hm:=iN v d W2 (ha.below hb (aD1 _)) da (by omega)
 have ht:=fun W (hB:Below W2.heap.size W2 W)=>eX v d W ((ha.below hb (aD1 _)).below hB (aD1 _)) (by omega) (by omega)
 have td:=iL d da
 have tl:=iD d
 have ts:=kD d
 unfold lV
 obtain⟨t,hg⟩:∃t,aL d=t:=⟨_,rfl⟩
 rw[hg]at ht td tl ts hn⊢
 have hc:=fun W X (i:aC W X t.l)=>wX X t.l (K-t.s) W i td (by omega) (by omega)
 have pl:=bV t.l (K-t.s)
 obtain⟨p,hp⟩:∃p,aZ t.l (K-t.s)=p:=⟨_,rfl⟩
 have hh:t.l++List.replicate (K-t.s) 0=p:=hp
 rw[hp]at pl⊢
 rw[hh]at hc
 have hd:=fun W X (i:aC W X p)=>nX X p W i (by omega)
 obtain⟨q,hq⟩:∃q,bW p=q:=⟨_,rfl⟩
 rw[hq]at hd⊢
 obtain⟨k,hk⟩:∃k,K-t.s=k:=⟨_,rfl⟩
 rw[hk]at hc
 have hv:IntKind.i64.wrap ((K:Int)-(t.s:Int))=(k:Int):=by rw[aR _ (by omega) (by omega)];omega
 have hx:decide ((K:Int)<(t.s:Int))=false:=aEC (by omega)
 have hz:decide ((1000:Int)<(K:Int))=false:=aEC (by omega)
 have HM:=aHL hm
 have HT:=aHL ht
 have HS:=aHL hc
 have HD:=aHL hd
 have Ha:=aHL hf
 have HZ:=aHL (fun W (hB:Below W2.heap.size W2 W)=>(z1.below hB (by omega)).bx)
 have Z2:=aHL (fun W (hB:Below W2.heap.size W2 W)=>z2.below hB (by omega))
 have Hb:=aHL hb
 have q0:=z1.c0
 have q1:=z1.c1
 have q2:=z1.c2
 obtain⟨na,l,s⟩:=d
 obtain⟨tn,ta,tb⟩:=t
 simp only[dv]at *
 clear hf z1 z2 hb ha da hm ht hc hd hg hp hh hq td pl
 go_enter func537,ntmps537
 go_wp2_with fail
 rw[Ha.out]
 go_wp2_with fail
 refine HM.out.mono ?_
 rintro e w3 ⟨rfl,b3⟩
 have Z:=HZ.out _ b3
 have c0:=Z.c0
 have c1:=Z.c1
 have c2:=Z.c2
 clear q0 q1 q2 Z
 go_wp2_with fail
 refine(HT.out _ b3).mono ?_
 rintro e w4 ⟨v4,rfl,i4,f4,bb⟩
 obtain⟨A4,c4,rfl⟩:=i4.form
 have b4:=b3.trans (bb.mono b3.size)
 clear c0 c1 c2 b3 bb
 go_wp2_with fail
 have hr:=b4.size
 obtain⟨W5,hi,k5,i5,B5,S5⟩:∃W5,w4.alloc (Obj.cells #[.bool tn,.slice A4 ta.length c4,.int .i64 tb] 274)=W5/\cO W5 w4.heap.size (.bool tn) (.slice A4 ta.length c4) (.int .i64 tb)/\
   aC W5 (.slice A4 ta.length c4) ta/\Below W2.heap.size W2 W5/\W5.heap.size=w4.heap.size+1:=
  ⟨_,rfl,cO.new _ _ _ _,i4.alloc _,b4.alloc hr _,by simp⟩
 rw[hi]
 clear hi i4 f4 b4
 refine(HS.out W5 _ i5).mono ?_
 rintro e w6 ⟨v6,rfl,o6,ba⟩
 obtain⟨A6,c6,rfl⟩:=bJ o6
 have b6:=B5.trans (ba.mono B5.size)
 have i6:=aC.of_own o6
 have Z:=(k5.below ba (by omega)).bx
 have c0:=Z.c0
 have HK:=aHL (fun W (hB:Below w6.heap.size w6 W)=>((k5.below ba (by omega)).below hB (by have:=ba.size;omega)).bx)
 clear Z i5 ba k5
 go_wp2_with fail
 go_region_with (go_at_call 291;refine(HD.out w6.drew _ i6).mono ?_;rintro e w7 ⟨v7,rfl,o7,b7⟩;obtain⟨A7,c7,rfl⟩:=bJ o7;have bc:Below w6.heap.size w6 w7:=⟨b7.os,b7.tape,b7.output,b7.size,b7.block⟩;have b8:=b6.trans (bc.mono b6.size);have Z7:=(HK.out _ bc);have d0:=Z7.c0;have Z8:=Z2.out _ b8;have e0:=Z8.c0;have e1:=Z8.c1;have e2:=Z8.c2;have ef:=Z8.fz)
 all_goals
  have hA:=b6.size
  have f7:dC (w.heap.size+2) (.slice A7 q.length c7):=fun j hj=>by have:=(o7.lt j hj).1;simp only[World.drew]at this;omega
  go_wp2
  refine aHP (aW (by rfl) _ _ (w.heap.size+1) _ _ _ _ _ rfl rfl (Z8.setAll _ _ _) underlying274 rfl (by kernel_rfl)) rfl ?_
  refine⟨.slice A7 q.length c7,rfl,?_,fun j hj=>?_,Below.set3 (Hb.out.trans (b8.mono (by omega))) (by omega) _ _ _⟩
  ·exact(aC.of_own o7).set3 f7 (by omega) _ _ _
  ·have:=f7 j hj;omega
def wideL (l:List Int)(n:Nat):List Int:=List.replicate (n-l.length) 0++l
theorem kR (l:List Int)(n:Nat):(wideL l n).length=max l.length n:=by simp[wideL];omega
theorem qE (n:Nat):(madeCells (Value.int .i64 0).cells (n*1)).toList=List.replicate n (Value.int .i64 0):=by
 have h:(Value.int .i64 0).cells=#[Value.int .i64 0]:=rfl;rw[h];apply List.ext_getElem
 ·simp[madeCells]
 ·intro i h1 h2;simp[madeCells,Nat.mod_one]
theorem S9 {w:World}{B g n:Nat}{t:TypeId}{xs:List Value}(h:w.ownsRow B t 1 (.slice (some ⟨g,0,none⟩) n n) n xs):w.heap[g]?=some (.cells xs.toArray t (0,0)):=by
 rcases h.2 with⟨h0,_⟩|⟨g',cap,cur,he,_,hg,_,_,hs,ht⟩
 ·cases h0
 ·injection he with e1 e2 e3
  injection e1 with e1
  injection e1 with e1
  subst e1 e3;rw[hg];have:cur.toList=xs:=by rw[<-ht,List.take_of_length_le (by simp;omega)]
  rw[<-this]
theorem adE (v:Value)(d:Dc)(n:Nat)(w:World)(ha:aC w v d.l)(la:d.l.length<=100)(hn:n<=100):
  Calls prog 252 #[dv v d,.int .i64 n] w fun e w'=>∃v',e=.returned v'/\w'.ownsRow w.heap.size 3 1 v' (wideL d.l n).length (ints (wideL d.l n))/\Below w.heap.size w w':=by
 obtain⟨na,l,s⟩:=d
 obtain⟨A,c,rfl⟩:=ha.form
 simp only[dv]at *
 obtain⟨m,hm⟩:∃m,max l.length n=m:=⟨_,rfl⟩
 obtain⟨k,hk⟩:∃k,m-l.length=k:=⟨_,rfl⟩
 have hD:max (l.length:Int) (n:Int)=(m:Int):=by omega
 have hE:IntKind.i64.wrap ((m:Int)-(l.length:Int))=(k:Int):=by rw[aR _ (by omega) (by omega)];omega
 have ho:k<=m:=by omega
 obtain⟨i0,hi,hF,ht,hG⟩:=aHT dI
 obtain⟨W1,hh⟩:∃W1,w.alloc (Obj.cells #[.bool na,.slice A l.length c,.int .i64 s] 274)=W1:=⟨_,rfl⟩
 have hv:W1.heap.size=w.heap.size+1:=by rw[<-hh];simp
 have z1:cO W1 w.heap.size (.bool na) (.slice A l.length c) (.int .i64 s):=by rw[<-hh];exact cO.new _ _ _ _
 have hr:Below w.heap.size w W1:=by rw[<-hh];exact(Below.refl _ w).alloc (aD1 _) _
 have q1:=z1.c1
 have HW:=aHL hh
 have HI:=aHL (ha.below hr (aD1 _))
 have HZ:=aHL z1
 have HB:=aHL hr
 clear hh z1 hr ha
 go_enter func252,ntmps252
 go_wp2_with(first|(at_make;refine wpList_make_full _ rfl _ _ 22 rfl (w.heap.size+1) 3 i0 (.int .i64 0) 1 underlying22 hi hF ht .i64 .i64 _ _ m rfl rfl rfl rfl (by rw[hG];omega) (by unfold maxLen;omega) (by simp) ?_;intro w5 hf hd;rw[HW.out]at hf hd;have hq:w5.cell? ⟨w.heap.size,1,none⟩=some (.slice A l.length c):=hd.cell q1 (by simp)))
 rw[qE,hv]at hf
 try rw[hv]
 have hl:=S9 hf
 have b5:Below w.heap.size w w5:=HB.out.grown hd (by omega) (fun k h=>by cases h)
 have Ha:=aHL (HI.out.keep (w':=w5) (fun b o hb=>aHW (hd.block b hb (by simp))))
 have hz:m-k=l.length:=by omega
 have s1:Hid ((ints l).length=Nat.min l.length (m-k)):=by rw[hz];show _=_;simp[ints]
 have s2:Hid (0<(ints l).length->(if m=k then some (⟨w.heap.size+1,0,none⟩:Addr)else some ⟨w.heap.size+1,k,none⟩)=some ⟨w.heap.size+1,k,none⟩/\∃ad,A=some ad/\∀j u,(ints l)[j]?=some u->w5.drew.cell? (ad.add j)=some u):=by
  intro h0;have hH:0<l.length:=by simpa [ints]using h0
  refine⟨by rw[aD4 (by omega)],?_⟩;obtain⟨A',c',he,_,_,hA⟩:=Ha.out;injection he with e1 e2 e3
  subst e1;obtain⟨b,off,rfl,hc⟩:=hA hH;refine⟨_,rfl,fun j u hu=>?_⟩
  have hj:j<l.length:=by
   have:=(aED.1 hu).1;simpa [ints]using this
  have hx:u=.int .i64 (l.getD j 0):=by
   simp[ints,aEB hj]at hu;rw[<-hu];simp[aD9,aEB hj]
  rw[hx];have hs:(⟨b,off,none⟩:Addr).add j=⟨b,off+j,none⟩:=by unfold Addr.add;split<;>simp_all
  rw[hs];exact hc j hj
 have s3:Hid (k+(ints l).length<=(List.replicate m (Value.int .i64 0)).length):=by show _<=_;simp[ints];omega
 have s4:Hid (∀u∈ints l,u.oneCell'=true):=by
  intro u hu;obtain⟨x,_,rfl⟩:=aEZ.1 hu;rfl
 have s5:Hid (Below w.heap.size w w5.drew):=⟨b5.os,b5.tape,b5.output,b5.size,b5.block⟩
 have s6:Hid ((prog.info? 3).map (·.size)=some 1):=by show _=_;rw[hi];simp[ht]
 have hg:w5.drew.heap[w.heap.size+1]?=some (.cells (List.replicate m (Value.int .i64 0)).toArray 3 (0,0)):=hl
 clear hd hf hD hz
 go_region_law (refine step_copy_splice rfl (.tmp 19) (.tmp 21) 22 22 rfl 3 underlying22 s6.out (if m=k then some ⟨w.heap.size+1,0,none⟩else some ⟨w.heap.size+1,k,none⟩) A (m-k) (m-k) l.length c (by simp[Act.eval,Act.put]) (by simp[Act.eval,Act.put]) (w.heap.size+1) k (List.replicate m (.int .i64 0)) 3 hg (ints l) s1.out s2.out s3.out s4.out w.heap.size w s5.out (by omega) ?_;intro w6 hB hI)
 all_goals
  clear s1 s2 s3 s4 s5 s6 hl hg hq hE b5 Ha q1
  have HK:=aHL (And.intro hm (And.intro hk ho))
  clear hm hk ho
  have HG:=aHL hB.out
  clear hB
  generalize(if m=k then some (⟨w.heap.size+1,0,none⟩:Addr)else some ⟨w.heap.size+1,k,none⟩)=DD
  generalize(ints l).length=LL
  go_wp2
  obtain⟨hm,hk,ho⟩:=HK.out
  go_ret
  have hp:(wideL l n).length=m:=by rw[kR,hm]
  rw[hp]
  have hJ:splice (List.replicate m (Value.int .i64 0)) k (ints l)=ints (wideL l n):=by
   have hK:k+(ints l).length=m:=by rw[aQ];omega
   have hL:n-l.length=k:=by omega
   unfold splice;rw[hK,List.drop_of_length_le (by simp),aET,List.take_replicate,Nat.min_eq_left ho];simp[wideL,ints,hL]
  have hC:=HG.out
  rw[hJ]at hC
  exact⟨_,rfl,⟨by rw[aQ,hp];omega,.inr ⟨w.heap.size+1,m,_,rfl,by omega,hC,aD1 _,by unfold maxLen;omega,by simp[aQ,hp],by simp[List.take_of_length_le,aQ,hp]⟩⟩,hI⟩
def eP (d:Dc):List Int:=bW ((wideL d.l d.s).take ((wideL d.l d.s).length-d.s))
def mH (d:Dc):List Int:=(wideL d.l d.s).drop ((wideL d.l d.s).length-d.s)
theorem ZB (v:Value)(d:Dc)(w:World)(ha:aC w v d.l)(la:d.l.length<=100)(hs:d.s<=100):
  Calls prog 401 #[dv v d] w fun e w'=>∃v1 v2,e=.returned (.tuple #[v1,v2])/\aC w' v1 (eP d)/\aC w' v2 (mH d)/\dC w.heap.size v1/\dC w.heap.size v2/\Below w.heap.size w w':=by
 obtain⟨W1,hd⟩:∃W1,w.alloc (Obj.cells #[.bool d.neg,v,.int .i64 d.s] 274)=W1:=⟨_,rfl⟩
 have hC:W1.heap.size=w.heap.size+1:=by rw[<-hd];simp
 have z1:cO W1 w.heap.size (.bool d.neg) v (.int .i64 d.s):=by rw[<-hd];exact cO.new _ _ _ _
 have hh:Below w.heap.size w W1:=by rw[<-hd];exact(Below.refl _ w).alloc (aD1 _) _
 have hw:=adE v d d.s W1 (ha.below hh (aD1 _)) la hs
 unfold eP mH
 have hn:=kR d.l d.s
 obtain⟨x,hx⟩:∃x,wideL d.l d.s=x:=⟨_,rfl⟩
 rw[hx]at hw hn⊢
 obtain⟨k,hk⟩:∃k,x.length-d.s=k:=⟨_,rfl⟩
 rw[hk]
 have hf:k<=x.length:=by omega
 have hg:x.length<=100:=by omega
 have hv:IntKind.i64.wrap ((x.length:Int)-(d.s:Int))=(k:Int):=by rw[aR _ (by omega) (by omega)];omega
 have hi:=fun W X (i:aC W X (x.take k))=>nX X (x.take k) W i (by simp;omega)
 obtain⟨y,hy⟩:∃y,bW (x.take k)=y:=⟨_,rfl⟩
 simp only[hy]at hi⊢
 have HT:=aHL hi
 have HW:=aHL hw
 have HE:=aHL hd
 have HB:=aHL hh
 have q0:=z1.c0
 have q1:=z1.c1
 have q2:=z1.c2
 have HZ:=aHL z1
 obtain⟨na,l,s⟩:=d
 simp only[dv]at *
 obtain⟨N,hN⟩:∃N,x.length=N:=⟨_,rfl⟩
 clear hd z1 hh ha hi hw hn hx hk hy
 go_enter func401,ntmps401
 go_wp2_with fail
 rw[HE.out]
 go_wp2_with fail
 refine HW.out.mono ?_
 rintro e w3 ⟨v3,rfl,o3,b3⟩
 obtain⟨A3,c3,rfl⟩:=bJ o3
 have Z:=(HZ.out.below b3 (by omega)).bx
 have c0:=Z.c0
 have c1:=Z.c1
 have c2:=Z.c2
 have i3:=aC.of_own o3
 have hc:x.length<=c3/\c3<=9223372036854775807:=by
  obtain⟨A',c',he,h0,h1,_⟩:=i3;injection he with e1 e2 e3
  subst e3;exact⟨h0,h1⟩
 have j1:=aHL (i3.take_ k hf)
 have j2:=aHL (i3.drop_ k hf)
 rw[hN]at hf hg hv hc
 have ho:k<=c3:=by omega
 have hj:=eH o3 (aD1 _)
 rw[hN]at j2 o3 hj
 clear q0 q1 q2 Z i3
 have hA:(∃g,A3=some ⟨g,0,none⟩)∨(A3=none/\N=0/\c3=0):=by
  rcases o3.2 with⟨he,h0⟩|⟨g,cap,cur,he,_⟩
  ·injection he with e1 e2 e3
   exact .inr ⟨e1,h0,e3⟩
  ·injection he with e1 e2 e3
   exact .inl ⟨g,e1⟩
 rcases hA with⟨g,rfl⟩|⟨rfl,hp,hz⟩
 ·by_cases hr:c3=k
  ·subst hr;clear ho;obtain rfl:N=c3:=by omega
   clear hf hc;go_wp2_with fail
   go_region_with (go_at_call 291;refine(HT.out w3.drew _ j1.out).mono ?_;rintro e w4 ⟨v4,rfl,o4,b4⟩;obtain⟨A4,c4,rfl⟩:=bJ o4)
   all_goals
    go_wp2
    have ht:=b3.size
    have ba:Below W1.heap.size W1 w4:=b3.trans (show Below W1.heap.size w3 w4 from⟨b4.os,b4.tape,b4.output,by have:=b4.size;simp only[World.drew]at this;omega,fun q hq=>b4.block q (by simp only[World.drew];omega)⟩)
    have j5:aC w4 (.slice (some ⟨g,0,none⟩) 0 0) (x.drop N):=by
     have h:=j2.out;simp only[if_true,aG5]at h;exact h.keep fun b o hb=>aHW (a:=⟨b,o,none⟩) (b4.block b (show b<w3.drew.heap.size from hb))
    go_ret2
    refine⟨.slice A4 y.length c4,.slice (some ⟨g,0,none⟩) 0 0,rfl,aC.of_own o4,j5,fun q hq=>?_,fun q hq=>?_,HB.out.trans (ba.mono (by omega))⟩
    ·have:=(o4.lt q hq).1;simp only[World.drew]at this;omega
    ·have:=hj q (by simpa [Value.ownBlock]using hq);omega
  ·go_wp2_with fail
   go_region_with (go_at_call 291;refine(HT.out w3.drew _ j1.out).mono ?_;rintro e w4 ⟨v4,rfl,o4,b4⟩;obtain⟨A4,c4,rfl⟩:=bJ o4)
   all_goals
    go_wp2
    have ht:=b3.size
    have ba:Below W1.heap.size W1 w4:=b3.trans (show Below W1.heap.size w3 w4 from⟨b4.os,b4.tape,b4.output,by have:=b4.size;simp only[World.drew]at this;omega,fun q hq=>b4.block q (by simp only[World.drew];omega)⟩)
    have j5:aC w4 (.slice (some ⟨g,k,none⟩) (N-k) (c3-k)) (x.drop k):=by
     have h:=j2.out;rw[aD4 hr]at h;simp only[Option.map]at h;have hl:(⟨g,0,none⟩:Addr).add k=⟨g,k,none⟩:=by unfold Addr.add;split<;>simp_all
     rw[hl]at h;exact h.keep fun b o hb=>aHW (a:=⟨b,o,none⟩) (b4.block b (show b<w3.drew.heap.size from hb))
    go_ret2
    refine⟨.slice A4 y.length c4,.slice (some ⟨g,k,none⟩) (N-k) (c3-k),rfl,aC.of_own o4,j5,fun q hq=>?_,fun q hq=>?_,HB.out.trans (ba.mono (by omega))⟩
    ·have:=(o4.lt q hq).1;simp only[World.drew]at this;omega
    ·have:=hj q (by simpa [Value.ownBlock]using hq);omega
 ·obtain rfl:c3=k:=by omega
  obtain rfl:N=c3:=by omega
  have HN:=aHL hp;clear ho hf hc hp hz;go_wp2_with fail
  go_region_with (go_at_call 291;refine(HT.out w3.drew _ j1.out).mono ?_;rintro e w4 ⟨v4,rfl,o4,b4⟩;obtain⟨A4,c4,rfl⟩:=bJ o4)
  all_goals
   go_wp2
   have ht:=b3.size
   have ba:Below W1.heap.size W1 w4:=b3.trans (show Below W1.heap.size w3 w4 from⟨b4.os,b4.tape,b4.output,by have:=b4.size;simp only[World.drew]at this;omega,fun q hq=>b4.block q (by simp only[World.drew];omega)⟩)
   have hB:x=[]:=aD8 (hN.trans HN.out)
   go_ret2
   refine⟨.slice A4 y.length c4,.slice none 0 0,rfl,aC.of_own o4,by rw[hB,List.drop_nil];exact aC.nil_ _ _ _ (by omega),fun q hq=>?_,fun q hq=>by simp[Value.ownBlock]at hq,HB.out.trans (ba.mono (by omega))⟩
   have:=(o4.lt q hq).1
   simp only[World.drew]at this
   omega
structure Dr where
 neg:Bool
 int:List Int
 sep:Bool
 frac:List Int
def mT (vi vf:Value)(d:Dr):Value:= .agg #[.bool d.neg,vi,.bool d.sep,vf]
structure qF (w:World) (vi vf:Value) (d:Dr):Prop where
 ii:aC w vi d.int
 jf:aC w vf d.frac
 di:Dg d.int
 df:Dg d.frac
 li:d.int.length<=40
 lf:d.frac.length<=40
 sp:d.sep=true∨d.frac=[]
theorem qF.below {w w':World}{vi vf:Value}{d:Dr}{B:Nat}(h:qF w vi vf d)(hb:Below B w w')(hB:w.heap.size<=B):qF w' vi vf d:=
 ⟨h.ii.below hb hB,h.jf.below hb hB,h.di,h.df,h.li,h.lf,h.sp⟩
theorem AO (vi vf:Value)(d:Dr)(w:World)(h:qF w vi vf d):
  Calls prog 279 #[mT vi vf d] w fun e w'=>e=.returned (.bool true)/\Below w.heap.size w w':=by
 obtain⟨A2,c2,rfl⟩:=h.jf.form
 have H1:=aHL (fun W (hB:Below w.heap.size w W)=>rC vi d.int W (h.ii.below hB (aD1 _)) h.di)
 have H2:=aHL (fun W (hB:Below w.heap.size w W)=>rC _ d.frac W (h.jf.below hB (aD1 _)) h.df)
 have HB:=aHL (fun o=>(Below.refl w.heap.size w).alloc (aD1 _) o)
 have ha:=h.sp
 obtain⟨n,li,sp,lf⟩:=d
 simp only[mT]at *
 clear h
 rcases ha with rfl|rfl
 ·go_enter func279,ntmps279;go_wp2_with fail
  refine(H1.out _ (HB.out _)).mono ?_;rintro e w' ⟨rfl,rfl⟩;go_wp2_with fail
  refine(H2.out _ (HB.out _)).mono ?_;rintro e w' ⟨rfl,rfl⟩;go_wp2;go_ret;exact⟨rfl,HB.out _⟩
 ·cases sp
  all_goals
   go_enter func279,ntmps279
   go_wp2_with fail
   refine(H1.out _ (HB.out _)).mono ?_
   rintro e w' ⟨rfl,rfl⟩
   go_wp2_with fail
   refine(H2.out _ (HB.out _)).mono ?_
   rintro e w' ⟨rfl,rfl⟩
   go_wp2
   go_ret
   exact⟨rfl,HB.out _⟩
def aJ (d:Dr):List Int:=d.int++(if d.sep then [10]else [])++d.frac
section
theorem aC.news {w:World}{a:Addr}{n c:Nat}{l:List Int}(h:aC w (.slice (some a) n c) l)(hl:0<l.length):∀j u,(ints l)[j]?=some u->w.cell? (a.add j)=some u:=by
 obtain⟨A',c',he,_,_,hA⟩:=h;injection he with e1 e2 e3
 subst e1;obtain⟨b,off,hb,hc⟩:=hA hl;injection hb with hb
 subst hb;intro j u hu
 have hj:j<l.length:=by
  have:=(aED.1 hu).1;simpa [ints]using this
 have hx:=mC l j hj;rw[hx]at hu;injection hu with hu
 subst hu;have ha:(⟨b,off,none⟩:Addr).add j=⟨b,off+j,none⟩:=by unfold Addr.add;split<;>simp_all
 rw[ha];exact hc j hj
section
variable {P:Program}(w:World)
theorem sM (base:Nat)(t ty e:TypeId)(i:TypeInfo)(ht:P.underlying t=some (.slice e))(hi:P.info? e=some i)(hz:i.zero=some (.int .i64 0))(hc:i.size=1)(hf:i.bytes=8)
  (v:Value) (n:Nat) (xs:List Value) (ha:w.ownsRow base e 1 v n xs) (u:Value) (l:List Int) (hu:aC w u l) (hh:n+l.length<=1000000) (hd:base<=w.heap.size):
  ∃v' w',(Builtin.append_ #[t,t] ty #[v,u]).run P w=.ok v' w'/\w'.ownsRow base e 1 v' (n+l.length) (xs++ints l)/\w.grownBy w' v.ownBlock:=by
 obtain⟨A,c,rfl⟩:=hu.form
 by_cases hl:0<l.length
 ·obtain⟨a,rfl⟩:∃a,A=some a:=by
   obtain⟨A',c',he,_,_,hA⟩:=hu;injection he with e1 e2 e3
   subst e1;obtain⟨b,off,hb,_⟩:=hA hl;exact⟨_,hb⟩
  obtain⟨v',w',k1,k2,k3,_⟩:=run_append_own (P:=P) w base t ty e i (.int .i64 0) 1 8 ht hi hz hc hf rfl (by decide) v n xs ha a l.length c (ints l) (by rw[aQ];omega) (hu.news hl) (NT l) (by unfold maxLen;omega) (by omega) hd;exact⟨v',w',k1,k2,k3⟩
 ·obtain rfl:l=[]:=aD8 (by omega);refine⟨v,w,?_,by simpa [ints]using ha,⟨rfl,rfl,rfl,aD1 _,fun _ _ _=>rfl⟩⟩;rcases ha.2 with⟨rfl,rfl⟩|⟨g,cap,cur,rfl,_,_,hg,_⟩
  ·cases A<;>simp[Builtin.append_,aHV ht,sizeOf,typeInfo,hi,Builtin.lenOf,Builtin.firstCells,loadCells,loadCellsFrom]
  ·cases A<;>simp[Builtin.append_,aHV ht,sizeOf,typeInfo,hi,Builtin.lenOf,Builtin.firstCells,loadCells,loadCellsFrom,hg,storeCells]
theorem aM {ops:Array Oper}{rest:List Oper}{o:Oper}{a:Act}{Q:Exit->Act->World->Prop}(hd:o.guard=none)(s x:Operand)(t:TypeId)
  (ho:o.op=.call {callee:= .builtin .append,args:=#[s,x],argTypes:=#[t,t]})
  (base:Nat) (e:TypeId) (i:TypeInfo) (ht:P.underlying t=some (.slice e)) (hi:P.info? e=some i) (hz:i.zero=some (.int .i64 0)) (ha:i.size=1) (hf:i.bytes=8)
  (v:Value) (n:Nat) (xs:List Value) (hs:a.eval s=v) (hc:w.ownsRow base e 1 v n xs) (u:Value) (l:List Int) (hx:a.eval x=u) (hu:aC w u l) (hg:n+l.length<=1000000) (hb:base<=w.heap.size)
  (h:∀v' w',w'.ownsRow base e 1 v' (n+l.length) (xs++ints l)->w.grownBy w' v.ownBlock->wpList P ops Q rest (a.put o.dst v') w'):
  wpList P ops Q (o::rest) a w:=by
 refine wpList_plain hd fun K hK=>?_
 obtain⟨v',w',hr,h2,h3⟩:=sM (P:=P) w base t o.type e i ht hi hz ha hf v n xs hc u l hu hg hb
 unfold Oper.wp execOp
 simp only[ho,resolve,invoke,builtin,aH2,aH3,aH1,aGP,aFB,aGS,hs,hx,hr]
 exact hK _ _ (h v' w' h2 h3)
end
end
theorem E4:∀(k:Nat) (l:List Int),k<=l.length->(∀j,j<k->l.getD j 0=0)->(k<l.length->l.getD k 0≠0)->bW l=l.drop k
 |0,[],_,_,_=>rfl
 |0,x::l,_,_,h=>by
  have hx:x≠0:=by simpa using h (by simp)
  unfold bW;rw[aHF (by simpa using hx)];rfl
 |k+1,[],h,_,_=>by simp at h
 |k+1,x::l,hk,h0,h=>by
  have hx:x=0:=by simpa using h0 0 (by omega)
  subst hx;have ih:=E4 k l (by simpa using hk) (fun j hj=>by simpa using h0 (j+1) (by omega)) (fun hl=>by simpa using h (by simpa using hl));unfold bW at ih⊢;rw[aHE (by simp),ih];rfl
theorem AP (v:Value)(l:List Int)(w:World)(h:aC w v l)(hd:Dg l):
  Calls prog 59 #[v] w fun e w'=>e=.returned (.bool true)/\w=w':=by
 obtain⟨A,c,rfl,hf,hg,hA⟩:=h
 by_cases h0:0<l.length
 ·obtain⟨b,off,rfl,ha⟩:=hA h0;have HD:=aHL hd;clear hA hd;go_enter func59,ntmps59;go_wp2;go_loop [3] (fun i=>∃k:Nat,i=.int .i64 k/\k<=l.length) (fun i=>l.length-(intOf i).toNat)
  case atStart=>exact⟨0,rfl,aES _⟩
  case round=>
   obtain⟨k,rfl,hk⟩:=hrel
   by_cases hc:k<l.length
   ·have c1:=ha k hc;have hx:=HD.out.getD k;obtain⟨x,hb⟩:∃x,l.getD k 0=x:=⟨_,rfl⟩;rw[hb]at c1 hx;obtain⟨hh,hi⟩:=hx;have g1:decide (x<0)=false:=aEC (by omega);have g2:decide ((9:Int)<x)=false:=aEC (by omega);clear hb ha;go_wp2;go_round
    case rel=>exact⟨k+1,by go_num,by omega⟩
    case measure=>simp[intOf];omega
   ·obtain rfl:k=l.length:=by omega
    clear ha;go_wp2;go_ret;exact⟨rfl,rfl⟩
 ·have hl:l=[]:=aD8 (by omega);subst hl;clear hA;go_enter func59,ntmps59;go_wp2;go_loop [3] (fun i=>i=.int .i64 0) (fun i=>0)
  case atStart=>rfl
  case round=>
   subst hrel
   go_wp2
   go_ret
   exact⟨rfl,rfl⟩
theorem pT (v:Value)(l:List Int)(i:Nat)(w:World)(h:aC w v l)(hi:i<=1000000):
  Calls prog 258 #[v,.int .i64 i] w fun e w'=>e=.returned (.int .i64 (bZ l i))/\w=w':=by
 obtain⟨A,c,rfl,hb,hc,hA⟩:=h
 obtain⟨r,hr⟩:∃r,bZ l i=r:=⟨_,rfl⟩
 rw[hr]
 by_cases hd:i<l.length
 ·obtain⟨b,off,rfl,ha⟩:=hA (by omega);have c1:=ha (l.length-1-i) (by omega);unfold bZ at hr;rw[aD4 (by omega)]at hr;rw[hr]at c1;clear ha hA hr;have e1:((l.length:Int)-1-(i:Int)).toNat=l.length-1-i:=by omega
  go_enter func258,ntmps258;go_wp2;go_ret;exact⟨rfl,rfl⟩
 ·unfold bZ at hr;rw[aD6 (by omega)]at hr;subst hr;clear hA;go_enter func258,ntmps258;go_wp2;go_ret;exact⟨rfl,rfl⟩
theorem aC.drop_at {w:World}{b off n c:Nat}{l:List Int}(h:aC w (.slice (some ⟨b,off,none⟩) n c) l)(k:Nat)(hk:k<=l.length)(hc:¬c=k):aC w (.slice (some ⟨b,off+k,none⟩) (n-k) (c-k)) (l.drop k):=by
 have:=h.drop_ k hk;rw[aD4 hc]at this;simp only[aFH]at this;have ha:(⟨b,off,none⟩:Addr).add k=⟨b,off+k,none⟩:=by unfold Addr.add;split<;>simp_all
 rw[ha]at this;exact this
theorem gS (v:Value)(l:List Int)(w:World)(h:aC w v l)(dl:Dg l)(hl:l.length<=1000000):
  Calls prog 40 #[v] w fun e w'=>∃v',e=.returned v'/\w'.ownsRow w.heap.size 3 1 v' (bW l).length (ints (bW l))/\Below w.heap.size w w':=by
 obtain⟨i0,hi,hg,hh,hn⟩:=aHT dI
 obtain⟨t,ht⟩:∃t,bW l=t:=⟨_,rfl⟩
 rw[ht]
 have HT:=aHL ht
 clear ht
 have HI:=aHL h
 have HG:=aHL (fun k=>dl.getD k)
 clear dl
 obtain⟨A,c,rfl,hB,hC,hA⟩:=h
 by_cases h0:0<l.length
 ·obtain⟨b,off,rfl,hc⟩:=hA h0;have HC:=aHL hc;clear hA hc;go_enter func40,ntmps40;go_wp2;go_loop [3] (fun i=>∃k:Nat,i=.int .i64 k/\k<=l.length/\Aside (∀j,j<k->l.getD j 0=0)) (fun i=>l.length-(intOf i).toNat)
  case atStart=>exact⟨0,rfl,aES _,fun j hj=>absurd hj (by omega)⟩
  case round=>
   obtain⟨k,rfl,hk,HS⟩:=hrel
   by_cases hq:k<l.length
   ·have c1:=HC.out k hq;obtain⟨x,hx⟩:∃x,l.getD k 0=x:=⟨_,rfl⟩;rw[hx]at c1;have HX:=aHL hx;clear hx;by_cases hp:x=0
    ·subst hp;go_wp2;go_round
     case rel=>
      refine⟨k+1,by go_num,by omega,fun j hj=>?_⟩
      by_cases hr:j<k
      ·exact HS.out j hr
      ·obtain rfl:j=k:=by omega
       exact HX.out
     case measure=>simp[intOf];omega
    ·have hD:1<=x:=by have:=(HG.out k).1;rw[HX.out]at this;omega
     have hd:Hid (t=l.drop k):=by
      rw[<-HT.out];exact E4 k l hk HS.out (fun _=>by rw[HX.out];exact hp)
     have hf:¬(c=k):=by omega
     have j1:=aHL (HI.out.drop_at k hk hf);clear hp;have ho:=aHL (show 0+(l.drop k).length<=1000000 by simp;omega);have hs:=aHL (show(x ==0)=false by simp;omega)
     iterate 40 (first|go_values|go_skip|go_guarded|go_step|go_upon|go_back)
     rw[hs.out]
     go_wp2_with(first
      |(at_builtin
        refine aM _ rfl _ _ 22 rfl w.heap.size 3 i0 underlying22 hi hg hh hn (.slice none 0 0) 0 [] (by simp[Act.eval,Act.put]) (aHN _ _ _ _) (.slice (some ⟨b,off+k,none⟩) (l.length-k) (c-k)) (l.drop k) (by simp[Act.eval,Act.put]) j1.out ho.out (aD1 _) ?_
        intro v4 w4 hb ha
        have X4:Aside (w4.ownsRow w.heap.size 3 1 v4 t.length (ints t)/\Below w.heap.size w w4):=⟨by rw[hd.out];simpa using hb,(Below.refl w.heap.size w).grown ha (aD1 _) (fun j hj=>by simp[Value.ownBlock]at hj)⟩
        clear hb ha))
     go_ret;exact⟨v4,rfl,X4.out.1,X4.out.2⟩
   ·obtain rfl:k=l.length:=by omega
    have hd:Hid (t=l.drop l.length):=by
     rw[<-HT.out];exact E4 _ l hk HS.out (fun h=>absurd h (by omega))
    have ho:=aHL (show 0+(l.drop l.length).length<=1000000 by simp);by_cases hf:c=l.length
    ·have j1:Hid (aC w (.slice (some ⟨b,off,none⟩) 0 0) (l.drop l.length)):=by
      rw[List.drop_length];exact aC.nil_ _ _ _ (by omega)
     go_wp2_with(first
      |(at_builtin
        refine aM _ rfl _ _ 22 rfl w.heap.size 3 i0 underlying22 hi hg hh hn (.slice none 0 0) 0 [] (by simp[Act.eval,Act.put]) (aHN _ _ _ _) (.slice (some ⟨b,off,none⟩) 0 0) (l.drop l.length) (by simp[Act.eval,Act.put,hf]) j1.out ho.out (aD1 _) ?_
        intro v4 w4 hb ha
        have X4:Aside (w4.ownsRow w.heap.size 3 1 v4 t.length (ints t)/\Below w.heap.size w w4):=⟨by rw[hd.out];simpa using hb,(Below.refl w.heap.size w).grown ha (aD1 _) (fun j hj=>by simp[Value.ownBlock]at hj)⟩
        clear hb ha))
     go_ret;exact⟨v4,rfl,X4.out.1,X4.out.2⟩
    ·have j1:=aHL (HI.out.drop_at l.length hk hf)
     go_wp2_with(first
      |(at_builtin
        refine aM _ rfl _ _ 22 rfl w.heap.size 3 i0 underlying22 hi hg hh hn (.slice none 0 0) 0 [] (by simp[Act.eval,Act.put]) (aHN _ _ _ _) (.slice (some ⟨b,off+l.length,none⟩) (l.length-l.length) (c-l.length)) (l.drop l.length) (by simp[Act.eval,Act.put,hf]) j1.out ho.out (aD1 _) ?_
        intro v4 w4 hb ha
        have X4:Aside (w4.ownsRow w.heap.size 3 1 v4 t.length (ints t)/\Below w.heap.size w w4):=⟨by rw[hd.out];simpa using hb,(Below.refl w.heap.size w).grown ha (aD1 _) (fun j hj=>by simp[Value.ownBlock]at hj)⟩
        clear hb ha))
     go_ret;exact⟨v4,rfl,X4.out.1,X4.out.2⟩
 ·have hv:l=[]:=aD8 (by omega);subst hv;have hz:t=[]:=HT.out.symm;subst hz;clear hA HI;go_enter func40,ntmps40;go_wp2;go_loop [3] (fun i=>i=.int .i64 0) (fun i=>0)
  case atStart=>rfl
  case round=>
   subst hrel
   go_wp2_with(first
    |(at_builtin
      refine aM _ rfl _ _ 22 rfl w.heap.size 3 i0 underlying22 hi hg hh hn (.slice none 0 0) 0 [] (by simp[Act.eval,Act.put]) (aHN _ _ _ _) (.slice _ 0 _) [] (by simp[Act.eval,Act.put];exact⟨rfl,rfl⟩) (aC.nil_ _ _ _ (by omega)) (by simp) (aD1 _) ?_
      intro v4 w4 hb ha
      have X4:Aside (w4.ownsRow w.heap.size 3 1 v4 ([]:List Int).length (ints [])/\Below w.heap.size w w4):=⟨by simpa using hb,(Below.refl w.heap.size w).grown ha (aD1 _) (fun j hj=>by simp[Value.ownBlock]at hj)⟩
      clear hb ha))
   go_ret
   exact⟨v4,rfl,X4.out.1,X4.out.2⟩
theorem tS (d:Int)(v:Value)(l:List Int)(w:World)(h:aC w v l)(hl:l.length<=100000):
  Calls prog 259 #[.int .i64 d,v] w fun e w'=>∃v',e=.returned v'/\w'.ownsRow w.heap.size 3 1 v' (d::l).length (ints (d::l))/\Below w.heap.size w w':=by
 obtain⟨i0,hi,hg,hh,hk⟩:=aHT dI
 obtain⟨A,c,rfl⟩:=h.form
 have HI:=aHL (fun W (hB:Below w.heap.size w W)=>h.below hB (aD1 _))
 clear h
 go_enter func259,ntmps259
 go_wp2_with(first
  |(at_builtin
    refine aHU _ rfl _ _ 22 rfl w.heap.size 3 i0 (.int .i64 0) 1 8 underlying22 hi hg hh hk rfl (by decide) (.slice none 0 0) 0 [] (by simp[Act.eval,Act.put]) (aHN _ _ _ _) ⟨w.heap.size,0,none⟩ 1 1 [.int .i64 d] (by simp[Act.eval,Act.put]) rfl (aHZ _ _ _) (fun x hx=>by simp at hx;subst hx;rfl) (by unfold maxLen;omega) (by omega) (by simp) ?_
    intro v3 w3 hc ha hf
    have B3:Below w.heap.size w w3:=((Below.refl w.heap.size w).alloc (aD1 _) _).grown ha (by simp) (fun j hj=>by simp[Value.ownBlock]at hj)
    have X3:=aside (And.intro hc B3)
    clear hc ha hf)
  |(at_builtin
    refine aM _ rfl _ _ 22 rfl w.heap.size 3 i0 underlying22 hi hg hh hk v3 _ _ (by simp[Act.eval,Act.put]) X3.out.1 (.slice A l.length c) l (by simp[Act.eval,Act.put]) (HI.out _ X3.out.2) (by omega) X3.out.2.size ?_
    intro v4 w4 hd hb
    have X4:=aside (And.intro hd (X3.out.2.grown hb X3.out.2.size (fun j hj=>(X3.out.1.lt j hj).1)))
    clear hd hb))
 go_ret
 refine⟨v4,rfl,?_,X4.out.2⟩
 have:=X4.out.1
 rw[show 0+1+l.length=(d::l).length by simp;omega]at this
 exact this
theorem E5 (o:List Int):qD o.reverse=(num o:Nat):=by unfold qD;rw[List.reverse_reverse]
theorem E6 {f:Nat->Int}{i:Nat}{o:List Int}{rest:Int}(h:((num o:Nat):Int)+rest*10^i=gY f i)(hl:o.length=i):
  ((num ((rest+f i)%10::o):Nat):Int)+(rest+f i)/10*10^(i+1)=gY f (i+1):=by
 have:=ER (f:=f) (i:=i) (o:=o.reverse) (rest:=rest) (by rw[E5];exact h) (by simpa using hl)
 rw[show o.reverse++[(rest+f i)%10]=((rest+f i)%10::o).reverse by simp,E5]at this
 exact this
theorem L9 (d:Int)(o:List Int)(h:0<=d):((num (d::o):Nat):Int)=d*10^o.length+(num o:Nat):=by
 rw[jW]
 push_cast;rw[Int.toNat_of_nonneg h]
theorem ZC (v u:Value)(a b:List Int)(w:World)(ha:aC w v a)(hb:aC w u b)(da:Dg a)(db:Dg b)(la:a.length<=100)(lb:b.length<=100):
  Calls prog 214 #[v,u] w fun e w'=>∃v',e=.returned v'/\w'.ownsRow w.heap.size 3 1 v' (bE (num a+num b)).length (ints (bE (num a+num b)))/\Below w.heap.size w w':=by
 obtain⟨N,hN⟩:∃N,max a.length b.length=N:=⟨_,rfl⟩
 have ht:∀i,0<=bZ a i+bZ b i/\bZ a i+bZ b i<=18:=fun i=>by have:=jX da i;have:=jX db i;omega
 have hd:gY (fun i=>bZ a i+bZ b i) N=((num a+num b:Nat):Int):=by
  rw[VO,uN a da N (by omega),uN b db N (by omega)];push_cast;rfl
 have hv:=fun W (hB:Below w.heap.size w W) i (hi:i<=1000000)=>pT v a i W (ha.below hB (aD1 _)) hi
 have hz:=fun W (hB:Below w.heap.size w W) i (hi:i<=1000000)=>pT u b i W (hb.below hB (aD1 _)) hi
 obtain⟨A,c,rfl⟩:=ha.form
 obtain⟨B,d,rfl⟩:=hb.form
 obtain⟨R,hR⟩:∃R,bE (num a+num b)=R:=⟨_,rfl⟩
 rw[hR]
 have Hb:=aHL hv
 have Hc:=aHL hz
 have HF:=aHL ht
 have HT:=aHL hd
 have HR:=aHL hR
 obtain⟨n1,hh⟩:∃n,a.length=n:=⟨_,rfl⟩
 obtain⟨n2,hj⟩:∃n,b.length=n:=⟨_,rfl⟩
 rw[hh,hj]at hN
 rw[hh]at la Hb⊢
 rw[hj]at lb Hc⊢
 clear ha hb da db hv hz ht hd hR hh hj
 go_enter func214,ntmps214
 go_wp2
 go_loopw [5,6,7] (fun v o i wr=>∃(k:Nat) (out:List Int) (over:Int),i=.int .i64 k/\o=.int .i64 over/\k<=N/\0<=over/\over<=9/\Aside (aC wr v out/\Below w.heap.size w wr/\out.length=k/\Dg out/\((num out:Nat):Int)+over*10^k=gY (fun i=>bZ a i+bZ b i) k)) (fun _ _ i _=>N-(intOf i).toNat)
 case atStart=>exact⟨0,[],0,rfl,rfl,aES _,by omega,by omega,aC.nil_ _ _ _ (by omega),Below.refl _ _,rfl,Dg.nil,by simp[mA,gY]⟩
 case round=>
  obtain⟨k,out,over,rfl,rfl,hk,hl,hA,HA⟩:=hrel
  by_cases hD:k<N
  ·have hc:=HF.out k;have f1:=Hb.out wr HA.out.2.1 k (by omega);have f2:=Hc.out wr HA.out.2.1 k (by omega);have hx:=fun(h:Dg out)=>h
   obtain⟨x,hn⟩:∃x,bZ a k=x:=⟨_,rfl⟩;obtain⟨y,ho⟩:∃y,bZ b k=y:=⟨_,rfl⟩;rw[hn]at f1 hc;rw[ho]at f2 hc;obtain⟨s,hs⟩:∃s,x+y+over=s:=⟨_,rfl⟩;have hE:IntKind.i64.wrap (x+y)=x+y:=aR _ (by omega) (by omega);have hF:IntKind.i64.wrap (x+y+over)=s:=by rw[hs];exact aR _ (by omega) (by omega)
   obtain⟨dd,hp⟩:∃dd,s%10=dd:=⟨_,rfl⟩;obtain⟨q,hq⟩:∃q,s/10=q:=⟨_,rfl⟩;have hG:s.tmod 10=dd:=by rw[adB _ (by omega)];exact hp
   have hH:s.tdiv 10=q:=by rw[adC _ (by omega)];exact hq
   have hC:0<=dd/\dd<=9:=by omega
   have hI:0<=q/\q<=9:=by omega
   have hJ:IntKind.i64.wrap dd=dd:=aR _ (by omega) (by omega);have hK:IntKind.i64.wrap q=q:=aR _ (by omega) (by omega)
   have HN:Hid (Dg (dd::out)/\((num (dd::out):Nat):Int)+q*10^(k+1)=gY (fun i=>bZ a i+bZ b i) (k+1)):=by
    refine⟨Dg.cons hC.1 hC.2 HA.out.2.2.2.1,?_⟩;have:=E6 (f:=fun i=>bZ a i+bZ b i) HA.out.2.2.2.2 HA.out.2.2.1;rw[hn,ho,show over+(x+y)=s by omega,hp,hq]at this;exact this
   have Ha:=aHL (tS dd _ out wr HA.out.1 (by have:=HA.out.2.2.1;omega))
   have hf:∀(V:Value) (r:Int),(V=.slice A n1 c/\r=x)∨(V=.slice B n2 d/\r=y)->Calls prog 258 #[V,.int .i64 k] wr fun e w'=>e=.returned (.int .i64 r)/\wr=w':=by
    rintro V r (⟨rfl,rfl⟩|⟨rfl,rfl⟩)
    ·exact f1
    ·exact f2
   clear f1 f2 hp hq hs hn ho hc;by_cases h1:k<n1
   all_goals
    go_wp2_with(first
     |(go_at_call 258;refine(hf _ _ (by first|exact .inl ⟨rfl,rfl⟩|exact .inr ⟨rfl,rfl⟩)).mono ?_;rintro e w' ⟨rfl,rfl⟩)
     |(go_at_call 259;refine Ha.out.mono ?_;rintro e w2 ⟨v2,rfl,o2,b2⟩))
    go_roundw
    case rel=>exact⟨k+1,dd::out,q,by go_num,rfl,by omega,by omega,by omega,aC.of_own o2,HA.out.2.1.trans (b2.mono HA.out.2.1.size),by have:=HA.out.2.2.1;simp[this],HN.out.1,HN.out.2⟩
    case measure=>simp[intOf];omega
  ·obtain rfl:k=N:=by omega
   have hg:num (over::out)=num a+num b:=by
    have h1:=L9 over out hl;have h2:=HA.out.2.2.2.2;rw[HA.out.2.2.1]at h1;rw[HT.out]at h2;omega
   have Ha:=aHL (tS over _ out wr HA.out.1 (by have:=HA.out.2.2.1;omega))
   have Hd:=aHL (fun V W (h:aC W V (over::out))=>by
    have:=gS V (over::out) W h (Dg.cons hl hA HA.out.2.2.2.1) (by have:=HA.out.2.2.1;simp;omega);rw[dZ (Dg.cons hl hA HA.out.2.2.2.1),hg,HR.out]at this;exact this)
   clear hg;have hL:¬k<n1:=by omega
   have hM:¬k<n2:=by omega
   go_wp2_with(first
    |(go_at_call 259;refine Ha.out.mono ?_;rintro e w2 ⟨v2,rfl,o2,b2⟩;have X2:=aside (And.intro o2 b2);clear o2 b2)
    |(go_at_call 40;refine(Hd.out _ _ (aC.of_own X2.out.1)).mono ?_;rintro e w3 ⟨v3,rfl,o3,b3⟩;have X3:=aside (And.intro o3 b3);clear o3 b3))
   go_ret;have hr:=HA.out.2.1.trans (X2.out.2.mono HA.out.2.1.size);exact⟨v3,rfl,eZ X3.out.1 hr.size,hr.trans (X3.out.2.mono hr.size)⟩
theorem wY (v u:Value)(a b:List Int)(w:World)(ha:aC w v a)(hb:aC w u b)(da:Dg a)(db:Dg b)(la:a.length<=100)(lb:b.length<=100)(ht:num b<=num a):
  Calls prog 215 #[v,u] w fun e w'=>∃v',e=.returned v'/\w'.ownsRow w.heap.size 3 1 v' (bE (num a-num b)).length (ints (bE (num a-num b)))/\Below w.heap.size w w':=by
 obtain⟨N,hN⟩:∃N,max a.length b.length=N:=⟨_,rfl⟩
 have ho:∀i,-9<=bZ a i-bZ b i/\bZ a i-bZ b i<=9:=fun i=>by have:=jX da i;have:=jX db i;omega
 have hd:gY (fun i=>bZ a i-bZ b i) N=((num a-num b:Nat):Int):=by
  rw[ajD,uN a da N (by omega),uN b db N (by omega)];omega
 have hp:=fun W (hB:Below w.heap.size w W) i (hi:i<=1000000)=>pT v a i W (ha.below hB (aD1 _)) hi
 have hr:=fun W (hB:Below w.heap.size w W) i (hi:i<=1000000)=>pT u b i W (hb.below hB (aD1 _)) hi
 obtain⟨A,c,rfl⟩:=ha.form
 obtain⟨B,d,rfl⟩:=hb.form
 obtain⟨R,hR⟩:∃R,bE (num a-num b)=R:=⟨_,rfl⟩
 rw[hR]
 have Ha:=aHL hp
 have Hb:=aHL hr
 have HF:=aHL ho
 have HT:=aHL hd
 have HR:=aHL hR
 obtain⟨n1,hh⟩:∃n,a.length=n:=⟨_,rfl⟩
 obtain⟨n2,hj⟩:∃n,b.length=n:=⟨_,rfl⟩
 rw[hh,hj]at hN
 rw[hh]at la Ha⊢
 rw[hj]at lb Hb⊢
 clear ha hb da db hp hr ho hd hR hh hj ht
 go_enter func215,ntmps215
 go_wp2
 go_loopw [5,6,7] (fun v o i wr=>∃(k:Nat) (out:List Int) (ld:Int),i=.int .i64 k/\o=.int .i64 ld/\k<=N/\0<=ld/\ld<=1/\Aside (aC wr v out/\Below w.heap.size w wr/\out.length=k/\Dg out/\((num out:Nat):Int)+(-ld)*10^k=gY (fun i=>bZ a i-bZ b i) k)) (fun _ _ i _=>N-(intOf i).toNat)
 case atStart=>exact⟨0,[],0,rfl,rfl,aES _,by omega,by omega,aC.nil_ _ _ _ (by omega),Below.refl _ _,rfl,Dg.nil,by simp[mA,gY]⟩
 case round=>
  obtain⟨k,out,ld,rfl,rfl,hk,hx,hz,HA⟩:=hrel
  by_cases hA:k<N
  ·have hc:=HF.out k;have f1:=Ha.out wr HA.out.2.1 k (by omega);have f2:=Hb.out wr HA.out.2.1 k (by omega);obtain⟨x,hl⟩:∃x,bZ a k=x:=⟨_,rfl⟩;obtain⟨y,hn⟩:∃y,bZ b k=y:=⟨_,rfl⟩;rw[hl]at f1 hc;rw[hn]at f2 hc;obtain⟨s,hs⟩:∃s,x-y-ld=s:=⟨_,rfl⟩;have hC:IntKind.i64.wrap (x-y)=x-y:=aR _ (by omega) (by omega);have hD:IntKind.i64.wrap (x-y-ld)=s:=by rw[hs];exact aR _ (by omega) (by omega)
   have hE:IntKind.i64.wrap (s+10)=s+10:=aR _ (by omega) (by omega);have hF:-10<=s/\s<=9:=by omega
   have HN:Hid (∀dd q,s%10=dd->s/10= -q->Dg (dd::out)/\((num (dd::out):Nat):Int)+(-q)*10^(k+1)=gY (fun i=>bZ a i-bZ b i) (k+1)):=by
    intro dd q hv hq;refine⟨Dg.cons (by omega) (by omega) HA.out.2.2.2.1,?_⟩;have:=E6 (f:=fun i=>bZ a i-bZ b i) HA.out.2.2.2.2 HA.out.2.2.1;rw[hl,hn,show -ld+(x-y)=s by omega,hv,hq]at this;exact this
   have Hc:=aHL (fun dd=>tS dd _ out wr HA.out.1 (by have:=HA.out.2.2.1;omega))
   have hf:∀(V:Value) (r:Int),(V=.slice A n1 c/\r=x)∨(V=.slice B n2 d/\r=y)->Calls prog 258 #[V,.int .i64 k] wr fun e w'=>e=.returned (.int .i64 r)/\wr=w':=by
    rintro V r (⟨rfl,rfl⟩|⟨rfl,rfl⟩)
    ·exact f1
    ·exact f2
   clear f1 f2 hs hl hn hc;by_cases h1:k<n1
   all_goals
    by_cases hG:s<0
    ·go_wp2_with(first
      |(go_at_call 258;refine(hf _ _ (by first|exact .inl ⟨rfl,rfl⟩|exact .inr ⟨rfl,rfl⟩)).mono ?_;rintro e w' ⟨rfl,rfl⟩)
      |(go_at_call 259;refine(Hc.out _).mono ?_;rintro e w2 ⟨v2,rfl,o2,b2⟩))
     go_roundw
     case rel=>exact⟨k+1,(s+10)::out,1,by go_num,rfl,by omega,by omega,by omega,aC.of_own o2,HA.out.2.1.trans (b2.mono HA.out.2.1.size),by have:=HA.out.2.2.1;simp[this],HN.out (s+10) 1 (by omega) (by omega)⟩
     case measure=>simp[intOf];omega
    ·go_wp2_with(first
      |(go_at_call 258;refine(hf _ _ (by first|exact .inl ⟨rfl,rfl⟩|exact .inr ⟨rfl,rfl⟩)).mono ?_;rintro e w' ⟨rfl,rfl⟩)
      |(go_at_call 259;refine(Hc.out _).mono ?_;rintro e w2 ⟨v2,rfl,o2,b2⟩))
     go_roundw
     case rel=>exact⟨k+1,s::out,0,by go_num,rfl,by omega,by omega,by omega,aC.of_own o2,HA.out.2.1.trans (b2.mono HA.out.2.1.size),by have:=HA.out.2.2.1;simp[this],HN.out s 0 (by omega) (by omega)⟩
     case measure=>simp[intOf];omega
  ·obtain rfl:k=N:=by omega
   have hg:num out=num a-num b:=by
    have h2:=HA.out.2.2.2.2;have h3:=ES (o:=out.reverse) (rest:= -ld) (t:=gY (fun i=>bZ a i-bZ b i) k) HA.out.2.2.2.1.reverse (by rw[E5,aGB,HA.out.2.2.1];exact h2) (by rw[HT.out];omega);rw[HT.out,show ld=0 by omega]at h2;omega
   have Hd:=aHL (by
    have:=gS _ out wr HA.out.1 HA.out.2.2.2.1 (by have:=HA.out.2.2.1;omega);rw[dZ HA.out.2.2.2.1,hg,HR.out]at this;exact this)
   clear hg;have hH:¬k<n1:=by omega
   have hI:¬k<n2:=by omega
   go_wp2_with(first
    |(go_at_call 40;refine Hd.out.mono ?_;rintro e w3 ⟨v3,rfl,o3,b3⟩;have X3:=aside (And.intro o3 b3);clear o3 b3))
   go_ret;exact⟨v3,rfl,eZ X3.out.1 HA.out.2.1.size,HA.out.2.1.trans (X3.out.2.mono HA.out.2.1.size)⟩
theorem ZD (l:List Int)(k:Nat):aZ l (k+1)=aZ l k++[0]:=by
 unfold aZ;rw[aG1,aEF]
theorem BX (v:Value)(l:List Int)(n:Nat)(w:World)(h:aC w v l)(hl:l.length<=1000)(hn:n<=1000):
  Calls prog 42 #[v,.int .i64 n] w fun e w'=>∃v',e=.returned v'/\w'.ownsRow w.heap.size 3 1 v' (aZ l n).length (ints (aZ l n))/\Below w.heap.size w w':=by
 obtain⟨i0,hi,hh,ho,hp⟩:=aHT dI
 obtain⟨A,c,rfl⟩:=h.form
 have HI:=aHL h
 have HL:=aHL hl
 obtain⟨N,hN⟩:∃N,l.length=N:=⟨_,rfl⟩
 rw[hN]at HI HL⊢
 have Ha:=aHL hN
 clear h hl hN
 have hg:¬((n:Int)<0):=by omega
 go_enter func42,ntmps42
 go_wp2_with(first
  |(at_builtin
    refine aM _ rfl _ _ 22 rfl w.heap.size 3 i0 underlying22 hi hh ho hp (.slice none 0 0) 0 [] (by simp[Act.eval,Act.put]) (aHN _ _ _ _) (.slice A N c) l (by simp[Act.eval,Act.put]) HI.out (by have:=HL.out;rw[Ha.out];omega) (aD1 _) ?_
    intro v3 w3 hc ha
    have X3:Aside (w3.ownsRow w.heap.size 3 1 v3 (aZ l 0).length (ints (aZ l 0))/\Below w.heap.size w w3):=⟨by simpa [aZ]using hc,(Below.refl w.heap.size w).grown ha (aD1 _) (fun j hj=>by simp[Value.ownBlock]at hj)⟩
    clear hc ha))
 go_loopw [5,6] (fun v i wr=>∃k:Nat,i=.int .i64 k/\k<=n/\Aside (wr.ownsRow w.heap.size 3 1 v (aZ l k).length (ints (aZ l k))/\Below w.heap.size w wr)) (fun _ i _=>n-(intOf i).toNat)
 case atStart=>exact⟨0,rfl,aES _,X3.out⟩
 case round=>
  obtain⟨k,rfl,hk,HA⟩:=hrel
  clear X3
  by_cases hq:k<n
  ·have hlen:Hid ((aZ l k).length+1<=100000):=by show _<=_;rw[bV];have:=HL.out;have:=Ha.out;omega
   go_wp2_with(first
    |(at_builtin
      refine aHU _ rfl _ _ 22 rfl w.heap.size 3 i0 (.int .i64 0) 1 8 underlying22 hi hh ho hp rfl (by decide) _ _ _ rfl (HA.out.1.alloc _) ⟨_,0,none⟩ 1 1 [.int .i64 0] rfl rfl (aHZ _ _ _) (fun x hx=>by simp at hx;subst hx;rfl) (by have:=hlen.out;unfold maxLen;omega) (by have:=hlen.out;omega) (by have:=HA.out.2.size;simp;omega) ?_
      intro v4 w4 hd hb hf
      have X4:Aside (w4.ownsRow w.heap.size 3 1 v4 (aZ l (k+1)).length (ints (aZ l (k+1)))/\Below w.heap.size w w4):=by
       refine⟨by rw[ZD,aD2,aS];exact hd,?_⟩;exact(HA.out.2.alloc HA.out.2.size _).grown hb (by have:=HA.out.2.size;simp;omega) (fun j hj=>(HA.out.1.lt j hj).1)
      clear hd hb hf))
   go_roundw
   case rel=>exact⟨k+1,by go_num,by omega,X4.out⟩
   case measure=>simp[intOf];omega
  ·obtain rfl:k=n:=by omega
   go_wp2;go_ret;exact⟨_,rfl,HA.out.1,HA.out.2⟩
theorem ZE (a b:Nat)(h:(bE a).length=(bE b).length):cmpL (bE a) (bE b)=eS a b:=by
 have:=EY (dK a) (dK b) h;rw[eK,eK]at this;exact this
theorem VQ {a b:Nat}(h:(bE a).length<(bE b).length):a<b:=by
 have:=EZ (dK a) (dK b) (by rw[dZ (dK a),dZ (dK b),eK,eK];exact h);rw[eK,eK]at this;exact this
theorem IH (v u:Value)(a b:List Int)(w:World)(ha:aC w v a)(hb:aC w u b)(da:Dg a)(db:Dg b)(la:a.length<=1000)(lb:b.length<=1000):
  Calls prog 41 #[v,u] w fun e w'=>e=.returned (.int .i64 (eS (num a:Nat) (num b:Nat)))/\Below w.heap.size w w':=by
 have Ha:=aHL (gS v a w ha da (by omega))
 have Hb:=aHL (fun W (hB:Below w.heap.size w W)=>gS u b W (hb.below hB (aD1 _)) db (by omega))
 rw[dZ da]at Ha
 rw[dZ db]at Hb
 obtain⟨r,hr⟩:∃r,eS (num a:Nat) (num b:Nat)=r:=⟨_,rfl⟩
 rw[hr]
 have HR:=aHL (show eS (num a:Nat) (num b:Nat)=r from hr)
 have Hc:=aHL (ZE (num a) (num b))
 have Hd:=aHL (@VQ (num a) (num b))
 have He:=aHL (@VQ (num b) (num a))
 obtain⟨x,hx⟩:∃x,bE (num a)=x:=⟨_,rfl⟩
 obtain⟨y,hy⟩:∃y,bE (num b)=y:=⟨_,rfl⟩
 rw[hx]at Ha Hc Hd He
 rw[hy]at Hb Hc Hd He
 obtain⟨A0,c0,rfl⟩:=ha.form
 obtain⟨B0,d0,rfl⟩:=hb.form
 clear ha hb da db la lb hr hx hy
 go_enter func41,ntmps41
 go_wp2_with fail
 refine Ha.out.mono ?_
 rintro e w4 ⟨v4,rfl,o4,b4⟩
 go_wp2_with fail
 refine(Hb.out w4 b4).mono ?_
 rintro e w5 ⟨v5,rfl,o5,b5⟩
 have B5:=aside (b4.trans (b5.mono b4.size))
 have i4:=(aC.of_own o4).below b5 (aD1 _)
 have i5:=aC.of_own o5
 clear o4 o5 b4 b5 Ha Hb
 obtain⟨A,c,rfl,ht,hn,hA⟩:=i4
 obtain⟨B,d,rfl,hv,ho,hB⟩:=i5
 rcases aGY x.length y.length with hlen|hlen|hlen
 ·have hc:r= -1:=by rw[<-HR.out];exact eU (by have:=Hd.out hlen;omega)
  subst hc;clear hA hB;go_wp2;go_ret;exact⟨rfl,B5.out⟩
 ·have Hf:=aHL hlen;have HE:=aHL (Hc.out hlen);have hs:x.length<=y.length:=by omega
  have hf:y.length<=x.length:=by omega
  clear hlen;by_cases h0:0<x.length
  ·obtain⟨ba,oa,rfl,hi⟩:=hA h0;obtain⟨bb,ob,rfl,hl⟩:=hB (by omega);have Hg:=aHL hi;have Hh:=aHL hl;clear hA hB hi hl;go_wp2;go_loopw [7] (fun i wr=>∃k n:Nat,i=.int .i64 k/\k<=x.length/\wr=w5.drewN n/\Aside (∀j,j<k->x.getD j 0=y.getD j 0)) (fun i _=>x.length-(intOf i).toNat)
   case atStart=>exact⟨0,0,rfl,aES _,rfl,fun j hj=>absurd hj (by omega)⟩
   case round=>
    obtain⟨k,n,rfl,hk,rfl,HS⟩:=hrel
    by_cases hh:k<x.length
    ·have c1:=Hg.out k hh;have c2:=Hh.out k (by omega);obtain⟨p,hp⟩:∃p,x.getD k 0=p:=⟨_,rfl⟩;obtain⟨q,hq⟩:∃q,y.getD k 0=q:=⟨_,rfl⟩;rw[hp]at c1;rw[hq]at c2;have HX:=aHL hp;have HY:=aHL hq;clear hp hq;have hg:k<y.length:=by omega
     rcases aGM p q with hd|hd|hd
     ·have hc:r= -1:=by
       rw[<-HR.out,<-HE.out,L8 hh hg HS.out (by rw[HX.out,HY.out,eU hd];omega),HX.out,HY.out,eU hd]
      subst hc;go_wp2;go_quiet (fail);go_wp2;go_ret;exact⟨rfl,⟨B5.out.os,B5.out.tape,B5.out.output,B5.out.size,B5.out.block⟩⟩
     ·subst hd;go_wp2;go_quiet (fail);go_wp2;go_quiet (fail);go_wp2;go_roundw
      case rel=>
       refine⟨k+1,_,by go_num,by omega,rfl,fun j hj=>?_⟩
       by_cases h:j=k
       ·rw[h,HX.out,HY.out]
       ·exact HS.out j (by omega)
      case measure=>simp[intOf];omega
     ·have hc:r=1:=by
       rw[<-HR.out,<-HE.out,L8 hh hg HS.out (by rw[HX.out,HY.out,fE hd];omega),HX.out,HY.out,fE hd]
      subst hc;go_wp2;go_quiet (fail);go_wp2;go_quiet (fail);go_wp2;go_ret;exact⟨rfl,⟨B5.out.os,B5.out.tape,B5.out.output,B5.out.size,B5.out.block⟩⟩
    ·obtain rfl:k=x.length:=by omega
     have hc:r=0:=by rw[<-HR.out,<-HE.out];exact AM Hf.out HS.out
     subst hc;go_wp2;go_ret;exact⟨rfl,⟨B5.out.os,B5.out.tape,B5.out.output,B5.out.size,B5.out.block⟩⟩
  ·have hz:x.length=0:=by omega
   obtain rfl:x=[]:=aD8 hz;obtain rfl:y=[]:=aD8 (by simp at hf;simp[hf]);have hc:r=0:=by rw[<-HR.out,<-HE.out];rfl
   subst hc;clear hA hB;go_wp2;refine wp_loop_rounds 1 ?_;rw[aH4];go_wp2;go_ret;exact⟨rfl,B5.out⟩
 ·have hc:r=1:=by rw[<-HR.out];exact fE (by have:=He.out hlen;omega)
  subst hc;clear hA hB;go_wp2;go_ret;exact⟨rfl,B5.out⟩
theorem names_any (w:World):Calls prog 190 #[] w fun e w'=>∃cs:Array Value,e=.returned (.slice (some ⟨w.heap.size,0,none⟩) 7 7)/\w'=w.alloc (Obj.cells cs 9)/\∀i,i<7->∃s:ByteArray,cs[i]?=some (.string s)/\s.size≠0/\s≠ByteArray.empty:=by
 go_enter func190,ntmps190;go_wp2;go_ret;refine⟨_,rfl,rfl,fun i hi=>?_⟩;rcases(show i=0∨i=1∨i=2∨i=3∨i=4∨i=5∨i=6 by omega)with rfl|rfl|rfl|rfl|rfl|rfl|rfl
 all_goals exact⟨_,rfl,by decide,fun h=>absurd (aEK ByteArray.size h) (by decide)⟩
theorem O0 (m:Nat)(w:World)(hm:m<=6):Calls prog 363 #[.int .i64 m] w fun e w'=>∃s:ByteArray,e=.returned (.string s)/\s.size≠0/\s≠ByteArray.empty/\Below w.heap.size w w':=by
 have HN:Hid (Calls prog 190 #[] w fun e w'=>∃s:ByteArray,e=.returned (.slice (some ⟨w.heap.size,0,none⟩) 7 7)/\s.size≠0/\s≠ByteArray.empty/\w'.cell? ⟨w.heap.size,m,none⟩=some (.string s)/\Below w.heap.size w w'):=by
  refine(names_any w).mono ?_;rintro e w' ⟨cs,rfl,rfl,hc⟩;obtain⟨s,h1,h2,h3⟩:=hc m (by omega);refine⟨s,rfl,h2,h3,?_,(Below.refl w.heap.size w).alloc (aD1 _) _⟩;rw[aHM _ w.heap.size m cs _ _ (aHO w _)];exact h1
 have hd:decide ((m:Int)<0)=false:=aEC (by omega);have hf:decide ((6:Int)<(m:Int))=false:=aEC (by omega);go_enter func363,ntmps363;go_wp2_with(go_at_call 190;refine HN.out.mono ?_;rintro e w' ⟨s,rfl,h2,h3,ha,hb⟩)
 go_ret;exact⟨s,rfl,h2,h3,hb⟩
theorem O6 (v:Value)(d:Dc)(K m:Nat)(w:World)(ha:aC w v d.l)(da:Dg d.l)(hl:d.l.length<=40)(hs:d.s<=40)(hK:K<=40)(hm:m<=6)(hd:(aL d).s<=K):
  Calls prog 529 #[dv v d,.int .i64 K,.int .i64 m] w fun e w'=>∃sl,e=.returned (.tuple #[dv sl (lV d K),.int .i64 0])/\aC w' sl (lV d K).l/\dC w.heap.size sl/\Below w.heap.size w w':=by
 obtain⟨W2,hf,hh,z1,z2,hc⟩:=AN w (.bool d.neg) v (.int .i64 d.s) (.bool false) (.slice none 0 0) (.int .i64 0)
 have HM:=aHL (iN v d W2 (ha.below hc (aD1 _)) da (by omega))
 have HN:=aHL (fun W=>O0 m W hm)
 have HA:=aHL (fun W (hB:Below W2.heap.size W2 W)=>sE v d K W ((ha.below hc (aD1 _)).below hB (aD1 _)) da hl hs hK hd)
 obtain⟨t,ht⟩:∃t,lV d K=t:=⟨_,rfl⟩
 rw[ht]at HA⊢
 have hk:decide ((K:Int)<0)=false:=aEC (by omega)
 have hn:decide ((1000:Int)<(K:Int))=false:=aEC (by omega)
 have Ha:=aHL hf
 have HZ:=aHL (fun W (hB:Below W2.heap.size W2 W)=>(z1.below hB (by omega)).bx)
 have Z2:=aHL (fun W (hB:Below W2.heap.size W2 W)=>z2.below hB (by omega))
 have Hb:=aHL hc
 have q0:=z1.c0
 have q1:=z1.c1
 have q2:=z1.c2
 obtain⟨na,l,s⟩:=d
 obtain⟨tn,ta,tb⟩:=t
 simp only[dv]at *
 clear hf z1 z2 hc ha da ht hd
 go_enter func529,ntmps529
 go_wp2_with fail
 rw[Ha.out]
 go_wp2_with fail
 refine HM.out.mono ?_
 rintro e w3 ⟨rfl,b3⟩
 clear q0 q1 q2
 go_wp2_with fail
 refine(HN.out w3).mono ?_
 rintro e w4 ⟨str,rfl,hi,ho,ba⟩
 have b4:=b3.trans (ba.mono b3.size)
 have Z:=HZ.out _ b4
 have c0:=Z.c0
 have c1:=Z.c1
 have c2:=Z.c2
 have hg:str.toList.isEmpty=false:=by
  rw[ByteArray.toList_eq]
  cases h:str.data.toList with
  |nil=>exact absurd (show str.data.size=0 by rw[<-aFE,h];rfl) hi
  |cons a r=>rfl
 have hp:(str.toList ==[])=false:=by
  cases h:str.toList with
  |nil=>rw[h]at hg;cases hg
  |cons a r=>rfl
 clear Z b3 ba
 go_wp2_with fail
 refine(HA.out _ b4).mono ?_
 rintro e w5 ⟨v5,rfl,i5,f5,bb⟩
 obtain⟨A5,c5,rfl⟩:=i5.form
 have b5:=b4.trans (bb.mono b4.size)
 have hq:=b5.size
 have hr:=b4.size
 have Z8:=(Z2.out _ b5)
 have Z9:=Z8.keep (w':=w5.alloc (Obj.cells #[.bool tn,.slice A5 ta.length c5,.int .i64 tb] 274)) (aHR _ _ Z8.lt)
 have e0:=Z9.c0
 have e1:=Z9.c1
 have e2:=Z9.c2
 have ef:=Z9.fz
 clear c0 c1 c2 bb
 go_wp2_with fail
 refine aHP (aW (by rfl) _ _ (w.heap.size+1) _ _ _ _ _ rfl rfl (Z9.setAll _ _ _) underlying274 rfl (by kernel_rfl)) rfl ?_
 have hb:=(Hb.out.trans (b5.mono (by omega))).alloc (by omega) (Obj.cells #[.bool tn,.slice A5 ta.length c5,.int .i64 tb] 274)
 refine⟨.slice A5 ta.length c5,rfl,?_,fun j hj=>?_,Below.set3 hb (by omega) _ _ _⟩
 ·exact(i5.alloc _).set3 f5 (by omega) _ _ _
 ·have:=f5 j hj;omega
theorem aoZ (w:World)(a b c a' b' c' a2 b2 c2 x y z:Value):∃W2,(((w.alloc (Obj.cells #[a,b,c] 274)).alloc (Obj.cells #[a',b',c'] 274)).alloc (Obj.cells #[a2,b2,c2] 274)).alloc (Obj.cells #[x,y,z] 274)=W2/\W2.heap.size=w.heap.size+4/\
  cO W2 w.heap.size a b c/\cO W2 (w.heap.size+1) a' b' c'/\cO W2 (w.heap.size+2) a2 b2 c2/\cO W2 (w.heap.size+3) x y z/\Below w.heap.size w W2:=by
 obtain⟨W1,h1,s1,k1,k2,k3,kb⟩:=aoY w a b c a' b' c' a2 b2 c2
 refine⟨_,rfl,by simp,?_,?_,?_,?_,?_⟩
 ·rw[h1];exact k1.keep (aHR _ _ (by omega))
 ·rw[h1];exact k2.keep (aHR _ _ (by omega))
 ·rw[h1];exact k3.keep (aHR _ _ (by omega))
 ·rw[h1];have:=cO.new W1 x y z;rw[s1]at this;exact this
 ·rw[h1];exact kb.alloc (by omega) _
def iO (d lo hi:Dc):Dc:=if jN (aL d) (aL lo)<0 then aL lo else if 0<jN (aL d) (aL hi)then aL hi else aL d
theorem ZF (v v1 v2:Value)(d lo hi:Dc)(w:World)(ha:aC w v d.l)(hb:aC w v1 lo.l)(hc:aC w v2 hi.l)(da:Dg d.l)(db:Dg lo.l)(dc:Dg hi.l)
  (la:d.l.length<=40) (lb:lo.l.length<=40) (lc:hi.l.length<=40) (sa:d.s<=40) (sb:lo.s<=40) (sc:hi.s<=40) (hlh:¬0<jN (aL lo) (aL hi)):
  Calls prog 530 #[dv v d,dv v1 lo,dv v2 hi] w fun e w'=>∃sl,e=.returned (.tuple #[dv sl (iO d lo hi),.int .i64 0])/\aC w' sl (iO d lo hi).l/\dC w.heap.size sl/\Below w.heap.size w w':=by
 obtain⟨W2,hh,ht,z1,z2,z3,z4,hf⟩:=aoZ w (.bool d.neg) v (.int .i64 d.s) (.bool lo.neg) v1 (.int .i64 lo.s) (.bool hi.neg) v2 (.int .i64 hi.s) (.bool false) (.slice none 0 0) (.int .i64 0)
 have HA:=fun W (hB:Below W2.heap.size W2 W)=>(ha.below hf (aD1 _)).below hB (aD1 _)
 have HB:=fun W (hB:Below W2.heap.size W2 W)=>(hb.below hf (aD1 _)).below hB (aD1 _)
 have HC:=fun W (hB:Below W2.heap.size W2 W)=>(hc.below hf (aD1 _)).below hB (aD1 _)
 have M1:=aHL (fun W (hB:Below W2.heap.size W2 W)=>iN v d W (HA W hB) da (by omega))
 have M2:=aHL (fun W (hB:Below W2.heap.size W2 W)=>iN v1 lo W (HB W hB) db (by omega))
 have M3:=aHL (fun W (hB:Below W2.heap.size W2 W)=>iN v2 hi W (HC W hB) dc (by omega))
 have K1:=fun W (hB:Below W2.heap.size W2 W)=>oM v1 v2 lo hi W (HB W hB) (HC W hB) db dc lb lc sb sc
 have K2:=fun W (hB:Below W2.heap.size W2 W)=>oM v v1 d lo W (HA W hB) (HB W hB) da db la lb sa sb
 have K3:=fun W (hB:Below W2.heap.size W2 W)=>oM v v2 d hi W (HA W hB) (HC W hB) da dc la lc sa sc
 have T1:=fun W (hB:Below W2.heap.size W2 W)=>eX v d W (HA W hB) (by omega) (by omega)
 have T2:=fun W (hB:Below W2.heap.size W2 W)=>eX v1 lo W (HB W hB) (by omega) (by omega)
 have T3:=fun W (hB:Below W2.heap.size W2 W)=>eX v2 hi W (HC W hB) (by omega) (by omega)
 have hd:(jN (aL d) (aL lo)<0/\iO d lo hi=aL lo)∨(¬jN (aL d) (aL lo)<0/\0<jN (aL d) (aL hi)/\iO d lo hi=aL hi)∨(¬jN (aL d) (aL lo)<0/\¬0<jN (aL d) (aL hi)/\iO d lo hi=aL d):=by
  unfold iO;by_cases h1:jN (aL d) (aL lo)<0
  ·exact .inl ⟨h1,aD6 h1⟩
  ·by_cases h2:0<jN (aL d) (aL hi)
   ·exact .inr (.inl ⟨h1,h2,by rw[aD4 h1,aD6 h2]⟩)
   ·exact .inr (.inr ⟨h1,h2,by rw[aD4 h1,aD4 h2]⟩)
 obtain⟨r1,hg⟩:∃r,jN (aL lo) (aL hi)=r:=⟨_,rfl⟩
 obtain⟨r2,hj⟩:∃r,jN (aL d) (aL lo)=r:=⟨_,rfl⟩
 obtain⟨r3,hk⟩:∃r,jN (aL d) (aL hi)=r:=⟨_,rfl⟩
 rw[hg]at hlh
 simp only[hg]at K1
 simp only[hj]at K2 hd
 simp only[hk]at K3 hd
 obtain⟨td,hl⟩:∃t,iO d lo hi=t:=⟨_,rfl⟩
 rw[hl]at hd⊢
 obtain⟨t1,hn⟩:∃t,aL d=t:=⟨_,rfl⟩
 obtain⟨t2,ho⟩:∃t,aL lo=t:=⟨_,rfl⟩
 obtain⟨t3,hp⟩:∃t,aL hi=t:=⟨_,rfl⟩
 simp only[hn]at T1 hd
 simp only[ho]at T2 hd
 simp only[hp]at T3 hd
 have Hc:=aHL K1
 have Hd:=aHL K2
 have Hb:=aHL K3
 have He:=aHL T1
 have Hf:=aHL T2
 have Hg:=aHL T3
 have Hh:=aHL hh
 have HZ:=aHL (fun W (hB:Below W2.heap.size W2 W)=>And.intro (z1.below hB (by omega)).bx (And.intro (z2.below hB (by omega)).bx (z3.below hB (by omega)).bx))
 have Z4:=aHL (fun W (hB:Below W2.heap.size W2 W)=>z4.below hB (by omega))
 have Ha:=aHL hf
 have B0:Below W2.heap.size W2 W2:=Below.refl _ _
 have hx:decide (0<r1)=false:=aEC hlh
 clear K1 K2 K3 T1 T2 T3 HA HB HC ha hb hc da db dc hh z1 z2 z3 z4 hf hg hj hk hl hn ho hp
 obtain⟨n1,l1,s1⟩:=d
 obtain⟨n2,l2,s2⟩:=lo
 obtain⟨n3,l3,s3⟩:=hi
 simp only[dv]at *
 have Z:=HZ.out _ B0
 have c0:=Z.1.c0
 have c1:=Z.1.c1
 have c2:=Z.1.c2
 have c3:=Z.2.1.c0
 have c4:=Z.2.1.c1
 have c5:=Z.2.1.c2
 have c6:=Z.2.2.c0
 have c7:=Z.2.2.c1
 have c8:=Z.2.2.c2
 clear Z
 go_enter func530,ntmps530
 go_wp2_with fail
 rw[Hh.out]
 go_wp2_with fail
 refine(M1.out _ B0).mono ?_
 rintro e w3 ⟨rfl,bc⟩
 have b3:=B0.trans (bc.mono B0.size)
 have Z:=HZ.out _ b3
 have d0:=Z.1.c0
 have d1:=Z.1.c1
 have d2:=Z.1.c2
 have d3:=Z.2.1.c0
 have d4:=Z.2.1.c1
 have d5:=Z.2.1.c2
 have d6:=Z.2.2.c0
 have d7:=Z.2.2.c1
 have d8:=Z.2.2.c2
 clear Z
 clear c0 c1 c2 c3 c4 c5 c6 c7 c8 bc
 go_wp2_with fail
 refine(M2.out _ b3).mono ?_
 rintro e w4 ⟨rfl,bd⟩
 have b4:=b3.trans (bd.mono b3.size)
 have Z:=HZ.out _ b4
 have c0:=Z.1.c0
 have c1:=Z.1.c1
 have c2:=Z.1.c2
 have c3:=Z.2.1.c0
 have c4:=Z.2.1.c1
 have c5:=Z.2.1.c2
 have c6:=Z.2.2.c0
 have c7:=Z.2.2.c1
 have c8:=Z.2.2.c2
 clear Z
 clear d0 d1 d2 d3 d4 d5 d6 d7 d8 bd
 go_wp2_with fail
 refine(M3.out _ b4).mono ?_
 rintro e w5 ⟨rfl,be⟩
 have b5:=b4.trans (be.mono b4.size)
 have Z:=HZ.out _ b5
 have d0:=Z.1.c0
 have d1:=Z.1.c1
 have d2:=Z.1.c2
 have d3:=Z.2.1.c0
 have d4:=Z.2.1.c1
 have d5:=Z.2.1.c2
 have d6:=Z.2.2.c0
 have d7:=Z.2.2.c1
 have d8:=Z.2.2.c2
 clear Z
 clear c0 c1 c2 c3 c4 c5 c6 c7 c8 be
 go_wp2_with fail
 refine(Hc.out _ b5).mono ?_
 rintro e w6 ⟨rfl,bf⟩
 have b6:=b5.trans (bf.mono b5.size)
 have Z:=HZ.out _ b6
 have c0:=Z.1.c0
 have c1:=Z.1.c1
 have c2:=Z.1.c2
 have c3:=Z.2.1.c0
 have c4:=Z.2.1.c1
 have c5:=Z.2.1.c2
 have c6:=Z.2.2.c0
 have c7:=Z.2.2.c1
 have c8:=Z.2.2.c2
 clear Z
 clear d0 d1 d2 d3 d4 d5 d6 d7 d8 bf
 go_wp2_with fail
 refine(Hd.out _ b6).mono ?_
 rintro e w7 ⟨rfl,bg⟩
 have b7:=b6.trans (bg.mono b6.size)
 have Z:=HZ.out _ b7
 have d0:=Z.1.c0
 have d1:=Z.1.c1
 have d2:=Z.1.c2
 have d3:=Z.2.1.c0
 have d4:=Z.2.1.c1
 have d5:=Z.2.1.c2
 have d6:=Z.2.2.c0
 have d7:=Z.2.2.c1
 have d8:=Z.2.2.c2
 clear Z
 clear c0 c1 c2 c3 c4 c5 c6 c7 c8 bg
 rcases hd with⟨h1,rfl⟩|⟨h1,h2,rfl⟩|⟨h1,h2,rfl⟩
 ·have hr:=aE8 h1;go_wp2_with fail
  refine(Hf.out _ b7).mono ?_;rintro e w8 ⟨v8,rfl,i8,f8,ba⟩;obtain⟨A8,c8,rfl⟩:=i8.form;have bz:=b7.trans (ba.mono b7.size);have hs:=b7.size;have Z8:=Z4.out _ bz;have e0:=Z8.c0;have e1:=Z8.c1;have e2:=Z8.c2;have ef:=Z8.fz;go_wp2;refine aHP (aW (by rfl) _ _ (w.heap.size+3) _ _ _ _ _ rfl rfl (Z8.setAll _ _ _) underlying274 rfl (by kernel_rfl)) rfl ?_;refine⟨.slice A8 td.l.length c8,rfl,?_,fun q hq=>?_,Below.set3 (Ha.out.trans (bz.mono (by omega))) (by omega) _ _ _⟩
  ·exact i8.set3 f8 (by omega) _ _ _
  ·have:=f8 q hq;omega
 ·have hr:decide (r2<0)=false:=aEC (by omega);have hv:=aE8 h2;go_wp2_with fail
  refine(Hb.out _ b7).mono ?_;rintro e w8 ⟨rfl,bb⟩;have b8:=b7.trans (bb.mono b7.size);have Z:=HZ.out _ b8;have c0:=Z.1.c0;have c1:=Z.1.c1;have c2:=Z.1.c2;have c3:=Z.2.1.c0;have c4:=Z.2.1.c1;have c5:=Z.2.1.c2;have c6:=Z.2.2.c0;have c7:=Z.2.2.c1;have c8:=Z.2.2.c2;clear Z;clear d0 d1 d2 d3 d4 d5 d6 d7 d8 bb;go_wp2_with fail
  refine(Hg.out _ b8).mono ?_;rintro e w9 ⟨v8,rfl,i8,f8,ba⟩;obtain⟨A8,c8,rfl⟩:=i8.form;have bz:=b8.trans (ba.mono b8.size);have hs:=b8.size;have Z8:=Z4.out _ bz;have e0:=Z8.c0;have e1:=Z8.c1;have e2:=Z8.c2;have ef:=Z8.fz;go_wp2;refine aHP (aW (by rfl) _ _ (w.heap.size+3) _ _ _ _ _ rfl rfl (Z8.setAll _ _ _) underlying274 rfl (by kernel_rfl)) rfl ?_;refine⟨.slice A8 td.l.length c8,rfl,?_,fun q hq=>?_,Below.set3 (Ha.out.trans (bz.mono (by omega))) (by omega) _ _ _⟩
  ·exact i8.set3 f8 (by omega) _ _ _
  ·have:=f8 q hq;omega
 ·have hr:decide (r2<0)=false:=aEC (by omega);have hv:decide (0<r3)=false:=aEC (by omega);go_wp2_with fail
  refine(Hb.out _ b7).mono ?_;rintro e w8 ⟨rfl,bb⟩;have b8:=b7.trans (bb.mono b7.size);have Z:=HZ.out _ b8;have c0:=Z.1.c0;have c1:=Z.1.c1;have c2:=Z.1.c2;have c3:=Z.2.1.c0;have c4:=Z.2.1.c1;have c5:=Z.2.1.c2;have c6:=Z.2.2.c0;have c7:=Z.2.2.c1;have c8:=Z.2.2.c2;clear Z;clear d0 d1 d2 d3 d4 d5 d6 d7 d8 bb;go_wp2_with fail
  refine(He.out _ b8).mono ?_;rintro e w9 ⟨v8,rfl,i8,f8,ba⟩;obtain⟨A8,c8,rfl⟩:=i8.form;have bz:=b8.trans (ba.mono b8.size);have hs:=b8.size;have Z8:=Z4.out _ bz;have e0:=Z8.c0;have e1:=Z8.c1;have e2:=Z8.c2;have ef:=Z8.fz;go_wp2;refine aHP (aW (by rfl) _ _ (w.heap.size+3) _ _ _ _ _ rfl rfl (Z8.setAll _ _ _) underlying274 rfl (by kernel_rfl)) rfl ?_;refine⟨.slice A8 td.l.length c8,rfl,?_,fun q hq=>?_,Below.set3 (Ha.out.trans (bz.mono (by omega))) (by omega) _ _ _⟩
  ·exact i8.set3 f8 (by omega) _ _ _
  ·have:=f8 q hq;omega
structure Rl where
 lo:Dc
 hi:Dc
 st:Dc
 vlo:Value
 vhi:Value
 vst:Value
 sg:Bool
 ic:Nat
 fc:Nat
 sc:Nat
 mi:Nat
 mf:Nat
 mo:Nat
 hy:Nat
structure aDT (w:World) (R:Rl):Prop where
 ilo:aC w R.vlo R.lo.l
 ihi:aC w R.vhi R.hi.l
 ist:aC w R.vst R.st.l
 dlo:Dg R.lo.l
 dhi:Dg R.hi.l
 dst:Dg R.st.l
 llo:R.lo.l.length<=40
 lhi:R.hi.l.length<=40
 lst:R.st.l.length<=40
 slo:R.lo.s<=40
 shi:R.hi.s<=40
 sst:R.st.s<=40
 hsc:R.sc<=40
 hmo:R.mo<=6
 hlh:¬0<jN (aL R.lo) (aL R.hi)
structure RB (w:World) (g:Nat) (R:Rl):Prop where
 c0:w.cell? ⟨g,0,none⟩=some (.bool R.lo.neg)
 c1:w.cell? ⟨g,1,none⟩=some R.vlo
 c2:w.cell? ⟨g,2,none⟩=some (.int .i64 R.lo.s)
 c3:w.cell? ⟨g,3,none⟩=some (.bool R.hi.neg)
 c4:w.cell? ⟨g,4,none⟩=some R.vhi
 c5:w.cell? ⟨g,5,none⟩=some (.int .i64 R.hi.s)
 c6:w.cell? ⟨g,6,none⟩=some (.bool R.st.neg)
 c7:w.cell? ⟨g,7,none⟩=some R.vst
 c8:w.cell? ⟨g,8,none⟩=some (.int .i64 R.st.s)
 c9:w.cell? ⟨g,9,none⟩=some (.bool R.sg)
 c10:w.cell? ⟨g,10,none⟩=some (.int .i64 R.ic)
 c11:w.cell? ⟨g,11,none⟩=some (.int .i64 R.fc)
 c12:w.cell? ⟨g,12,none⟩=some (.int .i64 R.sc)
 c13:w.cell? ⟨g,13,none⟩=some (.int .i64 R.mi)
 c14:w.cell? ⟨g,14,none⟩=some (.int .i64 R.mf)
 c15:w.cell? ⟨g,15,none⟩=some (.int .i64 R.mo)
 c16:w.cell? ⟨g,16,none⟩=some (.int .i64 R.hy)
def lK (a b:Dc):Dc:=
 if a.neg=b.neg then aL ⟨a.neg,bE (num (aZ a.l (max a.s b.s-a.s))+num (aZ b.l (max a.s b.s-b.s))),max a.s b.s⟩
 else if num (aZ a.l (max a.s b.s-a.s))<num (aZ b.l (max a.s b.s-b.s))then aL ⟨b.neg,bE (num (aZ b.l (max a.s b.s-b.s))-num (aZ a.l (max a.s b.s-a.s))),max a.s b.s⟩
 else aL ⟨a.neg,bE (num (aZ a.l (max a.s b.s-a.s))-num (aZ b.l (max a.s b.s-b.s))),max a.s b.s⟩
section
def gZ (w:World)(g:Nat)(a b c d:Value):Prop:=w.heap[g]?=some (.cells #[a,b,c,d] 260 (0,0))
section
variable {w w':World}{g:Nat}{a b c d:Value}
theorem gZ.c0 (h:gZ w g a b c d):w.cell? ⟨g,0,none⟩=some a:=by rw[aHM w g 0 _ _ _ h];rfl
theorem gZ.c1 (h:gZ w g a b c d):w.cell? ⟨g,1,none⟩=some b:=by rw[aHM w g 1 _ _ _ h];rfl
theorem gZ.c2 (h:gZ w g a b c d):w.cell? ⟨g,2,none⟩=some c:=by rw[aHM w g 2 _ _ _ h];rfl
theorem gZ.c3 (h:gZ w g a b c d):w.cell? ⟨g,3,none⟩=some d:=by rw[aHM w g 3 _ _ _ h];rfl
theorem gZ.fz (h:gZ w g a b c d)(i:Nat):w.frozen? ⟨g,i,none⟩=false:=iM h i
theorem gZ.below {B:Nat}(h:gZ w g a b c d)(hb:Below B w w')(hB:g<B):gZ w' g a b c d:=(hb.block g hB).trans h
theorem gZ.new (w:World)(a b c d:Value):gZ (w.alloc (.cells #[a,b,c,d] 260)) w.heap.size a b c d:=aHO w _
end
set_option maxRecDepth 100000 in
theorem JW (vi vf:Value)(d:Dr)(w:World)(h:qF w vi vf d):
  Calls prog 379 #[mT vi vf d] w fun e w'=>∃v',e=.returned v'/\w'.ownsRow w.heap.size 3 1 v' (aJ d).length (ints (aJ d))/\Below w.heap.size w w':=by
 obtain⟨i0,hi,hp,hq,hr⟩:=aHT dI
 obtain⟨W1,hg⟩:∃W1,w.alloc (Obj.cells #[.bool d.neg,vi,.bool d.sep,vf] 260)=W1:=⟨_,rfl⟩
 have hA:W1.heap.size=w.heap.size+1:=by rw[<-hg];simp
 have z1:gZ W1 w.heap.size (.bool d.neg) vi (.bool d.sep) vf:=by rw[<-hg];exact gZ.new _ _ _ _ _
 have hk:Below w.heap.size w W1:=by rw[<-hg];exact(Below.refl _ w).alloc (aD1 _) _
 have hc:=jI vi d.int W1 (h.ii.below hk (aD1 _)) (by have:=h.li;omega)
 have hv:=h.jf.below hk (aD1 _)
 have l1:=h.li
 have l2:=h.lf
 obtain⟨AL,hl⟩:∃L,aJ d=L:=⟨_,rfl⟩
 rw[hl]
 unfold aJ at hl
 obtain⟨n,li,sp,lf⟩:=d
 simp only[mT]at *
 obtain⟨na,hn⟩:∃n,li.length=n:=⟨_,rfl⟩
 obtain⟨nb,ho⟩:∃n,lf.length=n:=⟨_,rfl⟩
 obtain⟨Ab,cb,rfl⟩:∃A c,vf=.slice A nb c:=by obtain⟨A,c,h⟩:=h.jf.form;exact⟨A,c,by rw[h,<-ho]⟩
 obtain⟨Aa,ca,rfl⟩:∃A c,vi=.slice A na c:=by obtain⟨A,c,h⟩:=h.ii.form;exact⟨A,c,by rw[h,<-hn]⟩
 rw[hn]at l1 hc
 have Ha:=aHL ho
 rw[ho]at l2
 have HC:=aHL hc
 have HV:=aHL (fun W (hB:Below W1.heap.size W1 W)=>hv.below hB (aD1 _))
 have HW:=aHL hg
 have HB:=aHL hk
 have HZ:=aHL (fun W (hB:Below W1.heap.size W1 W)=>z1.below hB (by omega))
 have Hb:=aHL hl
 have Hc:=aHL hn
 have q1:=z1.c1
 clear hg z1 hk hc hv h hn ho hl
 cases sp
 ·go_enter func379,ntmps379;go_wp2_with fail
  rw[HW.out];go_wp2_with fail
  refine HC.out.mono ?_;rintro e w3 ⟨v3,rfl,o3,b3⟩;have Z:=HZ.out _ b3;have cc:=Z.c2;have c3:=Z.c3;have i3:=aHL (HV.out _ b3);obtain⟨A3,k3,rfl⟩:=bJ o3;clear q1 Z;have hs:=b3.size;have hle:Hid (na+lf.length<=1000000):=by show _<=_;have:=Ha.out;omega
  go_wp2_with(first
   |(at_builtin
     refine aM _ rfl _ _ 22 rfl W1.heap.size 3 i0 underlying22 hi hp hq hr (.slice A3 na k3) na (ints li) (by simp[Act.eval,Act.put]) o3 (.slice Ab nb cb) lf (by simp[Act.eval,Act.put]) i3.out hle.out hs ?_
     intro v4 w4 hb ha
     have X4:Aside (w4.ownsRow W1.heap.size 3 1 v4 (na+lf.length) (ints li++ints lf)/\Below W1.heap.size W1 w4):=⟨hb,b3.grown ha (by omega) (fun j hj=>(o3.lt j hj).1)⟩
     clear hb ha))
  go_ret;refine⟨_,rfl,?_,HB.out.trans (X4.out.2.mono (by omega))⟩;have:=eZ (B':=w.heap.size) X4.out.1 (by omega);rw[<-Hb.out];simpa [aS,Hc.out]using this
 ·go_enter func379,ntmps379;go_wp2_with fail
  rw[HW.out];go_wp2_with fail
  refine HC.out.mono ?_;rintro e w3 ⟨v3,rfl,o3,b3⟩;have Z:=HZ.out _ b3;have cc:=Z.c2;clear Z;obtain⟨A3,k3,rfl⟩:=bJ o3;clear q1;have hs:=b3.size
  go_wp2_with(first
   |(at_builtin
     refine aHU _ rfl _ _ 22 rfl W1.heap.size 3 i0 (.int .i64 0) 1 8 underlying22 hi hp hq hr rfl (by decide) (.slice A3 na k3) na (ints li) (by simp[Act.eval,Act.put]) (o3.alloc _) ⟨_,0,none⟩ 1 1 [.int .i64 10] rfl rfl (aHZ _ _ _) (fun x hx=>by simp at hx;subst hx;rfl) (by unfold maxLen;omega) (by omega) (by simp;omega) ?_
     intro v5 w5 hf hd hh
     have X5:Aside (w5.ownsRow W1.heap.size 3 1 v5 (na+1) (ints li++[.int .i64 10])/\Below W1.heap.size W1 w5):=⟨hf,(b3.alloc hs _).grown hd (by simp;omega) (fun j hj=>by have:=(o3.lt j hj).1;omega)⟩
     obtain⟨A5,k5,rfl⟩:=bJ X5.out.1
     have c3:=(HZ.out _ X5.out.2).c3
     have i5:=aHL (HV.out _ X5.out.2)
     have hz:=X5.out.2.size
     have hle:Hid (na+1+lf.length<=1000000):=by show _<=_;have:=Ha.out;omega
     clear hf hd hh cc)
   |(at_builtin
     refine aM _ rfl _ _ 22 rfl W1.heap.size 3 i0 underlying22 hi hp hq hr (.slice A5 (na+1) k5) (na+1) (ints li++[.int .i64 10]) (by simp[Act.eval,Act.put]) X5.out.1 (.slice Ab nb cb) lf (by simp[Act.eval,Act.put]) i5.out hle.out hz ?_
     intro v4 w4 hb ha
     have X4:Aside (w4.ownsRow W1.heap.size 3 1 v4 (na+1+lf.length) (ints li++[.int .i64 10]++ints lf)/\Below W1.heap.size W1 w4):=⟨hb,X5.out.2.grown ha (by omega) (fun j hj=>(X5.out.1.lt j hj).1)⟩
     clear hb ha))
  go_ret;refine⟨_,rfl,?_,HB.out.trans (X4.out.2.mono (by omega))⟩;have:=eZ (B':=w.heap.size) X4.out.1 (by omega);have ht:li++[10]++lf=AL:=Hb.out;have e:(li++[10]++lf).length=na+1+lf.length:=by simp[Hc.out];omega
  rw[<-ht,e,aS,aS];exact this
end
section
def frI (x:Dc)(n:Nat):List Int:=List.replicate (n-(eP (aL x)).length) 0++eP (aL x)
def frF (x:Dc)(n:Nat):List Int:=mH (aL x)++List.replicate (n-(mH (aL x)).length) 0
def iP (x:Dc)(whole rest:Nat):Dr:=⟨(aL x).neg,if frI x whole=[]/\frF x rest=[]then [0]else frI x whole,decide (0<(frF x rest).length),frF x rest⟩
section
variable {w w':World}{g:Nat}
theorem Below.set4 {N:Nat}(h:Below N w w')(hg:N<=g)(x y z u:Value):Below N w ((((w'.setCell ⟨g,0,none⟩ x).setCell ⟨g,1,none⟩ y).setCell ⟨g,2,none⟩ z).setCell ⟨g,3,none⟩ u):=
 (((h.setCell (p:=⟨g,0,none⟩) hg x).setCell (p:=⟨g,1,none⟩) hg y).setCell (p:=⟨g,2,none⟩) hg z).setCell (p:=⟨g,3,none⟩) hg u
theorem aC.set4 {v:Value}{l:List Int}{B:Nat}(h:aC w v l)(hf:dC B v)(hg:g<B)(x y z u:Value):aC ((((w.setCell ⟨g,0,none⟩ x).setCell ⟨g,1,none⟩ y).setCell ⟨g,2,none⟩ z).setCell ⟨g,3,none⟩ u) v l:=
 (((h.far hf (p:=⟨g,0,none⟩) hg x).far hf (p:=⟨g,1,none⟩) hg y).far hf (p:=⟨g,2,none⟩) hg z).far hf (p:=⟨g,3,none⟩) hg u
end
end
theorem adM {w:World}{B:Nat}{t:TypeId}{A:Option Addr}{n c:Nat}{xs:List Value}(h:w.ownsRow B t 1 (.slice A n c) n xs)(hn:0<n):w.ownsRow B t 1 (.slice A 0 c) 0 []:=by
 rcases h.2 with⟨h0,_⟩|⟨g,cap,cur,he,hb,hg,h1,h2,h3,h4⟩
 ·injection h0 with e1 e2 e3
  omega
 ·injection he with e1 e2 e3
  subst e1 e3;exact⟨by simp,.inr ⟨g,c,cur,rfl,hb,hg,aES _,h2,h3,by simp⟩⟩
set_option maxRecDepth 100000 in
theorem PB (n:Nat)(w:World)(hn:n<=1000):
  Calls prog 292 #[.slice none 0 0,.int .i64 n] w fun e w'=>∃v',e=.returned v'/\w'.ownsRow w.heap.size 3 1 v' 0 []/\Below w.heap.size w w':=by
 obtain⟨i0,hi,hc,hd,hf⟩:=aHT dI
 have g1:¬((n:Int)<0):=by omega
 have hg:IntKind.i64.wrap ((n:Int)-0)=(n:Int):=by rw[aR _ (by omega) (by omega)];omega
 have hh:IntKind.i64.wrap (n:Int)=(n:Int):=aR _ (by omega) (by omega)
 rcases aFY n with h0|h0
 ·subst h0;go_enter func292,ntmps292;go_wp2_with fail
  go_ret;exact⟨_,rfl,aHN _ _ _ _,Below.refl _ _⟩
 ·go_enter func292,ntmps292
  go_wp2_with(first
   |(at_builtin
     refine gC _ rfl _ _ 22 3 rfl w.heap.size 3 i0 underlying22 underlying3 hi hc hd hf (.slice none 0 0) 0 [] (by simp[Act.eval,Act.put]) (aHN _ _ _ _) n (by simp[Act.eval,Act.put]) (by omega) (aD1 _) ?_
     intro v1 w1 hb ha
     have X1:Aside (w1.ownsRow w.heap.size 3 1 v1 n (List.replicate n (.int .i64 0))/\Below w.heap.size w w1):=⟨by simpa using hb,(Below.refl _ w).grown ha (aD1 _) (fun k h=>by simp[Value.ownBlock]at h)⟩
     obtain⟨A1,c1,rfl⟩:=bJ X1.out.1
     clear hb ha))
  go_ret;exact⟨_,rfl,adM X1.out.1 h0,X1.out.2⟩
set_option maxRecDepth 100000 in
theorem TL (g:Nat)(u v:Value)(a b:List Int)(w:World)(hu:w.cell? ⟨g,0,none⟩=some u)(hv:w.cell? ⟨g,1,none⟩=some v)(ha:aC w u a)(hb:aC w v b)(la:a.length<=200)(lb:b.length<=200):
  Calls prog 254 #[.slice (some ⟨g,0,none⟩) 2 2] w fun e w'=>∃v',e=.returned v'/\w'.ownsRow w.heap.size 3 1 v' (a++b).length (ints (a++b))/\Below w.heap.size w w':=by
 obtain⟨i0,hi,ho,hp,hq⟩:=aHT dI
 obtain⟨na,hh⟩:∃n,a.length=n:=⟨_,rfl⟩
 obtain⟨nb,hk⟩:∃n,b.length=n:=⟨_,rfl⟩
 obtain⟨Aa,ca,rfl⟩:∃A c,u=.slice A na c:=by obtain⟨A,c,h⟩:=ha.form;exact⟨A,c,by rw[h,<-hh]⟩
 obtain⟨Ab,cb,rfl⟩:∃A c,v=.slice A nb c:=by obtain⟨A,c,h⟩:=hb.form;exact⟨A,c,by rw[h,<-hk]⟩
 have hr:g<w.heap.size:=aHQ w _ hu
 have HU:=aHL (fun W (hB:Below w.heap.size w W)=>And.intro ((hB.cell (p:=⟨g,0,none⟩) hr).trans hu) ((hB.cell (p:=⟨g,1,none⟩) hr).trans hv))
 have HA:=aHL (fun W (hB:Below w.heap.size w W)=>ha.below hB (aD1 _))
 have HB:=aHL (fun W (hB:Below w.heap.size w W)=>hb.below hB (aD1 _))
 have Ha:=aHL hh
 have Hb:=aHL hk
 rw[hh]at la
 rw[hk]at lb
 have hx:IntKind.i64.wrap ((na:Int)+(nb:Int))=((na+nb:Nat):Int):=by rw[aR _ (by omega) (by omega)];omega
 have hz:IntKind.i64.wrap (na:Int)=(na:Int):=aR _ (by omega) (by omega)
 have g1:¬((na:Int)<0):=by omega
 have g2:¬(((na+nb:Nat):Int)<0):=by omega
 have HG:=aHL (PB (na+nb) w (by omega))
 clear ha hb hh hk
 go_enter func254,ntmps254
 go_wp2_with fail
 refine wp_loop_rounds 3 ?_
 rw[aH4]
 go_wp2_with fail
 rw[aH4]
 go_wp2_with fail
 rw[aH4]
 go_wp2_with fail
 refine HG.out.mono ?_
 rintro e w3 ⟨v3,rfl,o3,b3⟩
 obtain⟨A3,c3,rfl⟩:=bJ o3
 obtain⟨hs,ht⟩:=HU.out _ b3
 clear hu hv
 have hl:Hid (0+a.length<=1000000):=by show _<=_;have:=Ha.out;omega
 have hn:Hid (na+b.length<=1000000):=by show _<=_;have:=Hb.out;omega
 have X3:Aside (w3.ownsRow w.heap.size 3 1 (.slice A3 0 c3) 0 []/\Below w.heap.size w w3):=⟨o3,b3⟩
 clear o3 b3
 go_wp2_with fail
 refine wp_loop_rounds 3 ?_
 rw[aH4]
 go_wp2_with(first
  |(at_builtin
    refine aM _ rfl _ _ 22 rfl w.heap.size 3 i0 underlying22 hi ho hp hq (.slice A3 0 c3) 0 [] (by simp[Act.eval,Act.put]) X3.out.1 (.slice Aa na ca) a (by simp[Act.eval,Act.put]) (HA.out _ X3.out.2) hl.out X3.out.2.size ?_
    intro v4 w4 hf hc
    have X4:Aside (w4.ownsRow w.heap.size 3 1 v4 na (ints a)/\Below w.heap.size w w4):=⟨by have:=hf;simp only[aEV,aF4,Ha.out]at this;exact this,X3.out.2.grown hc X3.out.2.size (fun j hj=>(X3.out.1.lt j hj).1)⟩
    obtain⟨A4,c4,rfl⟩:=bJ X4.out.1
    obtain⟨hA,hC⟩:=HU.out _ X4.out.2
    clear hf hc))
 clear hs ht
 rw[aH4]
 go_wp2_with(first
  |(at_builtin
    refine aM _ rfl _ _ 22 rfl w.heap.size 3 i0 underlying22 hi ho hp hq (.slice A4 na c4) na (ints a) (by simp[Act.eval,Act.put]) X4.out.1 (.slice Ab nb cb) b (by simp[Act.eval,Act.put]) (HB.out _ X4.out.2) hn.out X4.out.2.size ?_
    intro v5 w5 hg hd
    have X5:Aside (w5.ownsRow w.heap.size 3 1 v5 (a++b).length (ints (a++b))/\Below w.heap.size w w5):=⟨by rw[aD2,Ha.out,aS];exact hg,X4.out.2.grown hd X4.out.2.size (fun j hj=>(X4.out.1.lt j hj).1)⟩
    clear hg hd))
 rw[aH4]
 go_wp2_with fail
 go_ret
 exact⟨_,rfl,X5.out.1,X5.out.2⟩
theorem gZ.setAll {w:World}{g:Nat}{a b c d:Value}(h:gZ w g a b c d)(x y z u:Value):gZ ((((w.setCell ⟨g,0,none⟩ x).setCell ⟨g,1,none⟩ y).setCell ⟨g,2,none⟩ z).setCell ⟨g,3,none⟩ u) g x y z u:=
 eA _ g 3 _ _ _ _ (eA _ g 2 _ _ _ _ (eA _ g 1 _ _ _ _ (eA w g 0 _ _ _ _ h)))
theorem E8 (n:Nat)(w:World)(h:n<=64):Calls prog 531 #[.int .i64 n] w fun e w'=>e=.returned (.bool true)/\w=w':=by
 have g1:(0:Int)<=(n:Int):=by omega
 have g2:(n:Int)<=64:=by omega
 go_enter func531,ntmps531;go_wp2_with fail
 go_ret;exact⟨by simp[g1,g2],rfl⟩
set_option maxRecDepth 100000 in
theorem ZM (v:Value)(d:Dc)(m k:Nat)(w:World)(ha:aC w v d.l)(da:Dg d.l)(la:d.l.length<=100)(hs:d.s<=100)(hm:m<=64)(hk:k<=64):
  Calls prog 525 #[dv v d,.int .i64 m,.int .i64 k] w fun e w'=>∃vi vf,e=.returned (.tuple #[mT vi vf (iP d m k),.int .i64 0])/\aC w' vi (iP d m k).int/\aC w' vf (iP d m k).frac/\dC w.heap.size vi/\dC w.heap.size vf/\Below w.heap.size w w':=by
 obtain⟨i0,hi,hl,hn,ho⟩:=aHT dI
 have dt:=iL d da
 have lt:=iD d
 have st:=kD d
 obtain⟨D,hD⟩:∃D,iP d m k=D:=⟨_,rfl⟩
 rw[hD]
 unfold iP frI frF at hD
 obtain⟨t,ht⟩:∃t,aL d=t:=⟨_,rfl⟩
 rw[ht]at dt lt st hD
 have lw:(eP t).length<=200:=by unfold eP;have:=q9 ((wideL t.l t.s).take ((wideL t.l t.s).length-t.s));simp[kR]at this⊢;omega
 have lr:(mH t).length<=200:=by unfold mH;simp[kR];omega
 obtain⟨W2,hM,s2,z1,z2,hA⟩:∃W2,(w.alloc (Obj.cells #[.bool d.neg,v,.int .i64 d.s] 274)).alloc (Obj.cells #[.bool false,.slice none 0 0,.bool false,.slice none 0 0] 260)=W2/\W2.heap.size=w.heap.size+2/\
   cO W2 w.heap.size (.bool d.neg) v (.int .i64 d.s)/\gZ W2 (w.heap.size+1) (.bool false) (.slice none 0 0) (.bool false) (.slice none 0 0)/\Below w.heap.size w W2:=by
  refine⟨_,rfl,by simp,(cO.new w _ _ _).keep (aHR _ _ (by simp)),?_,((Below.refl _ w).alloc (aD1 _) _).alloc (by simp) _⟩
  have:=gZ.new (w.alloc (Obj.cells #[.bool d.neg,v,.int .i64 d.s] 274)) (.bool false) (.slice none 0 0) (.bool false) (.slice none 0 0)
  simpa using this
 have hr:=iN v d W2 (ha.below hA (aD1 _)) da (by omega)
 have hF:=fun W (hB:Below W2.heap.size W2 W)=>eX v d W ((ha.below hA (aD1 _)).below hB (aD1 _)) (by omega) (by omega)
 rw[ht]at hF
 have hC:=fun W X (i:aC W X t.l)=>ZB X t W i (by omega) (by omega)
 obtain⟨a,hN⟩:∃a,eP t=a:=⟨_,rfl⟩
 obtain⟨b,hO⟩:∃b,mH t=b:=⟨_,rfl⟩
 rw[hN]at hC hD lw
 rw[hO]at hC hD lr
 have hG:=fun W X (i:aC W X b)=>jI X b W i (by omega)
 have H1:=aHL (E8 m · hm)
 have H2:=aHL (E8 k · hk)
 obtain⟨A0,c0,rfl⟩:=ha.form
 obtain⟨dn,dl,ds⟩:=d
 obtain⟨tn,tl,ts⟩:=t
 simp only[dv,mT]at *
 obtain⟨na,hH⟩:∃n,a.length=n:=⟨_,rfl⟩
 obtain⟨nb,hI⟩:∃n,b.length=n:=⟨_,rfl⟩
 rw[hH]at lw hD
 rw[hI]at lr hD hG
 have HW:=aHL hM
 have HM:=aHL hr
 have HT:=aHL hF
 have HP:=aHL hC
 have HC:=aHL hG
 have Hl:=aHL hD
 have HZ:=aHL (fun W (hB:Below W2.heap.size W2 W)=>And.intro (z1.below hB (by omega)) (z2.below hB (by omega)))
 have HB:=aHL hA
 have q0:=z1.c0
 have q1:=z1.c1
 have q2:=z1.c2
 have Hb:=aHL hH
 have He:=aHL hI
 obtain⟨p,hp⟩:∃p,m-na=p:=⟨_,rfl⟩
 obtain⟨q,hq⟩:∃q,k-nb=q:=⟨_,rfl⟩
 have hY:IntKind.i64.wrap ((m:Int)-(na:Int))=(m:Int)-(na:Int):=aR _ (by omega) (by omega)
 have h0:IntKind.i64.wrap ((k:Int)-(nb:Int))=(k:Int)-(nb:Int):=aR _ (by omega) (by omega)
 have h3:max ((m:Int)-(na:Int)) 0=(p:Int):=by omega
 have h4:max ((k:Int)-(nb:Int)) 0=(q:Int):=by omega
 have Hm:=aHL hp
 have Hn:=aHL hq
 have h5:p<=64:=by omega
 have h6:q<=64:=by omega
 clear hM hr hF hC hG hD z1 z2 hA ha da dt lt st ht hN hO hH hI hp hq hm hk
 go_enter func525,ntmps525
 go_wp2_with fail
 rw[HW.out]
 go_wp2_with fail
 refine HM.out.mono ?_
 rintro e w3 ⟨rfl,b3⟩
 obtain⟨Z3,_⟩:=HZ.out _ b3
 have p0:=Z3.c0
 have p1:=Z3.c1
 have p2:=Z3.c2
 clear q0 q1 q2 Z3
 go_wp2_with(first
  |(go_at_call 531;refine(H1.out _).mono ?_;rintro e w' ⟨rfl,rfl⟩)
  |(go_at_call 531;refine(H2.out _).mono ?_;rintro e w' ⟨rfl,rfl⟩))
 refine(HT.out w3 b3).mono ?_
 rintro e w4 ⟨v4,rfl,i4,f4,bd⟩
 obtain⟨A4,c4,rfl⟩:=i4.form
 have b4:=b3.trans (bd.mono b3.size)
 have hR:=b4.size
 clear p0 p1 p2 bd b3
 obtain⟨W5,h7,k5,i5,B5,S5⟩:∃W5,w4.alloc (Obj.cells #[.bool tn,.slice A4 tl.length c4,.int .i64 ts] 274)=W5/\cO W5 w4.heap.size (.bool tn) (.slice A4 tl.length c4) (.int .i64 ts)/\
   aC W5 (.slice A4 tl.length c4) tl/\Below W2.heap.size W2 W5/\W5.heap.size=w4.heap.size+1:=
  ⟨_,rfl,cO.new _ _ _ _,i4.alloc _,b4.alloc hR _,by simp⟩
 have q0:=k5.c0
 have q1:=k5.c1
 have q2:=k5.c2
 have Hf:=aHL k5
 clear k5 i4 f4 b4
 go_wp2_with fail
 refine(HP.out W5 _ i5).mono ?_
 rintro e w6 ⟨v1,v2,rfl,ia,ib,fa,fb,bb⟩
 obtain⟨Aa,ca,rfl⟩:∃A c,v1=.slice A na c:=by obtain⟨A,c,h⟩:=ia.form;exact⟨A,c,by rw[h,Hb.out]⟩
 obtain⟨Ab,cb,rfl⟩:∃A c,v2=.slice A nb c:=by obtain⟨A,c,h⟩:=ib.form;exact⟨A,c,by rw[h,He.out]⟩
 have B6:=B5.trans (bb.mono B5.size)
 have h8:=B6.size
 have sa:=bb.size
 have Hg:=aHL (fun W (hB:Below w6.heap.size w6 W)=>(Hf.out.below bb (by omega)).below hB (by omega))
 clear q0 q1 q2
 have Hh:=aHL (fun W (hB:Below w6.heap.size w6 W)=>ia.below hB (aD1 _))
 have Hi:=aHL (fun W (hB:Below w6.heap.size w6 W)=>ib.below hB (aD1 _))
 have hS:w.heap.size<=w6.heap.size:=by omega
 obtain⟨Li,hE⟩:∃L,List.replicate p 0++a=L:=⟨_,rfl⟩
 obtain⟨ni,hJ⟩:∃n,p+na=n:=⟨_,rfl⟩
 obtain⟨Lf,hv⟩:∃L,b++List.replicate q 0=L:=⟨_,rfl⟩
 obtain⟨nf,hK⟩:∃n,nb+q=n:=⟨_,rfl⟩
 have Hj:=aHL hE
 have Hk:=aHL hv
 have Hd:=aHL (show Li.length=ni by rw[<-hE,<-hJ];simp[Hb.out])
 have Ha:=aHL (show Lf.length=nf by rw[<-hv,<-hK];simp[He.out])
 have hP:Hid (p+a.length=ni):=by show _=_;rw[Hb.out,hJ]
 have hQ:Hid (nb+q=nf):=hK
 have hx:Hid (p+a.length<=1000000):=by show _<=_;have:=Hb.out;omega
 have hT:ni<=300:=by omega
 have hV:nf<=300:=by omega
 have h9:IntKind.i64.wrap ((ni:Int)+(nf:Int))=((ni+nf:Nat):Int):=by rw[aR _ (by omega) (by omega)];omega
 have Hc:Hid (D=⟨tn,if Li=[]/\Lf=[]then [0]else Li,decide (0<nf),Lf⟩):=by
  show _=_;rw[<-Hl.out,Hm.out,Hn.out,<-hE,<-hv,<-Ha.out,<-hv]
 clear ia ib fa fb bb Hf i5 B5 hE hv hJ hK
 rcases aFY (ni+nf)with hz|hz
 ·have hL:Hid (D=⟨tn,[0],decide (0<nf),Lf⟩):=by
   show _=_;rw[Hc.out,aD6 ⟨aD8 (by have:=Hd.out;omega),aD8 (by have:=Ha.out;omega)⟩]
  have hW:((ni+nf:Nat):Int)=0:=by omega
  clear hz Hc
  go_wp2_with(first
   |(at_make
     refine wpList_make_full _ rfl _ _ 22 rfl w6.heap.size 3 i0 (.int .i64 0) 1 underlying22 hi hl hn .i64 .i64 _ _ p rfl rfl rfl rfl (by rw[ho];omega) (by unfold maxLen;omega) (by simp) ?_
     intro w7 hg hc
     have X7:Aside (w7.ownsRow w6.heap.size 3 1 (.slice (some ⟨w6.heap.size,0,none⟩) p p) p (ints (List.replicate p 0))/\Below w6.heap.size w6 w7):=by
      refine⟨?_,(Below.refl _ w6).grown hc (aD1 _) (fun k h=>by cases h)⟩;have:=hg;rw[qE]at this;simpa [ints]using this
     clear hg hc)
   |(at_builtin
     refine aM _ rfl _ _ 22 rfl w6.heap.size 3 i0 underlying22 hi hl hn ho (.slice (some ⟨w6.heap.size,0,none⟩) p p) p (ints (List.replicate p 0)) (by simp[Act.eval,Act.put]) X7.out.1 (.slice Aa na ca) a (by simp[Act.eval,Act.put]) (Hh.out _ X7.out.2) hx.out X7.out.2.size ?_
     intro v8 w8 hh hd
     have X8:Aside (w8.ownsRow w6.heap.size 3 1 v8 ni (ints Li)/\Below w6.heap.size w6 w8):=by
      refine⟨by have:=hh;rw[hP.out,<-aS,Hj.out]at this;exact this,X7.out.2.grown hd X7.out.2.size (fun j hj=>(X7.out.1.lt j hj).1)⟩
     obtain⟨A8,c8,rfl⟩:=bJ X8.out.1
     clear hh hd)
   |(go_at_call 278
     refine(HC.out _ _ (Hi.out _ X8.out.2)).mono ?_
     rintro e w9 ⟨v9,rfl,o9,b9⟩
     obtain⟨A9,c9,rfl⟩:=bJ o9
     have X9:Aside (w9.ownsRow w8.heap.size 3 1 (.slice A9 nb c9) nb (ints b)/\Below w8.heap.size w8 w9):=⟨o9,b9⟩
     clear o9 b9)
   |(at_builtin
     refine gC _ rfl _ _ 22 3 rfl w8.heap.size 3 i0 underlying22 underlying3 hi hl hn ho (.slice A9 nb c9) nb (ints b) (by simp[Act.eval,Act.put]) X9.out.1 q (by simp[Act.eval,Act.put]) (by omega) X9.out.2.size ?_
     intro v10 wa hf hb
     have Xa:Aside (wa.ownsRow w8.heap.size 3 1 v10 nf (ints Lf)/\Below w8.heap.size w8 wa):=by
      refine⟨?_,X9.out.2.grown hb X9.out.2.size (fun j hj=>(X9.out.1.lt j hj).1)⟩;have:=hf;rw[hQ.out,show List.replicate q (Value.int .i64 0)=ints (List.replicate q 0) by simp[ints],<-aS,Hk.out]at this;exact this
     obtain⟨Ac,c10,rfl⟩:=bJ Xa.out.1
     clear hf hb
     obtain⟨Wa,hX,Ka⟩:∃Wa,wa.alloc (Obj.cells #[.int .i64 0] 3)=Wa/\Aside (cO Wa w4.heap.size (.bool tn) (.slice A4 tl.length c4) (.int .i64 ts)/\gZ Wa (w.heap.size+1) (.bool false) (.slice none 0 0) (.bool false) (.slice none 0 0)/\
       aC Wa (.slice (some ⟨wa.heap.size,0,none⟩) 1 1) [0]/\aC Wa (.slice Ac nf c10) Lf/\Below w6.heap.size w6 Wa/\w6.heap.size<=wa.heap.size/\dC w6.heap.size (.slice Ac nf c10)):=by
      have ba:Below w6.heap.size w6 wa:=X8.out.2.trans (Xa.out.2.mono X8.out.2.size)
      have bc:=ba.alloc ba.size (Obj.cells #[.int .i64 0] 3)
      refine⟨_,rfl,Hg.out _ bc,(HZ.out _ (B6.trans (bc.mono B6.size))).2,⟨_,_,rfl,by decide,by decide,fun _=>⟨_,_,rfl,fun j hj=>?_⟩⟩,?_,bc,ba.size,fun q hq=>by have:=(Xa.out.1.lt q hq).1;have:=X8.out.2.size;omega⟩
      ·obtain rfl:j=0:=by simpa using hj
       rw[aHM _ wa.heap.size 0 _ _ _ (aHO wa _)];rfl
      ·exact(aC.of_own (l:=Lf) (by rw[Ha.out];exact Xa.out.1)).alloc (Obj.cells #[.int .i64 0] 3)
     have r0:=Ka.out.1.c0
     have y0:=Ka.out.2.1.c0
     have y1:=Ka.out.2.1.c1
     have y2:=Ka.out.2.1.c2
     have y3:=Ka.out.2.1.c3
     have yf:=Ka.out.2.1.fz))
  refine aHP (aW (by rfl) _ _ (w.heap.size+1) _ _ _ _ _ rfl rfl (gZ.setAll Ka.out.2.1 (.bool tn) (.slice (some ⟨wa.heap.size,0,none⟩) 1 1) (.bool (decide (0<nf))) (.slice Ac nf c10)) underlying260 rfl (by kernel_rfl)) rfl ?_;have f1:dC w6.heap.size (.slice (some ⟨wa.heap.size,0,none⟩) 1 1):=fun q hq=>(show wa.heap.size=q by simpa [Value.ownBlock]using hq) ▸ Ka.out.2.2.2.2.2.1
  have f2:=Ka.out.2.2.2.2.2.2;rw[hL.out]
  exact⟨.slice (some ⟨wa.heap.size,0,none⟩) 1 1,.slice Ac nf c10,rfl,Ka.out.2.2.1.set4 f1 (by omega) _ _ _ _,Ka.out.2.2.2.1.set4 f2 (by omega) _ _ _ _,fun q hq=>by have:=f1 q hq;omega,fun q hq=>by have:=f2 q hq;omega,
   Below.set4 (HB.out.trans ((B6.trans (Ka.out.2.2.2.2.1.mono B6.size)).mono (by omega))) (by omega) _ _ _ _⟩
 ·have hL:Hid (D=⟨tn,Li,decide (0<nf),Lf⟩):=by
   show _=_;rw[Hc.out,aD4 (fun h=>by have h1:=Hd.out;have h2:=Ha.out;rw[h.1]at h1;rw[h.2]at h2;simp at h1 h2;omega)]
  have hW:¬((ni+nf:Nat):Int)=0:=by omega
  clear Hc
  go_wp2_with(first
   |(at_make
     refine wpList_make_full _ rfl _ _ 22 rfl w6.heap.size 3 i0 (.int .i64 0) 1 underlying22 hi hl hn .i64 .i64 _ _ p rfl rfl rfl rfl (by rw[ho];omega) (by unfold maxLen;omega) (by simp) ?_
     intro w7 hg hc
     have X7:Aside (w7.ownsRow w6.heap.size 3 1 (.slice (some ⟨w6.heap.size,0,none⟩) p p) p (ints (List.replicate p 0))/\Below w6.heap.size w6 w7):=by
      refine⟨?_,(Below.refl _ w6).grown hc (aD1 _) (fun k h=>by cases h)⟩;have:=hg;rw[qE]at this;simpa [ints]using this
     clear hg hc)
   |(at_builtin
     refine aM _ rfl _ _ 22 rfl w6.heap.size 3 i0 underlying22 hi hl hn ho (.slice (some ⟨w6.heap.size,0,none⟩) p p) p (ints (List.replicate p 0)) (by simp[Act.eval,Act.put]) X7.out.1 (.slice Aa na ca) a (by simp[Act.eval,Act.put]) (Hh.out _ X7.out.2) hx.out X7.out.2.size ?_
     intro v8 w8 hh hd
     have X8:Aside (w8.ownsRow w6.heap.size 3 1 v8 ni (ints Li)/\Below w6.heap.size w6 w8):=by
      refine⟨by have:=hh;rw[hP.out,<-aS,Hj.out]at this;exact this,X7.out.2.grown hd X7.out.2.size (fun j hj=>(X7.out.1.lt j hj).1)⟩
     obtain⟨A8,c8,rfl⟩:=bJ X8.out.1
     clear hh hd)
   |(go_at_call 278
     refine(HC.out _ _ (Hi.out _ X8.out.2)).mono ?_
     rintro e w9 ⟨v9,rfl,o9,b9⟩
     obtain⟨A9,c9,rfl⟩:=bJ o9
     have X9:Aside (w9.ownsRow w8.heap.size 3 1 (.slice A9 nb c9) nb (ints b)/\Below w8.heap.size w8 w9):=⟨o9,b9⟩
     clear o9 b9)
   |(at_builtin
     refine gC _ rfl _ _ 22 3 rfl w8.heap.size 3 i0 underlying22 underlying3 hi hl hn ho (.slice A9 nb c9) nb (ints b) (by simp[Act.eval,Act.put]) X9.out.1 q (by simp[Act.eval,Act.put]) (by omega) X9.out.2.size ?_
     intro v10 wa hf hb
     have Xa:Aside (wa.ownsRow w8.heap.size 3 1 v10 nf (ints Lf)/\Below w8.heap.size w8 wa):=by
      refine⟨?_,X9.out.2.grown hb X9.out.2.size (fun j hj=>(X9.out.1.lt j hj).1)⟩;have:=hf;rw[hQ.out,show List.replicate q (Value.int .i64 0)=ints (List.replicate q 0) by simp[ints],<-aS,Hk.out]at this;exact this
     obtain⟨Ac,c10,rfl⟩:=bJ Xa.out.1
     clear hf hb
     obtain⟨Na,Ka⟩:∃N,N=wa.heap.size/\Aside (cO wa w4.heap.size (.bool tn) (.slice A4 tl.length c4) (.int .i64 ts)/\gZ wa (w.heap.size+1) (.bool false) (.slice none 0 0) (.bool false) (.slice none 0 0)/\
       aC wa (.slice A8 ni c8) Li/\aC wa (.slice Ac nf c10) Lf/\Below w6.heap.size w6 wa/\dC w6.heap.size (.slice A8 ni c8)/\dC w6.heap.size (.slice Ac nf c10)):=by
      have ba:Below w6.heap.size w6 wa:=X8.out.2.trans (Xa.out.2.mono X8.out.2.size)
      refine⟨_,rfl,Hg.out _ ba,(HZ.out _ (B6.trans (ba.mono B6.size))).2,?_,?_,ba,fun q hq=>(X8.out.1.lt q hq).1,fun q hq=>by have:=(Xa.out.1.lt q hq).1;have:=X8.out.2.size;omega⟩
      ·exact(aC.of_own (l:=Li) (by rw[Hd.out];exact X8.out.1)).below Xa.out.2 (aD1 _)
      ·exact aC.of_own (l:=Lf) (by rw[Ha.out];exact Xa.out.1)
     have r0:=Ka.2.out.1.c0
     have y0:=Ka.2.out.2.1.c0
     have y1:=Ka.2.out.2.1.c1
     have y2:=Ka.2.out.2.1.c2
     have y3:=Ka.2.out.2.1.c3
     have yf:=Ka.2.out.2.1.fz))
  refine aHP (aW (by rfl) _ _ (w.heap.size+1) _ _ _ _ _ rfl rfl (gZ.setAll Ka.2.out.2.1 (.bool tn) (.slice A8 ni c8) (.bool (decide (0<nf))) (.slice Ac nf c10)) underlying260 rfl (by kernel_rfl)) rfl ?_;have f1:=Ka.2.out.2.2.2.2.2.1;have f2:=Ka.2.out.2.2.2.2.2.2;rw[hL.out]
  exact⟨.slice A8 ni c8,.slice Ac nf c10,rfl,Ka.2.out.2.2.1.set4 f1 (by omega) _ _ _ _,Ka.2.out.2.2.2.1.set4 f2 (by omega) _ _ _ _,fun q hq=>by have:=f1 q hq;omega,fun q hq=>by have:=f2 q hq;omega,
   Below.set4 (HB.out.trans ((B6.trans (Ka.2.out.2.2.2.2.1.mono B6.size)).mono (by omega))) (by omega) _ _ _ _⟩
set_option maxRecDepth 100000 in
theorem adN (vi vf:Value)(d:Dr)(w:World)(h:qF w vi vf d):
  Calls prog 203 #[mT vi vf d] w fun e w'=>∃sl,e=.returned (dv sl (aL ⟨d.neg,d.int++d.frac,d.frac.length⟩))/\aC w' sl (aL ⟨d.neg,d.int++d.frac,d.frac.length⟩).l/\dC w.heap.size sl/\Below w.heap.size w w':=by
 obtain⟨td,hc⟩:∃td,aL ⟨d.neg,d.int++d.frac,d.frac.length⟩=td:=⟨_,rfl⟩
 rw[hc]
 obtain⟨W2,hf,s2,z1,z2,hb⟩:∃W2,(w.alloc (Obj.cells #[.bool d.neg,vi,.bool d.sep,vf] 260)).alloc (Obj.cells #[.bool false,.slice none 0 0,.int .i64 0] 274)=W2/\W2.heap.size=w.heap.size+2/\
   gZ W2 w.heap.size (.bool d.neg) vi (.bool d.sep) vf/\cO W2 (w.heap.size+1) (.bool false) (.slice none 0 0) (.int .i64 0)/\Below w.heap.size w W2:=by
  refine⟨_,rfl,by simp,(aHR _ _ (by simp)).trans (gZ.new w _ _ _ _),?_,((Below.refl _ w).alloc (aD1 _) _).alloc (by simp) _⟩
  have:=cO.new (w.alloc (Obj.cells #[.bool d.neg,vi,.bool d.sep,vf] 260)) (.bool false) (.slice none 0 0) (.int .i64 0)
  simpa using this
 have I1:=fun W (hB:Below W2.heap.size W2 W)=>(h.ii.below hb (aD1 _)).below hB (aD1 _)
 have I2:=fun W (hB:Below W2.heap.size W2 W)=>(h.jf.below hb (aD1 _)).below hB (aD1 _)
 have l1:=h.li
 have l2:=h.lf
 have hT:=fun W X (i:aC W X (d.int++d.frac))=>eX X ⟨d.neg,d.int++d.frac,d.frac.length⟩ W i (by simp;omega) (by show d.frac.length<=1000;omega)
 rw[hc]at hT
 have hC:=fun W g (a:Below W2.heap.size W2 W) (hu:W.cell? ⟨g,0,none⟩=some vi) (hv:W.cell? ⟨g,1,none⟩=some vf)=>TL g vi vf d.int d.frac W hu hv (I1 W a) (I2 W a) (by omega) (by omega)
 obtain⟨n,li,sp,lf⟩:=d
 simp only[mT,dv]at *
 obtain⟨nb,hd⟩:∃n,lf.length=n:=⟨_,rfl⟩
 obtain⟨Ab,cb,rfl⟩:∃A c,vf=.slice A nb c:=by obtain⟨A,c,h⟩:=h.jf.form;exact⟨A,c,by rw[h,<-hd]⟩
 obtain⟨na,hg⟩:∃n,li.length=n:=⟨_,rfl⟩
 obtain⟨Aa,ca,rfl⟩:∃A c,vi=.slice A na c:=by obtain⟨A,c,h⟩:=h.ii.form;exact⟨A,c,by rw[h,<-hg]⟩
 obtain⟨M,hM⟩:∃M,(li++lf).length=M:=⟨_,rfl⟩
 rw[hM]at hC
 rw[hd]at hT
 have HM:=aHL hM
 have HW:=aHL hf
 have HT:=aHL hT
 have HC:=aHL hC
 have HZ:=aHL (fun W (hB:Below W2.heap.size W2 W)=>And.intro (z1.below hB (by omega)) (z2.below hB (by omega)))
 have HB:=aHL hb
 have q0:=z1.c0
 have q1:=z1.c1
 have q3:=z1.c3
 clear hf I1 I2 hT hC z1 z2 hb h hc hM hg hd l1 l2
 go_enter func203,ntmps203
 go_wp2_with fail
 rw[HW.out]
 have ha:w.heap.size<W2.heap.size:=by omega
 have bx:Below W2.heap.size W2 ((W2.alloc (Obj.cells #[.slice Aa na ca,.slice Ab nb cb] 22)).drew):=by
  have:=(Below.refl W2.heap.size W2).alloc (aD1 _) (Obj.cells #[.slice Aa na ca,.slice Ab nb cb] 22);exact⟨this.os,this.tape,this.output,this.size,this.block⟩
 have Hb:=aHL (HC.out ((W2.alloc (Obj.cells #[.slice Aa na ca,.slice Ab nb cb] 22)).drew) (w.heap.size+2) bx
  (by rw[<-s2];show(W2.alloc _).cell? _=_;rw[aHM _ _ 0 _ _ _ (aHO W2 _)];rfl)
  (by rw[<-s2];show(W2.alloc _).cell? _=_;rw[aHM _ _ 1 _ _ _ (aHO W2 _)];rfl))
 have Ha:=aHL bx
 clear bx
 go_region_held3 (fun w'=>w'.cell? ⟨w.heap.size,0,none⟩=some (.bool n)/\w'.cell? ⟨w.heap.size,1,none⟩=some (.slice Aa na ca)/\w'.cell? ⟨w.heap.size,3,none⟩=some (.slice Ab nb cb))
  (first
    |go_keep
    |(go_split_ands
      refine⟨?_,?_,?_⟩
      ·first|(rw[b5.cell (p:=⟨w.heap.size,0,none⟩) ha];assumption)|(rw[b3.cell (p:=⟨w.heap.size,0,none⟩) ha];assumption)
      ·first|(rw[b5.cell (p:=⟨w.heap.size,1,none⟩) ha];assumption)|(rw[b3.cell (p:=⟨w.heap.size,1,none⟩) ha];assumption)
      ·first|(rw[b5.cell (p:=⟨w.heap.size,3,none⟩) ha];assumption)|(rw[b3.cell (p:=⟨w.heap.size,3,none⟩) ha];assumption)))
  (first
    |(go_at_call 254
      refine Hb.out.mono ?_
      rintro e w3 ⟨v3,rfl,o3,ba⟩
      have b3:Below W2.heap.size W2 w3:=Ha.out.trans (ba.mono Ha.out.size)
      obtain⟨A3,c3,rfl⟩:=bJ o3
      have i3:=aHL (aC.of_own (l:=li++lf) (by rw[HM.out];exact o3))
      clear o3 ba)
    |(go_at_call 253
      refine(HT.out w3 _ i3.out).mono ?_
      rintro e w5 ⟨v5,rfl,i5,f5,bb⟩
      obtain⟨A5,c5,rfl⟩:=i5.form
      have hh:=b3.size
      have b5:Below W2.heap.size W2 w5:=b3.trans (bb.mono hh)
      have X5:Aside (aC w5 (.slice A5 td.l.length c5) td.l/\dC w3.heap.size (.slice A5 td.l.length c5)/\Below W2.heap.size W2 w5):=⟨i5,f5,b5⟩
      have Z5:=(HZ.out _ b5).2
      have e0:=Z5.c0
      have e1:=Z5.c1
      have e2:=Z5.c2
      have ef:=Z5.fz
      have Hc:=aHL Z5
      clear i5 f5 bb Z5))
 go_wp2
 refine aHP (aH0 (by rfl) _ _ (w.heap.size+1) _ _ _ _ rfl (Hc.out.setAll _ _ _) underlying274 rfl (by kernel_rfl)) rfl ?_
 obtain⟨i5,f5,b5⟩:=X5.out
 refine⟨.slice A5 td.l.length c5,rfl,?_,fun q hq=>?_,Below.set3 (HB.out.trans (b5.mono (by omega))) (by omega) _ _ _⟩
 ·exact i5.set3 f5 (by omega) _ _ _
 ·have:=f5 q hq;omega
end Go.Proofs.YtoeiaflkdcbkdaaGreatDoor
