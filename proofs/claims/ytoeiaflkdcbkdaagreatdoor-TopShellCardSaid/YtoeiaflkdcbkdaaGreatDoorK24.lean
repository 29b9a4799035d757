/- TopShell, part 24 of 36. -/
import Derived.RangeFuncNested
import Derived.RangeFuncLeaves
import Derived.Shelf.Abstract
import Derived.OwnWalkIn
import Derived.TacticsInMore
import Derived.LoopNIn
import Derived.LoopIn
import Derived.Test.YtoeiaflkdcbkdaaGreatDoorK23
import Derived.Test.YtoeiaflkdcbkdaaGreatDoorK18
import Derived.Test.YtoeiaflkdcbkdaaGreatDoorK19
import Derived.Test.YtoeiaflkdcbkdaaGreatDoorK20
import Derived.Test.YtoeiaflkdcbkdaaGreatDoorK22
set_option maxHeartbeats 16000000
set_option linter.unusedVariables false
set_option linter.unusedSimpArgs false
namespace Go.Sym
open Go Go.Proofs Go.RowKit
section
variable {n:Nat}
def awY:List AV:=Go.Proofs.YtoeiaflkdcbkdaaGreatDoor.locT.flatMap fun D=>[.lit (sB D.rc.nm),.lit (sB D.rc.pat),.lit (sB D.rc.sys),.lit (sB D.rc.dec),.lit (sB D.rc.grp),.lit (sB D.rc.mns),.lit (sB D.rc.pct),.lit (sB D.rc.cur)]
def NC:Told:={f:=117,args:=[],nb:=0,nc:=0,L:=[],r:=(.slc 0 0 40 8 (.ex 40)),nb':=1,nc':=0,L':=[(0,.cells 123 awY true)]}
theorem agI {P:Program}{T:Told}{xs va:List Value}{c sz:Nat}{et:TypeId}(h:∀B:aE,(∀i,B.A i=Option.none)->SQ B P T)(h0:T.nb=0/\T.nc=0/\T.L=[])(ha:T.args=xs.map .lit)(hr:T.r=.slc 0 0 n sz (.ex c))(hL:T.L'=[(0,.cells et (va.map .lit) true)])(w:World):
  Calls P T.f xs.toArray w fun e w'=>∃g,e=.returned (.slice (some ⟨g,0,none⟩) n c)/\w'.heap[g]?=some (.cells va.toArray et)/\w.heap.size<=g/\Below w.heap.size w w':=by
 obtain⟨h1,h2,h3⟩:=h0
 have hf:∀b,(YR T.nb T.nc T.L).H.get b=none:=fun b=>by rw[h3];rfl
 have hT:=h ⟨fun _=>False,w,fun _=>none⟩ (fun _=>rfl) Env.none w xs.toArray ⟨fun _ _=>rfl,fun _ _=>rfl,(fun b k hb=>by rw[hf]at hb;cases hb),(fun b _ k _ _ _ hb=>by rw[hf]at hb;cases hb),by rw[h1,h3];show 0<=1000000;omega⟩
  ⟨fun _ h=>False.elim h,fun _ h=>False.elim h,(fun _ _ h=>h),(fun i x hx=>by cases hx),(fun n v h=>nomatch(show Option.none=some v from h)),fun i x hx=>by cases hx⟩ (by rw[ha];simpa using dA xs)
 refine hT.mono ?_
 rintro e w' ⟨ρ',x,rfl,hx,S⟩
 have hc:∀g,¬dD Env.none (YR T.nb T.nc T.L) g:=by
  rintro g ⟨b,k,q,hb,_⟩;rw[hf]at hb;cases hb
 have hd:(YR T.nb' T.nc' T.L').H.get 0=some (.cells et (va.map .lit) true):=by rw[hL];rfl
 obtain⟨g,o,z,arr,ys,k1,k2,k3,k4,k5,k6,k7,k8⟩:=S.rel.live 0 _ hd
 obtain⟨rfl,hz⟩:=k8 rfl
 rw[dA]at k5
 injection k5 with k5;subst k5
 rw[aFV]at k1 k7 hz
 have hh:arr=va.toArray:=by
  apply aGQ;apply aF1;intro j;by_cases hj:j<va.length
  ·have:=k7 j hj;rw[aEV]at this;simpa using this
  ·rw[aFI (by simp;omega),aFI (by simp;omega)]
 subst hh
 have hg:w.heap.size<=g:=by
  rcases S.fresh g ⟨0,_,_,hd,k1,rfl⟩with h|h
  ·exact h
  ·exact absurd h (hc g)
 refine⟨g,?_,k2,hg,S.os,S.tape,S.output,S.size,fun k hk=>S.keep k hk (hc k)⟩
 rw[hr]at hx
 simp only[aO,fT,k1]at hx
 split at hx
 ·injection hx with hx
  rw[<-hx]
 ·cases hx
theorem agJ (B:aE)(hA:∀i,B.A i=Option.none):SQ B Tryz.prog NC:=ai7 (bY ai6 qX) (by kernel_rfl)
def vA:List Value:=match NC.L' with
 |[(_,.cells _ l _)]=>l.filterMap fun|.lit v=>some v|_=>none
 |_=>[]
set_option maxRecDepth 100000 in
theorem Q0 (w:World):Calls Tryz.prog 117 #[] w fun e w'=>∃g,e=.returned (.slice (some ⟨g,0,none⟩) 40 40)/\w'.heap[g]?=some (.cells vA.toArray 123)/\w.heap.size<=g/\Below w.heap.size w w':=
 agI (T:=NC) (xs:=[]) (sz:=8) agJ ⟨by kernel_rfl,by kernel_rfl,by kernel_rfl⟩ (by kernel_rfl) (by kernel_rfl) (by kernel_rfl) w
def alR:List ByteArray:=vA.map fun|.string s=>s|_=>⟨#[]⟩
theorem UE:vA=alR.map Value.string:=by kernel_rfl
theorem agK:alR.length=320:=by kernel_rfl
def rs (k j:Nat):ByteArray:=alR.getD (k*8+j) ⟨#[]⟩
theorem mP {W:World}{g:Nat}(h:W.heap[g]?=some (.cells vA.toArray 123))(k j:Nat)(hk:k<40)(hj:j<8):W.cell? ⟨g,k*8+j,none⟩=some (.string (rs k j)):=by
 have hl:=agK;have ha:k*8+j<alR.length:=by omega
 simp only[World.cell?,h,UE];unfold rs;rw[aD9,aEB ha];simp[ha]
def CY (k:Nat):Value:= .agg #[.string (rs k 0),.string (rs k 1),.string (rs k 2),.string (rs k 3),.string (rs k 4),.string (rs k 5),.string (rs k 6),.string (rs k 7)]
def asK (k:Nat):Array Value:=#[.string (rs k 0),CY k]
def KpR (W W':World):Prop:=∀(g:Nat) (arr:Array Value) (e:TypeId),W.heap[g]?=some (Obj.cells arr e (0,0))->W'.heap[g]?=some (Obj.cells arr e (0,0))
attribute [local go_sem] Oper.semAt_some
set_option maxRecDepth 100000 in
theorem alU (n:Nat)(hn:1<=n)(w0:World):SeqStopsK Fence.wide n Tryz.prog 116 #[] asK KpR (fun ys=>ys=List.range 40) (fun pre=>pre <+:List.range 40) 40 w0:=fun l J Jx W hW hJ hj hY h0=>by
 refine callsIn_of_wp Tryz.func116 rfl trivial ?_ rfl;simp only[Tryz.ntmps116,aEX,aEN,aEW,Nat.reduceAdd,Nat.reduceSub,Array.replicate_succ,Array.replicate_zero,List.push_toArray,List.append_toArray,aF4,aGO];have hr:=(callsIn_wide (n:=n-1)).2 (Q0 W);gi_wp2_with (refine⟨trivial,?_⟩;gi_at_call 117;refine hr.mono ?_;rintro e w1 ⟨g,rfl,hg,hl,hB⟩)
 gi_loopw [6] (fun i wr=>∃k:Nat,k<=40/\i=.int .i64 k/\J (List.range k) wr/\wr.heap[g]?=some (.cells vA.toArray 123))
  (fun i _=>40-(RowKit.intOf i).toNat)
 case atStart=>exact⟨0,aES _,rfl,hJ _ _ _ none h0 ⟨hB.os,hB.tape,hB.output,hB.size,fun k hk _=>hB.block k hk⟩ (fun r e=>by cases e),hg⟩
 case round=>
  obtain⟨k,hk,rfl,hf,ha⟩:=hrel
  by_cases hb:k<40
  ·have c0:=mP ha k 0 hb (by omega);have c1:=mP ha k 1 hb (by omega);have c2:=mP ha k 2 hb (by omega);have c3:=mP ha k 3 hb (by omega);have c4:=mP ha k 4 hb (by omega);have c5:=mP ha k 5 hb (by omega);have c6:=mP ha k 6 hb (by omega);have c7:=mP ha k 7 hb (by omega);have HG:=aHL ha;have hc:=fun W1 (hh:J (List.range k) W1)=>hY (List.range k) k W1 hh (by simpa using hb)
   unfold asK CY at hc;generalize rs k 0=s0 at *;generalize rs k 1=s1 at *;generalize rs k 2=s2 at *;generalize rs k 3=s3 at *;generalize rs k 4=s4 at *;generalize rs k 5=s5 at *;generalize rs k 6=s6 at *;generalize rs k 7=s7 at *;rw[aE2]at c0;clear ha hY hg;obtain⟨fn,tmps,assign,body,hy,hR⟩:=hc _ (hJ _ _ _ none hf (World.grownBy_alloc wr (Obj.cells #[.string s0,.string s1,.string s2,.string s3,.string s4,.string s5,.string s6,.string s7] 123) none) (fun r e=>by cases e))
   have Ha:Hid ((wr.alloc (Obj.cells #[.string s0,.string s1,.string s2,.string s3,.string s4,.string s5,.string s6,.string s7] 123)).heap[g]?=some (Obj.cells vA.toArray 123)):=by
    have:=HG.out;exact(Below.heap_alloc wr _ g (aD5.1 this).1).trans this
   clear hc;gi_wp2;refine hR.mono ?_;rintro e W3 (⟨rfl,hJ3,hi⟩|⟨rfl,hd⟩)
   ·have HG3:=aHL (hi g _ _ Ha.out);gi_wp2;go_roundw
    case rel=>exact⟨k+1,by omega,by simp,by rw[aHJ];exact hJ3,HG3.out⟩
    case measure=>simp[RowKit.intOf];omega
   ·gi_wp2;refine bodyPost_ret (results_none rfl _ _ _) rfl ?_;exact⟨⟨_,rfl⟩,.inr ⟨_,⟨List.range' (k+1) (40-(k+1)),by rw[<-aHJ,List.range_eq_range',List.range_eq_range'];have:=@List.range'_append 0 (k+1) (40-(k+1)) 1;simp only[Nat.one_mul,aEV]at this;rw[this];congr 1;omega⟩,hd⟩⟩
  ·obtain rfl:k=40:=by omega
   gi_wp2;go_end0;exact⟨⟨_,rfl⟩,.inl ⟨_,rfl,hf⟩⟩
theorem alV (w:World):Calls Tryz.prog 88 #[] w fun e w'=>e=.returned (.func (.func 116) #[] #[])/\w'=w:=by
 go_enter Tryz.func88,Tryz.ntmps88;go_wp2;go_ret;exact⟨rfl,rfl⟩
theorem awZ {A B C:World}(h:KpR A B)(k:KpR B C):KpR A C:=fun g arr e hx=>k g arr e (h g arr e hx)
theorem aw0 (W:World)(l:Nat)(o o':Obj)(_:n<=l)(h:W.heap[l]?=some o)(hc:o.isCells=false)(_:o.isWalk=false):KpR W (W.putObj l o'):=by
 intro g arr e hg
 have ha:g≠l:=by
  rintro rfl;rw[h]at hg;injection hg with hg
  subst hg
  cases hc
 rw[World.putObj_heap_other ha];exact hg
theorem aaX (W:World)(o:Obj):KpR W (W.alloc o):=fun g arr e hg=>(Below.heap_alloc W o g (aD5.1 hg).1).trans hg
set_option maxRecDepth 100000 in
theorem aaY (n:Nat)(hn:3<=n)(nm:ByteArray)(kk:Nat)(hV:kk<40)(hit:rs kk 0=nm)(hs:∀j,j<kk->rs j 0≠nm)(w:World):
  CallsIn Fence.wide n Tryz.prog 48 #[.string nm] w fun e W'=>e=.returned (.tuple #[CY kk,.int .i64 0])/\Below w.heap.size w W':=by
 have h1:1<=n:=by omega
 refine callsIn_of_wp_marks Tryz.func48 rfl trivial ?_ rfl
 simp only[Tryz.ntmps48,aEX,aEN,aEW,Nat.reduceAdd,Nat.reduceSub,Array.replicate_succ,Array.replicate_zero,List.push_toArray,List.append_toArray,aF4,aGO]
 gi_wp2_with (refine⟨trivial,?_⟩;gi_at_call 88;refine((callsIn_wide (n:=n-1)).2 (alV _)).mono ?_;rintro e w' ⟨rfl,rfl⟩)
 obtain⟨W0,ha⟩:∃W0,((w.alloc (Obj.cells #[.string nm] 9)).alloc (Obj.cells #[.string ⟨#[]⟩,.string ⟨#[]⟩,.string ⟨#[]⟩,.string ⟨#[]⟩,.string ⟨#[]⟩,.string ⟨#[]⟩,.string ⟨#[]⟩,.string ⟨#[]⟩] 123)).alloc (Obj.cells #[.int .i64 0] 47)=W0:=⟨_,rfl⟩
 have hE:W0.heap.size=w.heap.size+3:=by rw[<-ha];simp
 have hW:Below w.heap.size w W0:=by rw[<-ha];exact(((Below.refl _ w).alloc (aD1 _) _).alloc (by simp) _).alloc (by simp;omega) _
 have b1:Boxed W0 w.heap.size 9 (.string nm):=by rw[<-ha];exact((Boxed.new w 9 (.string nm)).alloc _).alloc _
 have b2:W0.heap[w.heap.size+1]?=some (Obj.cells #[.string ⟨#[]⟩,.string ⟨#[]⟩,.string ⟨#[]⟩,.string ⟨#[]⟩,.string ⟨#[]⟩,.string ⟨#[]⟩,.string ⟨#[]⟩,.string ⟨#[]⟩] 123 (0,0)):=by
  rw[<-ha];have:=World.alloc_heap_new (w.alloc (Obj.cells #[.string nm] 9)) (Obj.cells #[.string ⟨#[]⟩,.string ⟨#[]⟩,.string ⟨#[]⟩,.string ⟨#[]⟩,.string ⟨#[]⟩,.string ⟨#[]⟩,.string ⟨#[]⟩,.string ⟨#[]⟩] 123);rw[World.size_alloc]at this;exact(Below.heap_alloc _ _ _ (by simp)).trans this
 have b3:Boxed W0 (w.heap.size+1+1) 47 (.int .i64 0):=by
  rw[<-ha];have:=Boxed.new ((w.alloc (Obj.cells #[.string nm] 9)).alloc (Obj.cells #[.string ⟨#[]⟩,.string ⟨#[]⟩,.string ⟨#[]⟩,.string ⟨#[]⟩,.string ⟨#[]⟩,.string ⟨#[]⟩,.string ⟨#[]⟩,.string ⟨#[]⟩] 123)) 47 (.int .i64 0);simp only[World.size_alloc]at this;exact this
 rw[ha]
 clear ha
 refine wpIn_rangeFunc_ownH rfl h1 (gf:=116) (lb:=#[]) rfl trivial (enters_of Tryz.func116 (by kernel_rfl) rfl) (alU (n-1) (by omega) W0) awZ (fun W l o o'=>aw0 W l o o') (Below.refl _ _) (fun _=>rfl)
  (fun pre W=>(∀j∈pre,rs j 0≠nm)/\Boxed W w.heap.size 9 (.string nm)/\W.heap[w.heap.size+1]?=some (Obj.cells #[.string ⟨#[]⟩,.string ⟨#[]⟩,.string ⟨#[]⟩,.string ⟨#[]⟩,.string ⟨#[]⟩,.string ⟨#[]⟩,.string ⟨#[]⟩,.string ⟨#[]⟩] 123 (0,0))/\Boxed W (w.heap.size+1+1) 47 (.int .i64 0)/\Below w.heap.size w W)
  (fun c pre W=>c=.ret/\(∃k p',pre=p'++[k]/\(∀j∈p',rs j 0≠nm)/\rs k 0=nm/\∀j,j<8->W.cell? ⟨w.heap.size+1,j,none⟩=some (.string (rs k j)))/\W.cell? ⟨w.heap.size+1+1,0,none⟩=some (.int .i64 0)/\Below w.heap.size w W)
  ?hI ?hIx ⟨fun j hj=>absurd hj aFF,b1,b2,b3,hW⟩
  (fun x a' W=>∃Bx,W0.heap.size<=Bx/\W.heap[Bx]?=some (Obj.cells #[.string (rs x 0),.string (rs x 1),.string (rs x 2),.string (rs x 3),.string (rs x 4),.string (rs x 5),.string (rs x 6),.string (rs x 7)] 123 (0,0))/\
    a'={tmps:=#[.string nm,.pointer (some ⟨w.heap.size,0,none⟩),.pointer (some ⟨w.heap.size+1,0,none⟩),.pointer (some ⟨w.heap.size+1+1,0,none⟩),.string (rs x 0),.pointer (some ⟨Bx,0,none⟩),.func (.func 116) #[] #[],.string (rs x 0),CY x,undef,undef,undef,undef,undef],defers:=[]})
  ?hAx ?assign ?body ?done ?stop
 case hI=>
  intro pre W W' row ⟨i1,i2,i3,i4,i5⟩ hg hr
  have ne:∀b,b<W0.heap.size->some b≠row:=fun b hb e=>by have:=(hr _ e.symm).1;omega
  refine⟨i1,i2.kept hg (ne _ (by omega)),(hg.block _ (aD5.1 i3).1 (ne _ (by omega))).trans i3,i4.kept hg (ne _ (by omega)),i5.grown hg i5.size (fun j hj=>?_)⟩
  have:=(hr _ hj).1
  omega
 case hIx=>
  intro c pre W W' row ⟨i1,⟨k,p',e1,e2,e3,i3⟩,i4,i5⟩ hg hr
  refine⟨i1,⟨k,p',e1,e2,e3,fun j hj=>cell_kept (i3 j hj) hg (fun r e=>(hr r e).2)⟩,cell_kept i4 hg (fun r e=>(hr r e).2),i5.grown hg i5.size (fun j hj=>?_)⟩
  have:=(hr _ hj).1
  omega
 case hAx=>
  intro x a' _ W W' row ⟨Bx,i1,i2,i3⟩ hg hr
  refine⟨Bx,i1,(hg.block _ (aD5.1 i2).1 (fun e=>?_)).trans i2,i3⟩
  obtain⟨_,o,ho,hc⟩:=hr _ e.symm
  rw[i2]at ho
  injection ho with ho
  subst ho
  cases hc
 case assign=>
  rintro l pre x W K hi hK
  unfold asK CY
  unfold CY at hK
  generalize rs x 0=s0 at *
  generalize rs x 1=s1 at *
  generalize rs x 2=s2 at *
  generalize rs x 3=s3 at *
  generalize rs x 4=s4 at *
  generalize rs x 5=s5 at *
  generalize rs x 6=s6 at *
  generalize rs x 7=s7 at *
  obtain⟨i1,i2,i3,i4,i5⟩:=hi
  have ha:W0.heap.size<=W.heap.size:=by
   have:=i4.lt;omega
  have X:=hK {tmps:=#[.string nm,.pointer (some ⟨w.heap.size,0,none⟩),.pointer (some ⟨w.heap.size+1,0,none⟩),.pointer (some ⟨w.heap.size+1+1,0,none⟩),.string s0,.pointer (some ⟨W.heap.size,0,none⟩),.func (.func 116) #[] #[],.string s0,.agg #[.string s0,.string s1,.string s2,.string s3,.string s4,.string s5,.string s6,.string s7],undef,undef,undef,undef,undef],defers:=[]}
   (W.alloc (Obj.cells #[.string s0,.string s1,.string s2,.string s3,.string s4,.string s5,.string s6,.string s7] 123)) ((KeepsOthers.alloc _ _).from _) (aaX _ _)
   ⟨i1,i2.alloc _,(Below.heap_alloc _ _ _ (aD5.1 i3).1).trans i3,i4.alloc _,i5.alloc i5.size _⟩ ⟨W.heap.size,ha,World.alloc_heap_new _ _,rfl⟩
  clear hK i1 i2 i3 i4 i5
  gi_wp2
  exact X
 case body=>
  rintro l pre x a' W hl ⟨r,hr⟩ ⟨i1,i2,i3,i4,i5⟩ ⟨Bx,h0,hA,rfl⟩ hlt
  have ho:∀j,j<8->∀o0:Value,(#[Value.string (rs x 0),.string (rs x 1),.string (rs x 2),.string (rs x 3),.string (rs x 4),.string (rs x 5),.string (rs x 6),.string (rs x 7)]:Array Value)[j]?=some o0->W.cell? ⟨Bx,j,none⟩=some o0:=by
   intro j _ o0 h;simp only[World.cell?,hA];exact h
  have c0:=ho 0 (by omega) _ rfl
  have c1:=ho 1 (by omega) _ rfl
  have c2:=ho 2 (by omega) _ rfl
  have c3:=ho 3 (by omega) _ rfl
  have c4:=ho 4 (by omega) _ rfl
  have c5:=ho 5 (by omega) _ rfl
  have c6:=ho 6 (by omega) _ rfl
  have c7:=ho 7 (by omega) _ rfl
  have d1:=i2.cell
  by_cases hx:rs x 0=nm
  ·have hf:∀j,j<8->W.cell? ⟨w.heap.size+1,j,none⟩=some (.string ⟨#[]⟩):=by
    intro j hj;simp only[World.cell?,i3];have:j=0∨j=1∨j=2∨j=3∨j=4∨j=5∨j=6∨j=7:=by omega
    rcases this with rfl|rfl|rfl|rfl|rfl|rfl|rfl|rfl<;>rfl
   have hh:∀j,W.frozen? ⟨w.heap.size+1,j,none⟩=false:=by
    intro j;simp[World.frozen?,i3]
   have e0:=hf 0 (by omega);have e1:=hf 1 (by omega);have e2:=hf 2 (by omega);have e3:=hf 3 (by omega);have e4:=hf 4 (by omega);have e5:=hf 5 (by omega);have e6:=hf 6 (by omega);have e7:=hf 7 (by omega);have f0:=hh 0;have f1:=hh 1;have f2:=hh 2;have f3:=hh 3;have f4:=hh 4;have f5:=hh 5;have f6:=hh 6;have f7:=hh 7;have e8:=i4.cell;have f8:=i4.frozen;have heq:((rs x 0).toList ==nm.toList)=true:=by rw[hx];simp
   have I3:=aHL i3;have I4:=aHL i4;have I5:=aHL i5;have I1:=aHL i1;have HX:=aHL hx;clear i1 i2 i3 i4 i5 hA ho hf hh hx;unfold CY;generalize hF:rs x 0=s0 at *;generalize hG:rs x 1=s1 at *;generalize hH:rs x 2=s2 at *;generalize hJ:rs x 3=s3 at *;generalize hL:rs x 4=s4 at *;generalize hM:rs x 5=s5 at *;generalize hN:rs x 6=s6 at *;generalize hO:rs x 7=s7 at *;have HS:=aHL (And.intro hF (And.intro hG (And.intro hH (And.intro hJ (And.intro hL (And.intro hM (And.intro hN hO)))))));clear hF hG hH hJ hL hM hN hO;obtain⟨W9,ht⟩:∃W9,(((((((((W.setCell ⟨w.heap.size+1,0,none⟩ (.string s0)).setCell ⟨w.heap.size+1,1,none⟩ (.string s1)).setCell ⟨w.heap.size+1,2,none⟩ (.string s2)).setCell ⟨w.heap.size+1,3,none⟩ (.string s3)).setCell ⟨w.heap.size+1,4,none⟩ (.string s4)).setCell ⟨w.heap.size+1,5,none⟩ (.string s5)).setCell ⟨w.heap.size+1,6,none⟩ (.string s6)).setCell ⟨w.heap.size+1,7,none⟩ (.string s7)).setCell ⟨w.heap.size+1+1,0,none⟩ (.int .i64 0))=W9:=⟨_,rfl⟩
   have hP:KeepsOthers W W9:=by
    rw[<-ht];exact(((((((((KeepsOthers.setCell W _ _).trans (KeepsOthers.setCell _ _ _)).trans (KeepsOthers.setCell _ _ _)).trans (KeepsOthers.setCell _ _ _)).trans (KeepsOthers.setCell _ _ _)).trans (KeepsOthers.setCell _ _ _)).trans (KeepsOthers.setCell _ _ _)).trans (KeepsOthers.setCell _ _ _)).trans (KeepsOthers.setCell _ _ _))
   have hQ:Below w.heap.size w W9:=by
    rw[<-ht];exact((((((((I5.out.setCell (p:=⟨w.heap.size+1,0,none⟩) (by simp) _).setCell (p:=⟨w.heap.size+1,1,none⟩) (by simp) _).setCell (p:=⟨w.heap.size+1,2,none⟩) (by simp) _).setCell (p:=⟨w.heap.size+1,3,none⟩) (by simp) _).setCell (p:=⟨w.heap.size+1,4,none⟩) (by simp) _).setCell (p:=⟨w.heap.size+1,5,none⟩) (by simp) _).setCell (p:=⟨w.heap.size+1,6,none⟩) (by simp) _).setCell (p:=⟨w.heap.size+1,7,none⟩) (by simp) _).setCell (p:=⟨w.heap.size+1+1,0,none⟩) (by simp;omega) _
   have hR:∀j,j<8->W9.cell? ⟨w.heap.size+1,j,none⟩=some (.string (rs x j)):=by
    obtain⟨q0,q1,q2,q3,q4,q5,q6,q7⟩:=HS.out;intro j hj;rw[<-ht];have:j=0∨j=1∨j=2∨j=3∨j=4∨j=5∨j=6∨j=7:=by omega
    rcases this with rfl|rfl|rfl|rfl|rfl|rfl|rfl|rfl
    all_goals simp[World.cell?_setCell_same',World.cell?_setCell_other,e0,e1,e2,e3,e4,e5,e6,e7,q0,q1,q2,q3,q4,q5,q6,q7]
   have hS:W9.cell? ⟨w.heap.size+1+1,0,none⟩=some (.int .i64 0):=by
    rw[<-ht];simp[World.cell?_setCell_same',World.cell?_setCell_other,e8]
   have XX:Hid (KeepsFrom W0.heap.size W W9/\(Code.ret=Code.ret/\(∃k p',pre++[x]=p'++[k]/\(∀j∈p',rs j 0≠nm)/\rs k 0=nm/\∀j,j<8->W9.cell? ⟨w.heap.size+1,j,none⟩=some (.string (rs k j)))/\W9.cell? ⟨w.heap.size+1+1,0,none⟩=some (.int .i64 0)/\Below w.heap.size w W9)):=
    ⟨hP.from W0.heap.size,rfl,⟨x,pre,rfl,I1.out,HS.out.1.trans HX.out,hR⟩,hS,hQ⟩
   have Ha:=aHL ht;clear ht;clear hP hQ hR hS;have Hb:=aHL hE;clear hE;gi_wp2;rw[Ha.out];obtain⟨x1,_,x3,x4,x5⟩:=XX.out;exact⟨x1,rfl,x3,x4,x5⟩
  ·have X:KeepsFrom W0.heap.size W W/\KpR W W/\((∀j∈pre++[x],rs j 0≠nm)/\Boxed W w.heap.size 9 (.string nm)/\W.heap[w.heap.size+1]?=some (Obj.cells #[.string ⟨#[]⟩,.string ⟨#[]⟩,.string ⟨#[]⟩,.string ⟨#[]⟩,.string ⟨#[]⟩,.string ⟨#[]⟩,.string ⟨#[]⟩,.string ⟨#[]⟩] 123 (0,0))/\Boxed W (w.heap.size+1+1) 47 (.int .i64 0)/\Below w.heap.size w W):=by
    refine⟨KeepsFrom.refl _ _,fun _ _ _ h=>h,fun j hj=>?_,i2,i3,i4,i5⟩;rcases aEQ.1 hj with h|h
    ·exact i1 j h
    ·rw[aGT.1 h];exact hx
   have XX:=aHL X
   have h5:((rs x 0).toList ==nm.toList)=false:=by
    rw[wI];exact aEC fun h=>hx (jF h)
   clear i1 i2 i3 i4 i5 X hA ho c0 c1 c2 c3 c4 c5 c6 c7;generalize rs x 0=s0 at *;generalize CY x=ag at *;gi_wp2;exact XX.out
 case done=>
  rintro D xs W hD rfl ⟨i1,_⟩ hK
  exact absurd hit (i1 kk (aEE.2 hV))
 case stop=>
  rintro D c pre W hD hT ⟨rfl,⟨k,p',rfl,hp,hk,hc⟩,hd,hB⟩ hK
  have hC:k=kk:=by
   have hv:p'++[k]=List.range (p'.length+1):=by
    have hz:p'++[k] <+:List.range 40:=hT;have h1:=List.prefix_iff_eq_take.1 hz;rw[h1,List.take_range,aD2,aGF];congr 1;have:=hz.length_le;simp at this;omega
   rw[aHJ]at hv;have h2:=List.append_inj' hv (by simp);obtain⟨h3,h4⟩:=h2;have h6:k=p'.length:=by simpa using h4
   rcases aGY k kk with h|h|h
   ·exact absurd hk (hs k h)
   ·exact h
   ·refine absurd hit (hp kk ?_);rw[h3,aEE];omega
  subst hC
  have hq:∀j,j<8->(W.putObj D (.deferred none)).cell? ⟨w.heap.size+1,j,none⟩=some (.string (rs k j)):=fun j hj=>cell_kept (hc j hj) (grownBy_putObj' _ D (.deferred none)) (fun r e=>by cases e;exact⟨_,hK,rfl⟩)
  have hX:=cell_kept hd (grownBy_putObj' _ D (.deferred none)) (fun r e=>by cases e;exact⟨_,hK,rfl⟩)
  have hY:Below w.heap.size w (W.putObj D (.deferred none)):=hB.grown (grownBy_putObj' _ D (.deferred none)) hB.size (fun j hj=>by cases hj;omega)
  have c0:=hq 0 (by omega)
  have c1:=hq 1 (by omega)
  have c2:=hq 2 (by omega)
  have c3:=hq 3 (by omega)
  have c4:=hq 4 (by omega)
  have c5:=hq 5 (by omega)
  have c6:=hq 6 (by omega)
  have c7:=hq 7 (by omega)
  clear hq hc hd hp hT hB
  gi_wp2
  refine⟨by simp,.inl ⟨_,_,rfl,run_takeDeferred hK,?_⟩⟩
  refine⟨.tuple #[CY k,.int .i64 0],?_,rfl,hY⟩
  unfold CY
  simp[results,Tryz.f48,go_sem,hX,c0,c1,c2,c3,c4,c5,c6,c7]
end
end Go.Sym
namespace Go.Proofs.YtoeiaflkdcbkdaaGreatDoor
open Go.RowKit Go.Sym Go.Proofs.Tryz
section
variable {k:Nat}{B:aE}
def aw1 (D:eB):List (List UInt8):=[D.rc.nm,D.rc.pat,D.rc.sys,D.rc.dec,D.rc.grp,D.rc.mns,D.rc.pct,D.rc.cur]
theorem aaZ:(List.range 40).all (fun k=>(List.range 8).all fun j=>decide ((rs k j).data.toList=(aw1 (locT.getD k bO)).getD j []))=true:=by kernel_rfl
theorem Q4:(List.range 40).all (fun k=>(List.range k).all fun j=>!decide ((locT.getD j bO).rc.nm=(locT.getD k bO).rc.nm))=true:=by kernel_rfl
theorem vV {j:Nat}(hk:k<40)(hj:j<8):rs k j=⟨((aw1 (locT.getD k bO)).getD j []).toArray⟩:=by
 have:=aE3 (aD7.1 (aD7.1 aaZ k (aEE.2 hk)) j (aEE.2 hj));rw[<-this]
theorem alX (hk:k<40):CY k=(locT.getD k bO).rc.v:=by
 unfold CY;rw[vV hk (by omega),vV hk (by omega),vV hk (by omega),vV hk (by omega),vV hk (by omega),vV hk (by omega),vV hk (by omega),vV hk (by omega)];rfl
def agL (k:Nat):dO:=⟨48,[.val (sB (locT.getD k bO).rc.nm)],.tup [.agg ((locT.getD k bO).rc.l.map .val),.val (.int .i64 0)]⟩
theorem Q5 {G:Nat->Prop}{w:World}:∀l:List Value,kW B G w (l.map .val) l
 |[]=>rfl
 |x::l=>⟨x,l,rfl,rfl,Q5 l⟩
theorem Q6 (hk:k<40):aK B prog (agL k):=by
 refine⟨⟨trivial,trivial⟩,fun w hu xs ha=>?_⟩;obtain⟨x,_,rfl,hx,rfl⟩:=ha;rw[show x=_ from hx];refine(callsIn_wide.1 (aaY 3 (by omega) _ k hk (vV hk (by omega)) (fun j hj=>?_) w)).mono ?_
 ·have:=aD7.1 (aD7.1 Q4 k (aEE.2 hk)) j (aEE.2 hj);rw[vV (by omega) (by omega)];intro e;have e2:(locT.getD j bO).rc.nm.toArray=(locT.getD k bO).rc.nm.toArray:=ByteArray.mk.inj e
  have e3:(locT.getD j bO).rc.nm=(locT.getD k bO).rc.nm:=by
   have:=aEK Array.toList e2;simpa using this
  rw[e3]at this;simp at this
 ·rintro e w' ⟨rfl,hb⟩;refine⟨_,rfl,⟨[_,_],rfl,_,_,rfl,?_,_,_,rfl,rfl,rfl⟩,hb⟩;rw[alX hk];exact⟨_,rfl,Q5 _⟩
end
end Go.Proofs.YtoeiaflkdcbkdaaGreatDoor
namespace Go.Proofs.YtoeiaflkdcbkdaaGreatDoor
open Go Go.Proofs.Tryz
theorem am3:Tryz.pinned.checked.prog.listedFits [("unicode/utf8.first",Rows.laid_unicode_utf8_first),("unicode/utf8.acceptRanges",Rows.laid_unicode_utf8_acceptRanges),("errors.errorType",Rows.laid_errors_errorType),("internal/strconv.uint64pow10",Rows.laid_internal_strconv_uint64pow10),("math/bits.deBruijn32tab",Rows.laid_math_bits_deBruijn32tab),("math/bits.deBruijn64tab",Rows.laid_math_bits_deBruijn64tab),("strconv.ErrSyntax",Rows.laid_strconv_ErrSyntax),("strconv.ErrRange",Rows.laid_strconv_ErrRange)]=true:=by
 unfold Program.listedFits;rw[azG];kernel_rfl
theorem atQ:prog.laidByTextLater [("unicode/utf8.acceptRanges",Rows.laid_unicode_utf8_acceptRanges),("errors.errorType",Rows.laid_errors_errorType),("internal/strconv.uint64pow10",Rows.laid_internal_strconv_uint64pow10),("math/bits.deBruijn32tab",Rows.laid_math_bits_deBruijn32tab),("math/bits.deBruijn64tab",Rows.laid_math_bits_deBruijn64tab),("strconv.ErrSyntax",Rows.laid_strconv_ErrSyntax),("strconv.ErrRange",Rows.laid_strconv_ErrRange)] [.data,.handle,.data,.data,.data,.sentinel,.sentinel] true:=
 Program.laidByTextLater_by_run_h 400 8 azH azI azJ aCO aCP aCQ aCR azK azL azM
theorem atS:Rows.topShellRow.laidByTextAt .later Tryz.pinned [.pinned,.data,.handle,.data,.data,.data,.sentinel,.sentinel] true:=
 OpenClaim.laidByTextAt_pinned rfl rfl atQ rfl rfl rfl rfl (fun y hy _e=>by
  simp only[Rows.topShellRow,List.zip_cons_cons,List.zip_nil_right,aER,List.mem_nil_iff,aGX]at hy;rcases hy with rfl|rfl|rfl|rfl|rfl|rfl|rfl|rfl
  ·exact⟨atP,by kernel_rfl⟩
  ·cases _e
  ·cases _e
  ·cases _e
  ·cases _e
  ·cases _e
  ·cases _e
  ·cases _e) am3
end Go.Proofs.YtoeiaflkdcbkdaaGreatDoor
namespace Go.Proofs.YtoeiaflkdcbkdaaGreatDoor.topShell
open Go.ChangeShapes Go.WideShapes Go.ChangeAt Go.RowKit Go.Proofs.Tryz
theorem IR (os:Os):laidMetH prog Rows.topShellRow.laid (gN os).memory:=by
 have e1:(qN.filter fun x=>(qN.map (·.1)).contains x.1)=qN:=List.filter_eq_self.2 fun x hx=>aGW.2 (aEZ.2 ⟨x,hx,rfl⟩)
 have e2:(qN.filter fun x=>!(qN.map (·.1)).contains x.1)=[]:=List.filter_eq_nil_iff.2 fun x hx=>by rw[aGW.2 (aEZ.2 ⟨x,hx,rfl⟩)];simp
 have h:laidMet prog qN (rO os):=laidMet_layVars (w0:=nR os) (qN.map (·.1)) [] (by rw[e1];rfl) (by rw[e1];exact am4 os) (by rw[e1];exact abO os) (by rw[e2];exact LaidIn.none);exact laidMetH_of_parts (h.of_heap (by simp[gN,World.memory,World.forCall,Input.heap])) (abP os)
theorem witness (os:Os)(H:Type)(enc:TypeId×Value->H):∃(w:World) (tape:Tape) (i:Input),w.os=os/\(w.forCall tape i).Shaped prog/\i.vars=[]/\Input.okWide prog (w.forCall tape i) .any w.heap.size 3 i/\
  ((Rows.topShellSpec.pre enc prog Tryz.f3 Rows.topShellRow.domain false (w.forCall tape i).memory i.args/\laidMetH prog Rows.topShellRow.laid (w.forCall tape i).memory)/\sizedMet enc prog Tryz.f3 (OpenSpec.ofChange Rows.topShellSpec) false (w.forCall tape i).memory i.args)/\({}:Assume).holds prog (lone (Frame.enter prog 3 i.args .normal) [] (w.forCall tape i)):=
 ChangeSpec.witness_shaped (enc:=enc) (C:=Tryz.checked) (os:=os) (X:=fun w _=>laidMetH prog Rows.topShellRow.laid w) false (rO os) RZ 8 (NQ os)
  (World.shaped_of_ZipB (atU os) (am5 os)) (am6 os) (atV os enc) (aiH os enc) (IR os)
end Go.Proofs.YtoeiaflkdcbkdaaGreatDoor.topShell
namespace Go.Proofs.YtoeiaflkdcbkdaaGreatDoor.topShell
open Go Go.Proofs.Tryz
theorem anA:decide (prog.funcs.size<=600)=true:=by kernel_rfl
theorem YA {i:Nat}{fn:Func}(hi:prog.funcs[i]?=some fn):fn.goes=false:=by
 have ha:i<600:=by
  have h1:=(aD5.1 hi).1;have h2:=aE3 anA;omega
 obtain⟨q,j,hq,hj,e⟩:∃q j,q<6/\j<100/\i=100*q+j:=⟨i/100,i%100,by omega,by omega,by omega⟩
 match q,hq with
  |0,_=>rw[show i=0+j by omega]at hi;have:=aD7.1 aC2 j (aEE.2 hj);rw[hi]at this;simpa using this
  |1,_=>rw[show i=100+j by omega]at hi;have:=aD7.1 aC3 j (aEE.2 hj);rw[hi]at this;simpa using this
  |2,_=>rw[show i=200+j by omega]at hi;have:=aD7.1 aC4 j (aEE.2 hj);rw[hi]at this;simpa using this
  |3,_=>rw[show i=300+j by omega]at hi;have:=aD7.1 aC5 j (aEE.2 hj);rw[hi]at this;simpa using this
  |4,_=>rw[show i=400+j by omega]at hi;have:=aD7.1 aC6 j (aEE.2 hj);rw[hi]at this;simpa using this
  |5,_=>rw[show i=500+j by omega]at hi;have:=aD7.1 aC7 j (aEE.2 hj);rw[hi]at this;simpa using this
theorem anB (f:FuncId):prog.goes f=false:=by
 unfold Program.goes
 have h1:((prog.closure f).any fun g=>(prog.funcs[g]?).any Func.goes)=false:=by
  rw[List.any_eq_false];intro g _
  cases h:prog.funcs[g]? with
  |none=>simp
  |some fn=>simp[YA h]
 have h2:prog.funcs.any Func.goes=false:=by
  rw[Array.any_eq_false];intro i hi;rw[YA (aFA hi)];simp
 rw[h1,h2];simp
theorem anC:false=Rows.topShellRow.goesBy Tryz.pinned.checked.prog:=by
 show false=prog.goesAt .entering Rows.topShellRow.func;unfold Program.goesAt Program.goesFrom
 cases prog.funcNamed Rows.topShellRow.func with
 |none=>rfl
 |some f=>simp[anB f]
end Go.Proofs.YtoeiaflkdcbkdaaGreatDoor.topShell
