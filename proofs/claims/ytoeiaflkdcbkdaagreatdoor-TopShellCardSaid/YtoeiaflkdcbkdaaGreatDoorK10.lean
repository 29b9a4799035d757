/- TopShell, part 10 of 36. -/
import Derived.Deep.MidRow
import Derived.Lib.SplitLaws
import Derived.Test.YtoeiaflkdcbkdaaGreatDoorRows
import Derived.LaidHandle
import Derived.Lay
import Derived.LaidLaws
import Derived.WideWitness
import Derived.ProofKit
import Derived.Test.YtoeiaflkdcbkdaaGreatDoorK09
set_option maxHeartbeats 16000000
set_option linter.unusedVariables false
set_option linter.unusedSimpArgs false
namespace Go.Proofs.YtoeiaflkdcbkdaaGreatDoor
open Go.RowKit Go.Proofs.Tryz
section
variable {n:Bool}{l:List Int}{x:Int}
theorem uV (p:Int->Bool)(x:Int):∀l:List Int,dG p (l++[x])=if dG p l<0 then(if p x=true then(l.length:Int)else -1)else dG p l
 |[]=>by unfold dG;by_cases h:p x=true<;>simp[h,dG]
 |y::l=>by
  have ih:=uV p x l;have lo:=VP p l;by_cases hy:p y=true
  ·simp[dG,hy]
  ·have e1:dG p (y::l++[x])=if dG p (l++[x])<0 then -1 else dG p (l++[x])+1:=by
    rw[aGO];conv=>lhs;unfold dG
    rw[aD4 hy]
   have e2:dG p (y::l)=if dG p l<0 then -1 else dG p l+1:=by conv=>lhs;unfold dG
                                                             rw[aD4 hy]
   rw[e1,e2,ih];by_cases h0:dG p l<0
   ·by_cases hx:p x=true
    ·simp[h0,hx];omega
    ·simp[h0,hx]
   ·have h1:¬dG p l+1<0:=by omega
    simp only[aD4 h0,aD4 h1]
theorem GC (n:Bool)(l:List Int):(aN n l).sep=decide (0<=dG iQ l):=by
 unfold aN;by_cases h:dG iQ l<0
 ·rw[aD6 h,aEC (by omega)]
 ·rw[aD4 h,aE8 (by omega)]
theorem uW (h:(aN n l).sep=false):aN n l=⟨n,l,false,[]⟩/\dG iQ l<0:=by
 rw[GC]at h;have h:=aGG h;exact⟨by unfold aN;rw[aD6 (by omega)],by omega⟩
theorem xO (h:(aN n l).sep=true):0<=dG iQ l:=by
 rw[GC]at h;exact aE3 h
theorem akO (p:Int->Bool)(l:List Int)(h:0<=dG p l):dG p l<l.length:=by
 rcases sG p l with⟨e,_⟩|⟨k,hk,e,_⟩
 ·omega
 ·omega
theorem TV (h:(aN n l).sep=false):aN n (l++[10])=⟨n,l,true,[]⟩:=by
 have h0:=(uW h).2;have e:dG iQ (l++[10])=(l.length:Int):=by rw[uV,aD6 h0];rfl
 unfold aN;rw[e,aD4 (by omega)];simp
theorem TW (hx:x≠10)(h:(aN n l).sep=false):aN n (l++[x])=⟨n,l++[x],false,[]⟩:=by
 have h0:=(uW h).2;have e:dG iQ (l++[x])= -1:=by rw[uV,aD6 h0,aD4 (by simp[iQ,hx])]
 unfold aN;rw[e,aD6 (by omega)]
theorem P9 (h:(aN n l).sep=true):aN n (l++[x])=⟨n,(aN n l).int,true,(aN n l).frac++[x]⟩:=by
 have h0:=xO h;have ha:=akO iQ l h0;have e:dG iQ (l++[x])=dG iQ l:=by rw[uV,aD4 (by omega)]
 have e1:(dG iQ l).toNat<l.length:=by omega
 unfold aN;rw[e,aD4 (by omega),aD4 (by omega)];simp only;rw[List.take_append_of_le_length (by omega),List.drop_append_of_le_length (by omega)]
theorem TX (h:oP l){k:Nat}(hk:k<l.length)(hx:l.getD k 0=10):∀n,(aN n (l.take k)).sep=false:=by
 intro n
 cases hs:(aN n (l.take k)).sep with
 |false=>rfl
 |true=>
  have h0:=xO hs
  rcases sG iQ (l.take k)with⟨e,_⟩|⟨j,hj,e1,e2,e3⟩
  ·omega
  have ha:j<k:=by simp at hj;omega
  have g:∀i,i<k->(l.take k).getD i 0=l.getD i 0:=fun i hi=>by simp[aD9,aE5,hi]
  have e4:dG iQ l=j:=yJ iQ l j (by omega) (fun i hi=>by rw[<-g i (by omega)];exact e3 i hi) (by rw[<-g j ha];exact e2)
  rcases h with h|h
  ·omega
  rw[e4]at h
  simp only[aGL]at h
  refine absurd hx (h _ ?_)
  rw[aD9,aEB hk]
  refine aGZ.2 ⟨k-(j+1),by simp;omega,?_⟩
  simp only[List.getElem_drop,aFR]
  congr 1;omega
set_option maxRecDepth 100000 in
theorem oZ (vi vf:Value)(d:Dr)(w:World)(h:qF w vi vf d):
  Calls prog 35 #[mT vi vf d] w fun e w'=>∃v',e=.returned v'/\w'.ownsRow w.heap.size 3 1 v' (aJ d).length (ints (aJ d))/\Below w.heap.size w w':=by
 obtain⟨i0,hi,hk,hl,hn⟩:=aHT dI
 obtain⟨W1,hr,ht,z1,ho⟩:∃W1,w.alloc (Obj.cells #[.bool d.neg,vi,.bool d.sep,vf] 39)=W1/\W1.heap.size=w.heap.size+1/\iX W1 39 w.heap.size (.bool d.neg) vi (.bool d.sep) vf/\Below w.heap.size w W1:=
  ⟨_,rfl,by simp,iX.new _ _ _ _ _ _,(Below.refl _ w).alloc (aD1 _) _⟩
 have I1:=aHL (fun W (hB:Below W1.heap.size W1 W)=>(h.ii.below ho (aD1 _)).below hB (aD1 _))
 have I2:=aHL (fun W (hB:Below W1.heap.size W1 W)=>(h.jf.below ho (aD1 _)).below hB (aD1 _))
 have l1:=h.li
 have l2:=h.lf
 obtain⟨AL,hp⟩:∃L,aJ d=L:=⟨_,rfl⟩
 rw[hp]
 unfold aJ at hp
 obtain⟨A1,c1,rfl⟩:=h.ii.form
 obtain⟨A2,c2,rfl⟩:=h.jf.form
 obtain⟨n,li,sp,lf⟩:=d
 simp only[mT]at *
 have HW:=aHL hr
 have HZ:=aHL (fun W (hB:Below W1.heap.size W1 W)=>z1.below hB (by omega))
 have HB:=aHL ho
 have Ha:=aHL hp
 have q1:=z1.c1
 clear hr z1 ho h hp
 cases sp
 all_goals
  go_enter func35,ntmps35
  go_wp2_with(first
   |(at_builtin
     rw[HW.out]
     refine aM _ rfl _ _ 22 rfl W1.heap.size 3 i0 underlying22 hi hk hl hn (.slice none 0 0) 0 [] (by simp[Act.eval,Act.put]) (aHN _ _ _ _) (.slice A1 li.length c1) li (by simp[Act.eval,Act.put]) (I1.out _ (Below.refl _ _)) (by omega) (aD1 _) ?_
     intro v3 w3 hf hc
     have X3:Aside (w3.ownsRow W1.heap.size 3 1 v3 li.length (ints li)/\Below W1.heap.size W1 w3):=⟨by simpa using hf,(Below.refl W1.heap.size W1).grown hc (aD1 _) (fun j hj=>by simp[Value.ownBlock]at hj)⟩
     have Z3:=HZ.out _ X3.out.2
     have e2:=Z3.c2
     have e3:=Z3.c3
     have hq:=X3.out.2.size
     clear hf hc q1 Z3)
   |(at_builtin
     refine aHU _ rfl _ _ 22 rfl W1.heap.size 3 i0 (.int .i64 0) 1 8 underlying22 hi hk hl hn rfl (by decide) v3 li.length (ints li) (by simp[Act.eval,Act.put]) (X3.out.1.alloc _) ⟨_,0,none⟩ 1 1 [.int .i64 10] rfl rfl (aHZ _ _ _) (fun x hx=>by simp at hx;subst hx;rfl) (by unfold maxLen;omega) (by omega) (by simp;omega) ?_
     intro v5 w5 hg hd hh
     have X5:Aside (w5.ownsRow W1.heap.size 3 1 v5 (li.length+1) (ints li++[.int .i64 10])/\Below W1.heap.size W1 w5):=⟨hg,(X3.out.2.alloc hq _).grown hd (by simp;omega) (fun j hj=>by have:=(X3.out.1.lt j hj).1;omega)⟩
     have Z5:=HZ.out _ X5.out.2
     have ea:=Z5.c3
     have hs:=X5.out.2.size
     clear hg hd hh e2 e3 Z5)
   |(at_builtin
     refine aM _ rfl _ _ 22 rfl W1.heap.size 3 i0 underlying22 hi hk hl hn v5 (li.length+1) (ints li++[.int .i64 10]) (by simp[Act.eval,Act.put]) X5.out.1 (.slice A2 lf.length c2) lf (by simp[Act.eval,Act.put]) (I2.out _ X5.out.2) (by omega) hs ?_
     intro v4 w4 hb ha
     have X4:Aside (w4.ownsRow W1.heap.size 3 1 v4 AL.length (ints AL)/\Below W1.heap.size W1 w4):=⟨by
      have e:li++[10]++lf=AL:=Ha.out;rw[<-e,aS,aS,aD2,aD2];exact hb,X5.out.2.grown ha hs (fun j hj=>(X5.out.1.lt j hj).1)⟩
     clear hb ha)
   |(at_builtin
     refine aM _ rfl _ _ 22 rfl W1.heap.size 3 i0 underlying22 hi hk hl hn v3 li.length (ints li) (by simp[Act.eval,Act.put]) X3.out.1 (.slice A2 lf.length c2) lf (by simp[Act.eval,Act.put]) (I2.out _ X3.out.2) (by omega) hq ?_
     intro v4 w4 hb ha
     have X4:Aside (w4.ownsRow W1.heap.size 3 1 v4 AL.length (ints AL)/\Below W1.heap.size W1 w4):=⟨by
      have e:li++[]++lf=AL:=Ha.out;rw[<-e,aET,aS,aD2];exact hb,X3.out.2.grown ha hq (fun j hj=>(X3.out.1.lt j hj).1)⟩
     clear hb ha))
  go_ret
  exact⟨_,rfl,eZ X4.out.1 (by omega),HB.out.trans (X4.out.2.mono (by omega))⟩
end
section
variable {w w8:World}{B g k g8 c8:Nat}{n:Bool}{l:List Int}{pI pF:Value}{x:Int}
theorem KE {w':World}{e:TypeId}{size:Nat}{v:Value}{n:Nat}{xs:List Value}{row:Option Nat}(h:w.ownsRow B e size v n xs)(hg:w.grownBy w' row)(hp:∀k,v.ownBlock=some k->row≠some k):w'.ownsRow B e size v n xs:=by
 obtain⟨h1,h2⟩:=h;refine⟨h1,?_⟩;rcases h2 with h2|⟨g,cp,cur,rfl,hb,hh,ha⟩
 ·exact .inl h2
 ·refine .inr ⟨g,cp,cur,rfl,hb,?_,ha⟩;rw[hg.block g (aD5.1 hh).1 (fun e=>hp g rfl e.symm)];exact hh
theorem QI (n:Bool)(l:List Int):(aN n l).frac.length<=l.length:=by
 unfold aN;split
 ·simp
 ·simp
theorem T0 (h:(aN n l).sep=true):aN n l=⟨n,(aN n l).int,true,(aN n l).frac⟩:=by
 have h0:=xO h;unfold aN;rw[aD4 (by omega)]
structure WO (w wr:World) (g B:Nat) (n:Bool) (pI pF:Value) (D:Dr):Prop where
 bx:iX wr 39 g (.bool n) pI (.bool D.sep) pF
 oi:wr.ownsRow B 3 1 pI D.int.length (ints D.int)
 jf:wr.ownsRow B 3 1 pF D.frac.length (ints D.frac)
 ne:∀k,pI.ownBlock=some k->pF.ownBlock≠some k
 bl:Below w.heap.size w wr
 sz:B<=wr.heap.size
 gB:g<B
 wg:w.heap.size<=g
theorem WO.addI {wr:World}(H:WO w wr g B n pI pF ⟨n,l,false,[]⟩)(hl:l.length=k)(o:Obj)(hb:w8.ownsRow B 3 1 (.slice (some ⟨g8,0,none⟩) (k+1) c8) (k+1) (ints l++[.int .i64 x]))(hg:(wr.drew.alloc o).grownBy w8 pI.ownBlock)(hat:pI.ownBlock=some g8∨g8=(wr.drew.alloc o).heap.size):
  Below B wr w8/\WO w (w8.setCell ⟨g,1,none⟩ (.slice (some ⟨g8,0,none⟩) (k+1) c8)) g B n (.slice (some ⟨g8,0,none⟩) (k+1) c8) pF ⟨n,l++[x],false,[]⟩:=by
 have bd:Below B wr wr.drew:=⟨rfl,rfl,rfl,aD1 _,fun _ _=>rfl⟩
 have b8:Below B wr w8:=(bd.alloc H.sz _).grown hg (by have:=H.sz;simp;omega) (fun j hj=>(H.oi.lt j hj).1)
 have ha:w8.ownsRow B 3 1 (.slice (some ⟨g8,0,none⟩) (k+1) c8) (l++[x]).length (ints (l++[x])):=by rw[aS,aD2,hl];exact hb
 have hc:=H.gB
 have hd:iX w8 39 g (.bool n) pI (.bool false) pF:=H.bx.keep (b8.block g hc)
 refine⟨b8,hd.set1 _,aHS ha (by show g<_;omega) _,aHS (KE (aH5 (w:=wr.drew) H.jf o) hg (fun q hq hh=>H.ne q hh hq)) (by show g<_;omega) _,?_,?_,?_,hc,H.wg⟩
 ·intro q hq;have hq:g8=q:=by simpa [Value.ownBlock]using hq
  subst hq;rcases hat with e|e
  ·exact H.ne _ e
  ·intro hf;have:=(H.jf.lt _ hf).2;simp at e;omega
 ·exact(H.bl.trans (b8.mono (by have:=H.wg;omega))).setCell (p:=⟨g,1,none⟩) H.wg _
 ·have:=b8.size;have:=H.sz;simp;omega
theorem WO.addF {wr:World}{a:List Int}(H:WO w wr g B n pI pF ⟨n,a,true,l⟩)(hl:l.length=k)(o:Obj)(hb:w8.ownsRow B 3 1 (.slice (some ⟨g8,0,none⟩) (k+1) c8) (k+1) (ints l++[.int .i64 x]))(hg:(wr.drew.alloc o).grownBy w8 pF.ownBlock)(hat:pF.ownBlock=some g8∨g8=(wr.drew.alloc o).heap.size):
  Below B wr w8/\WO w (w8.setCell ⟨g,3,none⟩ (.slice (some ⟨g8,0,none⟩) (k+1) c8)) g B n pI (.slice (some ⟨g8,0,none⟩) (k+1) c8) ⟨n,a,true,l++[x]⟩:=by
 have bd:Below B wr wr.drew:=⟨rfl,rfl,rfl,aD1 _,fun _ _=>rfl⟩
 have b8:Below B wr w8:=(bd.alloc H.sz _).grown hg (by have:=H.sz;simp;omega) (fun j hj=>(H.jf.lt j hj).1)
 have ha:w8.ownsRow B 3 1 (.slice (some ⟨g8,0,none⟩) (k+1) c8) (l++[x]).length (ints (l++[x])):=by rw[aS,aD2,hl];exact hb
 have hc:=H.gB
 have hd:iX w8 39 g (.bool n) pI (.bool true) pF:=H.bx.keep (b8.block g hc)
 refine⟨b8,hd.set3 _,aHS (KE (aH5 (w:=wr.drew) H.oi o) hg (fun q hq hh=>H.ne q hq hh)) (by show g<_;omega) _,aHS ha (by show g<_;omega) _,?_,?_,?_,hc,H.wg⟩
 ·intro q hq hf;have hf:g8=q:=by simpa [Value.ownBlock]using hf
  subst hf;rcases hat with e|e
  ·exact H.ne _ hq e
  ·have:=(H.oi.lt _ hq).2;simp at e;omega
 ·exact(H.bl.trans (b8.mono (by have:=H.wg;omega))).setCell (p:=⟨g,3,none⟩) H.wg _
 ·have:=b8.size;have:=H.sz;simp;omega
set_option maxRecDepth 100000 in
theorem akU (n:Bool)(v:Value)(l:List Int)(w:World)(h:aC w v l)(ha:At l)(hl:l.length<=1000)(h1:oP l):
  Calls prog 175 #[.bool n,v] w fun e w'=>∃vi vf,e=.returned (.tuple #[mT vi vf (aN n l),.int .i64 0])/\aC w' vi (aN n l).int/\aC w' vf (aN n l).frac/\dC w.heap.size vi/\dC w.heap.size vf/\Below w.heap.size w w':=by
 obtain⟨i0,hi,hM,hN,hO⟩:=aHT dI
 obtain⟨W2,hP,s2,z1,z2,hF⟩:∃W2,(w.alloc (Obj.cells #[.bool false,.slice none 0 0,.bool false,.slice none 0 0] 39)).alloc (Obj.cells #[.bool n,.slice none 0 0,.bool false,.slice none 0 0] 39)=W2/\W2.heap.size=w.heap.size+2/\
   iX W2 39 w.heap.size (.bool false) (.slice none 0 0) (.bool false) (.slice none 0 0)/\iX W2 39 (w.heap.size+1) (.bool n) (.slice none 0 0) (.bool false) (.slice none 0 0)/\Below w.heap.size w W2:=by
  refine⟨_,rfl,by simp,(iX.new w _ _ _ _ _).keep (aHR _ _ (by simp)),?_,((Below.refl _ w).alloc (aD1 _) _).alloc (by simp) _⟩
  have:=iX.new (w.alloc (Obj.cells #[.bool false,.slice none 0 0,.bool false,.slice none 0 0] 39)) 39 (.bool n) (.slice none 0 0) (.bool false) (.slice none 0 0)
  simpa using this
 obtain⟨m,hm⟩:∃m,l.length=m:=⟨_,rfl⟩
 obtain⟨A,c,rfl⟩:∃A c,v=.slice A m c:=by obtain⟨A,c,h⟩:=h.form;exact⟨A,c,by rw[h,<-hm]⟩
 have hf:∃(b off:Nat),(0<m->A=some ⟨b,off,none⟩/\b<w.heap.size/\∀j,j<m->w.cell? ⟨b,off+j,none⟩=some (.int .i64 (l.getD j 0))):=by
  by_cases h0:0<m
  ·obtain⟨A',c',he,_,_,hA⟩:=h;injection he with e1 e2 e3
   subst e1;obtain⟨b,off,rfl,hc⟩:=hA (by omega);refine⟨b,off,fun _=>⟨rfl,aHQ w _ (hc 0 (by omega)),fun j hj=>hc j (by omega)⟩⟩
  ·exact⟨0,0,fun h=>absurd h h0⟩
 obtain⟨b,off,hf⟩:=hf
 have HL:=aHL (fun j=>ha.getD j)
 have Ha:=aHL (fun(k:Nat) (hk:k<m) (hx:l.getD k 0=10)=>TX h1 (by omega:k<l.length) hx n)
 have He:=aHL (fun(k:Nat) (hk:k<m)=>(by
  rw[<-aF8 (by omega:k<l.length)];simp[aD9,aEB (by omega:k<l.length)]:l.take (k+1)=l.take k++[l.getD k 0]))
 have HC:=aHL hf
 have Hf:=aHL hm
 have Hg:Hid (l.take m=l):=by show l.take m=l;rw[<-hm];exact aFM
 have HW:=aHL hP
 have HB:=aHL hF
 have HI:Hid (WO w W2 (w.heap.size+1) W2.heap.size n (.slice none 0 0) (.slice none 0 0) (aN n (l.take 0))):=⟨z2,aHN _ _ _ _,aHN _ _ _ _,fun k hk=>by simp[Value.ownBlock]at hk,hF,aD1 _,by omega,by omega⟩
 have Hh:=aHL z1
 rw[hm]at hl
 clear hP z1 z2 hF h ha h1 hf hm
 go_enter func175,ntmps175
 go_wp2_with fail
 rw[HW.out]
 go_loopw [7,8] (fun p i wr=>∃(k:Nat) (q:Int) (pI pF:Value),i=.int .i64 k/\p=.int .i64 q/\k<=m/\0<=q/\q<=1/\Aside ((aN n (l.take k)).sep=decide (q=1))/\Aside (wr.heap[w.heap.size]?=W2.heap[w.heap.size]?)/\Aside (WO w wr (w.heap.size+1) W2.heap.size n pI pF (aN n (l.take k)))) (fun _ i _=>m-(intOf i).toNat)
 case atStart=>exact⟨0,0,_,_,rfl,rfl,by omega,by omega,by omega,rfl,rfl,HI.out⟩
 case round=>
  obtain⟨k,q,pI,pF,rfl,rfl,hk,hQ,hR,HS,HK,HA⟩:=hrel
  by_cases hG:k<m
  ·obtain⟨hA,hW,hv⟩:=HC.out (by omega);subst hA;have c1:wr.cell? ⟨b,off+k,none⟩=some (.int .i64 (l.getD k 0)):=(HA.out.bl.cell (p:=⟨b,off+k,none⟩) hW).trans (hv k hG);obtain⟨x,hx⟩:∃x,l.getD k 0=x:=⟨_,rfl⟩;have hH:=HL.out k;have hn:=He.out k hG;have hg:=Ha.out k hG;rw[hx]at c1 hH hn hg;obtain⟨hH,h3⟩:=hH;have r2:=HA.out.bx.c2;by_cases hI:x=10
   ·subst hI;have hz:=hg rfl;have e2:=aHL (hn ▸ TV hz:aN n (l.take (k+1))=⟨n,l.take k,true,[]⟩);have e3:=aHL (uW hz).1;rw[hz]at r2
    have hq:q=0:=by
     have:=HS.out;rw[hz]at this;have:=aGG this.symm;omega
    subst hq;clear hv hx hn hg hz;have ef:=HA.out.bx.fz;go_wp2;go_roundw
    case rel=>
     have H:=HA.out
     rw[e3.out]at H
     refine⟨k+1,1,pI,pF,by go_num,by go_num,by omega,by omega,by omega,?_,?_,?_⟩
     ·show(aN n (l.take (k+1))).sep=_;rw[e2.out];rfl
     ·exact(Below.heap_setCell _ _ _ _ (by show _≠w.heap.size+1;omega)).trans HK.out
     ·show WO _ _ _ _ _ _ _ _;rw[e2.out];exact⟨H.bx.set2 _,aHS H.oi (by show w.heap.size+1<_;omega) _,aHS H.jf (by show w.heap.size+1<_;omega) _,H.ne,H.bl.setCell (p:=⟨w.heap.size+1,2,none⟩) (by show _<=w.heap.size+1;omega) _,by have:=H.sz;simpa using this,H.gB,H.wg⟩
    case measure=>simp[intOf];omega
   ·have ea:(x ==10)=false:=by simpa using hI
    have hS:¬x<0:=by omega
    have hT:¬10<x:=by omega
    obtain⟨sp,ho⟩:∃s,(aN n (l.take k)).sep=s:=⟨_,rfl⟩;rw[ho]at r2
    cases sp
    ·have e2:=aHL (hn ▸ TW hI ho:aN n (l.take (k+1))=⟨n,l.take k++[x],false,[]⟩);have e3:=aHL (uW ho).1;have r1:=HA.out.bx.c1;have Hi:=aHL hv;have H:=HA.out;rw[e3.out]at H;have la:(l.take k).length=k:=by have:=Hf.out;simp;omega
     have hp:=H.oi;rw[show(⟨n,l.take k,false,[]⟩:Dr).int=l.take k from rfl,la]at hp;have Hb:=aHL hp;have HH:=aHL H;have Hc:=aHL la;have hX:=H.sz;have hB:=H.gB;clear hv hx hn hg ho hS hT hp H la;go_wp2_with fail
     have hY:b<w.heap.size+1:=by omega
     have hs:w.heap.size+1<wr.heap.size:=by omega
     have ra:(wr.drew.alloc (Obj.cells #[.int .i64 x] 3)).cell? ⟨w.heap.size+1,1,none⟩=some pI:=(aHW (a:=⟨w.heap.size+1,1,none⟩) (Below.heap_alloc _ _ _ hs)).trans r1
     go_region_law
      (first|(refine step_append_lies _ rfl _ _ _ rfl W2.heap.size 3 i0 (.int .i64 0) 1 8 underlying22 hi hM hN hO rfl (by decide) pI k (ints (l.take k)) (by simp[Act.eval,Act.put]) (aH5 (w:=wr.drew) Hb.out _) ⟨_,0,none⟩ 1 1 [.int .i64 x] rfl rfl (aHZ _ _ _) (fun u hu=>by simp at hu;subst hu;rfl) (by decide) (by unfold maxLen;omega) (by omega) (by simp;omega) _ rfl ?_
              intro g8 c8 w8 hd hb hh ht
              have X8:=aside (WO.addI HH.out Hc.out _ hd hb hh)
              have e8:w8.cell? ⟨w.heap.size+1,1,none⟩=some pI:=(X8.out.1.cell (p:=⟨w.heap.size+1,1,none⟩) hB).trans r1
              have hJ:w8.frozen? ⟨w.heap.size+1,1,none⟩=false:=(X8.out.1.frozen (p:=⟨w.heap.size+1,1,none⟩) hB).trans (HH.out.bx.fz 1)
              clear hd hb hh ht))
     all_goals
      clear r1 ra c1 e8 hJ
      go_wp2
      refine⟨?_,by simp[intOf];omega⟩
      ·refine⟨k+1,q,(.slice (some ⟨g8,0,none⟩) (k+1) c8),pF,by go_num,rfl,by omega,hQ,hR,?_,?_,?_⟩
       ·show(aN n (l.take (k+1))).sep=_;have:=HS.out;rw[e3.out]at this;rw[e2.out];exact this
       ·exact((Below.heap_setCell _ _ _ _ (by show _≠w.heap.size+1;omega)).trans (X8.out.1.block w.heap.size (by omega))).trans HK.out
       ·show WO _ _ _ _ _ _ _ _;rw[e2.out];exact X8.out.2
    ·have e2:=aHL (hn ▸ P9 ho:aN n (l.take (k+1))=⟨n,(aN n (l.take k)).int,true,(aN n (l.take k)).frac++[x]⟩);have e3:=aHL (T0 ho);obtain⟨SI,hV⟩:∃L,(aN n (l.take k)).int=L:=⟨_,rfl⟩;obtain⟨SF,hK⟩:∃L,(aN n (l.take k)).frac=L:=⟨_,rfl⟩
     have lb:SF.length<=1000:=by
      have:=QI n (l.take k);rw[hK]at this;simp at this;omega
     rw[hV,hK]at e2 e3;clear hV hK;have r1:=HA.out.bx.c3;have Hi:=aHL hv;have H:=HA.out;rw[e3.out]at H;obtain⟨nF,la⟩:∃q,SF.length=q:=⟨_,rfl⟩;rw[la]at lb;have hp:=H.jf;rw[show(⟨n,SI,true,SF⟩:Dr).frac=SF from rfl,la]at hp;have Hb:=aHL hp;have HH:=aHL H;have Hc:=aHL la;have hX:=H.sz;have hB:=H.gB;clear hv hx hn hg ho hS hT hp H la;go_wp2_with fail
     have hY:b<w.heap.size+1:=by omega
     have hs:w.heap.size+1<wr.heap.size:=by omega
     have ra:(wr.drew.alloc (Obj.cells #[.int .i64 x] 3)).cell? ⟨w.heap.size+1,3,none⟩=some pF:=(aHW (a:=⟨w.heap.size+1,3,none⟩) (Below.heap_alloc _ _ _ hs)).trans r1
     go_region_law
      (first|(refine step_append_lies _ rfl _ _ _ rfl W2.heap.size 3 i0 (.int .i64 0) 1 8 underlying22 hi hM hN hO rfl (by decide) pF nF (ints SF) (by simp[Act.eval,Act.put]) (aH5 (w:=wr.drew) Hb.out _) ⟨_,0,none⟩ 1 1 [.int .i64 x] rfl rfl (aHZ _ _ _) (fun u hu=>by simp at hu;subst hu;rfl) (by decide) (by unfold maxLen;omega) (by omega) (by simp;omega) _ rfl ?_
              intro g8 c8 w8 hd hb hh ht
              have X8:=aside (WO.addF HH.out Hc.out _ hd hb hh)
              have e8:w8.cell? ⟨w.heap.size+1,3,none⟩=some pF:=(X8.out.1.cell (p:=⟨w.heap.size+1,3,none⟩) hB).trans r1
              have hJ:w8.frozen? ⟨w.heap.size+1,3,none⟩=false:=(X8.out.1.frozen (p:=⟨w.heap.size+1,3,none⟩) hB).trans (HH.out.bx.fz 3)
              clear hd hb hh ht))
     all_goals
      clear r1 ra c1 e8 hJ
      go_wp2
      refine⟨?_,by simp[intOf];omega⟩
      ·refine⟨k+1,q,pI,(.slice (some ⟨g8,0,none⟩) (nF+1) c8),by go_num,rfl,by omega,hQ,hR,?_,?_,?_⟩
       ·show(aN n (l.take (k+1))).sep=_;have:=HS.out;rw[e3.out]at this;rw[e2.out];exact this
       ·exact((Below.heap_setCell _ _ _ _ (by show _≠w.heap.size+1;omega)).trans (X8.out.1.block w.heap.size (by omega))).trans HK.out
       ·show WO _ _ _ _ _ _ _ _;rw[e2.out];exact X8.out.2
  ·obtain rfl:k=m:=by omega
   have ef:=HA.out.bx;have g0:=ef.c0;have g1:=ef.c1;have g2:=ef.c2;have g3:=ef.c3;have z0:iX wr 39 w.heap.size (.bool false) (.slice none 0 0) (.bool false) (.slice none 0 0):=Hh.out.keep HK.out;have HZ:=aHL z0;have y0:=z0.c0;have y1:=z0.c1;have y2:=z0.c2;have y3:=z0.c3;have yf:=z0.fz;have h4:¬1<q:=by omega
   clear z0 ef;obtain⟨AI,cI,rfl⟩:=bJ HA.out.oi;obtain⟨AF,cF,rfl⟩:=bJ HA.out.jf;obtain⟨D,hD⟩:∃D,aN n (l.take k)=D:=⟨_,rfl⟩;have e9:Hid (aN n l=D):=by show _=_;rw[<-hD,Hg.out]
   have Hd:Aside (WO w wr (w.heap.size+1) W2.heap.size n (.slice AI D.int.length cI) (.slice AF D.frac.length cF) D):=by
    have:=HA.out;rw[hD]at this;exact this
   rw[hD]at g1 g2 g3;clear HA HS hD;obtain⟨nI,hC⟩:∃q,D.int.length=q:=⟨_,rfl⟩;obtain⟨nF,hE⟩:∃q,D.frac.length=q:=⟨_,rfl⟩;obtain⟨ds,hL⟩:∃q,D.sep=q:=⟨_,rfl⟩;rw[hC,hE]at Hd;rw[hC]at g1;rw[hE]at g3;rw[hL]at g2;have Hj:=aHL (And.intro hC (And.intro hE hL));clear hC hE hL;go_wp2;refine aHP (aW (by rfl) _ _ w.heap.size _ _ _ _ _ rfl rfl (HZ.out.setAll _ _ _ _) underlying39 rfl (by kernel_rfl)) rfl ?_;have H:=Hd.out;obtain⟨e1,e2,e3⟩:=Hj.out;have b2:w.heap.size<=W2.heap.size:=by omega
   have h2:D.neg=n:=by rw[<-e9.out];exact fD n l
   rw[e9.out];refine⟨.slice AI nI cI,.slice AF nF cF,by unfold mT;rw[h2,e3];rfl,?_,?_,?_,?_,Below.set4 H.bl (aD1 _) _ _ _ _⟩
   ·exact(aC.of_own (l:=D.int) (by rw[e1];have:=H.oi;rwa[e1]at this)).set4 (B:=W2.heap.size) (eH (by have:=H.oi;rwa[e1]at this) (aD1 _)) (by omega) _ _ _ _
   ·exact(aC.of_own (l:=D.frac) (by rw[e2];have:=H.jf;rwa[e2]at this)).set4 (B:=W2.heap.size) (eH (by have:=H.jf;rwa[e2]at this) (aD1 _)) (by omega) _ _ _ _
   ·intro r hr;have:=(H.oi.lt r hr).1;omega
   ·intro r hr;have:=(H.jf.lt r hr).1;omega
end
set_option maxRecDepth 100000 in
theorem CJ (vi vf va:Value)(d:Dr)(i j:Nat)(al:List Int)(w:World)(h:qF w vi vf d)(hv:aC w va al)(ha:At al)(la:al.length<=100)(hS:i<=j)(hj:j<=(aJ d).length)
  (h1:oP ((aJ d).take i++al++(aJ d).drop j)):
  Calls prog 110 #[mT vi vf d,.int .i64 i,.int .i64 j,va] w fun e w'=>∃vb vc,e=.returned (.tuple #[mT vb vc (aN d.neg ((aJ d).take i++al++(aJ d).drop j)),.int .i64 0])/\
   aC w' vb (aN d.neg ((aJ d).take i++al++(aJ d).drop j)).int/\aC w' vc (aN d.neg ((aJ d).take i++al++(aJ d).drop j)).frac/\dC w.heap.size vb/\dC w.heap.size vc/\Below w.heap.size w w':=by
 obtain⟨i0,hi,ho,hp,hr⟩:=aHT dI
 obtain⟨na,hz⟩:∃n,al.length=n:=⟨_,rfl⟩
 obtain⟨Av,cv,rfl⟩:∃A c,va=.slice A na c:=by obtain⟨A,c,h⟩:=hv.form;exact⟨A,c,by rw[h,<-hz]⟩
 obtain⟨W2,hG,s2,z1,z2,hC⟩:∃W2,(w.alloc (Obj.cells #[.bool d.neg,vi,.bool d.sep,vf] 39)).alloc (Obj.cells #[.bool false,.slice none 0 0,.bool false,.slice none 0 0] 39)=W2/\W2.heap.size=w.heap.size+2/\
   iX W2 39 w.heap.size (.bool d.neg) vi (.bool d.sep) vf/\iX W2 39 (w.heap.size+1) (.bool false) (.slice none 0 0) (.bool false) (.slice none 0 0)/\Below w.heap.size w W2:=by
  refine⟨_,rfl,by simp,(iX.new w _ _ _ _ _).keep (aHR _ _ (by simp)),?_,((Below.refl _ w).alloc (aD1 _) _).alloc (by simp) _⟩
  have:=iX.new (w.alloc (Obj.cells #[.bool d.neg,vi,.bool d.sep,vf] 39)) 39 (.bool false) (.slice none 0 0) (.bool false) (.slice none 0 0)
  simpa using this
 have h2:=h.below hC (aD1 _)
 have hn:∃(b off:Nat),(0<na->Av=some ⟨b,off,none⟩/\b<w.heap.size/\∀j,j<na->w.cell? ⟨b,off+j,none⟩=some (.int .i64 (al.getD j 0))):=by
  by_cases h0:0<na
  ·obtain⟨A',c',he,_,_,hA⟩:=hv;injection he with e1 e2 e3
   subst e1;obtain⟨b,off,rfl,hc⟩:=hA (by omega);refine⟨b,off,fun _=>⟨rfl,aHQ w _ (hc 0 (by omega)),fun j hj=>hc j (by omega)⟩⟩
  ·exact⟨0,0,fun h=>absurd h h0⟩
 obtain⟨b,off,hn⟩:=hn
 have HC:=aHL hn
 have HL:=aHL (fun j=>ha.getD j)
 have HM:=aHL (fun W (hB:Below W2.heap.size W2 W)=>AX vi vf d W (h2.below hB (aD1 _)))
 have HA:=aHL (fun W (hB:Below W2.heap.size W2 W)=>oZ vi vf d W (h2.below hB (aD1 _)))
 have HV:=aHL (fun W (hB:Below W2.heap.size W2 W)=>(hv.below hC (aD1 _)).below hB (aD1 _))
 have hat:=AW h.di h.df
 have hH:=dM d h.li h.lf
 obtain⟨L,hL⟩:∃L,aJ d=L:=⟨_,rfl⟩
 rw[hL]at hat hH h1 hj HA⊢
 obtain⟨N,hN⟩:∃N,L.take i++al++L.drop j=N:=⟨_,rfl⟩
 rw[hN]at h1⊢
 have hI:At N:=by rw[<-hN];exact((hat.take i).append ha).append (hat.drop j)
 have hT:N.length<=200:=by rw[<-hN];simp;omega
 have HF:=aHL (fun X W (k:aC W X N)=>akU d.neg X N W k hI (by omega) h1)
 obtain⟨D,hD⟩:∃D,aN d.neg N=D:=⟨_,rfl⟩
 rw[hD]at HF⊢
 obtain⟨nI,hJ⟩:∃m,D.int.length=m:=⟨_,rfl⟩
 obtain⟨nF,hK⟩:∃m,D.frac.length=m:=⟨_,rfl⟩
 have He:=aHL hJ
 have Hf:=aHL hK
 clear hJ hK hD
 obtain⟨n,li,sp,lf⟩:=d
 simp only[mT]at *
 obtain⟨m,hm⟩:∃m,L.length=m:=⟨_,rfl⟩
 rw[hm]at hH hj HA
 have HW:=aHL hG
 have HZ:=aHL (fun W (hB:Below W2.heap.size W2 W)=>And.intro (z1.below hB (by omega)) (z2.below hB (by omega)))
 have HB:=aHL hC
 have HN:=aHL hN
 have Hc:=aHL hm
 have Ha:=aHL hz
 have q0:=z1.c0
 have q1:=z1.c1
 have q2:=z1.c2
 have q3:=z1.c3
 have g1:¬((i:Int)<0):=by omega
 have g2:¬((j:Int)<(i:Int)):=by omega
 have g3:¬((m:Int)<(j:Int)):=by omega
 have g4:i<=m:=by omega
 have ld:(L.take i).length=i:=by simp;omega
 have Hb:=aHL ld
 obtain⟨nd,lb⟩:∃q,(L.drop j).length=q:=⟨_,rfl⟩
 have hV:nd<=81:=by rw[<-lb];simp;omega
 have Hg:=aHL lb
 rw[hz]at la
 clear hG z1 z2 hC h h2 hv hat hI h1 hN hm hL hz hn ld lb ha
 go_enter func110,ntmps110
 go_wp2_with fail
 rw[HW.out]
 go_wp2_with fail
 refine(HM.out _ (Below.refl _ _)).mono ?_
 rintro e w3 ⟨rfl,b3⟩
 have Z3:=(HZ.out _ b3).1
 clear q0 q1 q2 q3
 have q0:=Z3.c0
 have q1:=Z3.c1
 have q2:=Z3.c2
 have q3:=Z3.c3
 clear Z3
 go_wp2_with fail
 go_loop [11] (fun k=>∃a:Nat,k=.int .i64 a/\a<=na) (fun k=>na-(intOf k).toNat)
 case atStart=>exact⟨0,rfl,aES _⟩
 case round=>
  obtain⟨k,rfl,hk⟩:=hrel
  by_cases hP:k<na
  ·obtain⟨hA,hQ,hM⟩:=HC.out (by omega);subst hA;have c1:w3.cell? ⟨b,off+k,none⟩=some (.int .i64 (al.getD k 0)):=((HB.out.trans (b3.mono (by omega))).cell (p:=⟨b,off+k,none⟩) hQ).trans (hM k hP);obtain⟨x,hx⟩:∃x,al.getD k 0=x:=⟨_,rfl⟩;have hF:=HL.out k;rw[hx]at c1 hF;obtain⟨hF,hW⟩:=hF;clear hM hx;go_wp2;go_round
   case rel=>exact⟨k+1,by go_num,by omega⟩
   case measure=>simp[intOf];omega
  ·obtain rfl:k=na:=by omega
   go_wp2_with fail
   refine(HA.out _ b3).mono ?_;rintro e w5 ⟨v5,rfl,o5,bb⟩;have b5:=b3.trans (bb.mono b3.size);have i5:=aHL (aC.of_own (l:=L) (by rw[Hc.out];exact o5));obtain⟨A5,c5,rfl⟩:=bJ o5
   have hX:m<=c5:=by
    obtain⟨A',c',he,h0,_,_⟩:=i5.out;injection he with e1 e2 e3
    subst e3;have:=Hc.out;omega
   have hE:=b5.size;have jT:=aHL (i5.out.take_ i (by rw[Hc.out];omega));have jD:=aHL (i5.out.drop_ j (by rw[Hc.out];omega));clear o5 bb q0 q1 q2 q3;by_cases hO:c5=j
   ·subst hO
    have jE:Hid (aC w5 (.slice A5 (m-c5) 0) (L.drop c5)):=by
     have q:=jD.out;rw[aD6 rfl,aG5]at q;exact q
    clear jD;have z5:=(HZ.out _ b5).1.c0
    go_wp2_with(first
     |(at_builtin
       refine aM _ rfl _ _ 22 rfl w5.heap.size 3 i0 underlying22 hi ho hp hr (.slice none 0 0) 0 [] (by simp[Act.eval,Act.put]) (aHN _ _ _ _) (.slice A5 i c5) (L.take i) (by simp[Act.eval,Act.put]) jT.out (by rw[Hb.out];omega) (aD1 _) ?_
       intro v6 w6 hg hb
       have X6:Aside (w6.ownsRow w5.heap.size 3 1 v6 i (ints (L.take i))/\Below w5.heap.size w5 w6):=⟨by have:=hg;rw[Hb.out]at this;simpa using this,(Below.refl w5.heap.size w5).grown hb (aD1 _) (fun j hj=>by simp[Value.ownBlock]at hj)⟩
       have hs:=X6.out.2.size
       clear hg hb)
     |(at_builtin
       refine aM _ rfl _ _ 22 rfl w5.heap.size 3 i0 underlying22 hi ho hp hr v6 i (ints (L.take i)) (by simp[Act.eval,Act.put]) X6.out.1 (.slice Av k cv) al (by simp[Act.eval,Act.put]) (HV.out _ (b5.trans (X6.out.2.mono hE))) (by rw[Ha.out];omega) hs ?_
       intro v7 w7 hh hd
       have X7:Aside (w7.ownsRow w5.heap.size 3 1 v7 (i+k) (ints (L.take i++al))/\Below w5.heap.size w5 w7):=⟨by have:=hh;rw[Ha.out]at this;rw[aS];exact this,X6.out.2.grown hd hs (fun j hj=>(X6.out.1.lt j hj).1)⟩
       have ht:=X7.out.2.size
       clear hh hd)
     |(at_builtin
       refine aM _ rfl _ _ 22 rfl w5.heap.size 3 i0 underlying22 hi ho hp hr v7 (i+k) (ints (L.take i++al)) (by simp[Act.eval,Act.put]) X7.out.1 (.slice A5 (m-c5) 0) (L.drop c5) (by simp[Act.eval,Act.put]<;>omega) (jE.out.below X7.out.2 (aD1 _)) (by rw[Hg.out];omega) ht ?_
       intro v8 w8 hl hf
       have X8:Aside (w8.ownsRow w5.heap.size 3 1 v8 N.length (ints N)/\Below w5.heap.size w5 w8):=⟨by
        have e:L.take i++al++L.drop c5=N:=HN.out;rw[<-e,aS,aD2,aD2,Hb.out,Ha.out];exact hl,X7.out.2.grown hf ht (fun j hj=>(X7.out.1.lt j hj).1)⟩
       have z8:=(X8.out.2.cell (p:=⟨w.heap.size,0,none⟩) (by show w.heap.size<_;omega)).trans z5
       clear hl hf))
    refine(HF.out _ w8 (aC.of_own X8.out.1)).mono ?_;rintro e w9 ⟨vd,ve,rfl,i9,j9,f9,g9,ba⟩;obtain⟨A9,c9,h9⟩:=i9.form;obtain⟨B9,d9,k9⟩:=j9.form;rw[He.out]at h9;rw[Hf.out]at k9;subst h9 k9;have hR:=X8.out.2.size;have b9:Below W2.heap.size W2 w9:=(b5.trans (X8.out.2.mono hE)).trans (ba.mono (by omega));have Z9:=(HZ.out _ b9).2;have e0:=Z9.c0;have e1:=Z9.c1;have e2:=Z9.c2;have e3:=Z9.c3;have ef:=Z9.fz;have Hd:=aHL Z9;have G:=aHL (And.intro (And.intro i9 f9) (And.intro (And.intro j9 g9) b9));clear Z9 i9 j9 f9 g9 b9 ba;go_wp2;refine aHP (aW (by rfl) _ _ (w.heap.size+1) _ _ _ _ _ rfl rfl (Hd.out.setAll _ _ _ _) underlying39 rfl (by kernel_rfl)) rfl ?_;obtain⟨⟨i9,f9⟩,⟨j9,g9⟩,b9⟩:=G.out;exact⟨_,_,rfl,i9.set4 f9 (by omega) _ _ _ _,j9.set4 g9 (by omega) _ _ _ _,fun q hq=>by have:=f9 q hq;omega,fun q hq=>by have:=g9 q hq;omega,Below.set4 (HB.out.trans (b9.mono (by omega))) (by omega) _ _ _ _⟩
   ·have jE:Hid (aC w5 (.slice (A5.map (·.add j)) (m-j) (c5-j)) (L.drop j)):=by
     have q:=jD.out;rw[aD4 hO]at q;exact q
    clear jD;have z5:=(HZ.out _ b5).1.c0
    go_wp2_with(first
     |(at_builtin
       refine aM _ rfl _ _ 22 rfl w5.heap.size 3 i0 underlying22 hi ho hp hr (.slice none 0 0) 0 [] (by simp[Act.eval,Act.put]) (aHN _ _ _ _) (.slice A5 i c5) (L.take i) (by simp[Act.eval,Act.put]) jT.out (by rw[Hb.out];omega) (aD1 _) ?_
       intro v6 w6 hg hb
       have X6:Aside (w6.ownsRow w5.heap.size 3 1 v6 i (ints (L.take i))/\Below w5.heap.size w5 w6):=⟨by have:=hg;rw[Hb.out]at this;simpa using this,(Below.refl w5.heap.size w5).grown hb (aD1 _) (fun j hj=>by simp[Value.ownBlock]at hj)⟩
       have hs:=X6.out.2.size
       clear hg hb)
     |(at_builtin
       refine aM _ rfl _ _ 22 rfl w5.heap.size 3 i0 underlying22 hi ho hp hr v6 i (ints (L.take i)) (by simp[Act.eval,Act.put]) X6.out.1 (.slice Av k cv) al (by simp[Act.eval,Act.put]) (HV.out _ (b5.trans (X6.out.2.mono hE))) (by rw[Ha.out];omega) hs ?_
       intro v7 w7 hh hd
       have X7:Aside (w7.ownsRow w5.heap.size 3 1 v7 (i+k) (ints (L.take i++al))/\Below w5.heap.size w5 w7):=⟨by have:=hh;rw[Ha.out]at this;rw[aS];exact this,X6.out.2.grown hd hs (fun j hj=>(X6.out.1.lt j hj).1)⟩
       have ht:=X7.out.2.size
       clear hh hd)
     |(at_builtin
       refine aM _ rfl _ _ 22 rfl w5.heap.size 3 i0 underlying22 hi ho hp hr v7 (i+k) (ints (L.take i++al)) (by simp[Act.eval,Act.put]) X7.out.1 (.slice (A5.map (·.add j)) (m-j) (c5-j)) (L.drop j) (by simp[Act.eval,Act.put]) (jE.out.below X7.out.2 (aD1 _)) (by rw[Hg.out];omega) ht ?_
       intro v8 w8 hl hf
       have X8:Aside (w8.ownsRow w5.heap.size 3 1 v8 N.length (ints N)/\Below w5.heap.size w5 w8):=⟨by
        have e:L.take i++al++L.drop j=N:=HN.out;rw[<-e,aS,aD2,aD2,Hb.out,Ha.out];exact hl,X7.out.2.grown hf ht (fun j hj=>(X7.out.1.lt j hj).1)⟩
       have z8:=(X8.out.2.cell (p:=⟨w.heap.size,0,none⟩) (by show w.heap.size<_;omega)).trans z5
       clear hl hf))
    refine(HF.out _ w8 (aC.of_own X8.out.1)).mono ?_;rintro e w9 ⟨vd,ve,rfl,i9,j9,f9,g9,ba⟩;obtain⟨A9,c9,h9⟩:=i9.form;obtain⟨B9,d9,k9⟩:=j9.form;rw[He.out]at h9;rw[Hf.out]at k9;subst h9 k9;have hR:=X8.out.2.size;have b9:Below W2.heap.size W2 w9:=(b5.trans (X8.out.2.mono hE)).trans (ba.mono (by omega));have Z9:=(HZ.out _ b9).2;have e0:=Z9.c0;have e1:=Z9.c1;have e2:=Z9.c2;have e3:=Z9.c3;have ef:=Z9.fz;have Hd:=aHL Z9;have G:=aHL (And.intro (And.intro i9 f9) (And.intro (And.intro j9 g9) b9));clear Z9 i9 j9 f9 g9 b9 ba;go_wp2;refine aHP (aW (by rfl) _ _ (w.heap.size+1) _ _ _ _ _ rfl rfl (Hd.out.setAll _ _ _ _) underlying39 rfl (by kernel_rfl)) rfl ?_;obtain⟨⟨i9,f9⟩,⟨j9,g9⟩,b9⟩:=G.out;exact⟨_,_,rfl,i9.set4 f9 (by omega) _ _ _ _,j9.set4 g9 (by omega) _ _ _ _,fun q hq=>by have:=f9 q hq;omega,fun q hq=>by have:=g9 q hq;omega,Below.set4 (HB.out.trans (b9.mono (by omega))) (by omega) _ _ _ _⟩
section
variable {l:List Int}
theorem Dg.wideL (h:Dg l)(n:Nat):Dg (wideL l n):=by
 intro d hd;rcases aEQ.1 hd with hd|hd
 ·obtain rfl:=List.eq_of_mem_replicate hd;omega
 ·exact h d hd
theorem Dg.drop' (h:Dg l)(n:Nat):Dg (l.drop n):=fun d hd=>h d (aGI hd)
theorem afO (l:List Int)(n:Nat):num (wideL l n)=num l:=by
 unfold wideL;rw[kK,AJ];omega
theorem afP (t:Dc):num (eP t++mH t)=num t.l:=by
 unfold eP mH;rw[kK,mF,<-kK,aFD,afO]
theorem QK {t:Dc}(h:Dg t.l):Dg (eP t):=((h.wideL t.s).take _).trim
theorem akW {t:Dc}(h:Dg t.l):Dg (mH t):=(h.wideL t.s).drop' _
theorem QL (t:Dc):(mH t).length=t.s:=by
 unfold mH;rw[aF7,kR];omega
theorem akX (x:Dc)(k:Nat):(frF x k).length=max (aL x).s k:=by
 unfold frF;rw[aD2,aF5,QL];omega
theorem akY (x:Dc)(m:Nat):(frI x m).length=max (eP (aL x)).length m:=by
 unfold frI;rw[aD2,aF5];omega
theorem akZ {x:Dc}(h:Dg x.l)(m k:Nat):Dg (iP x m k).int/\Dg (iP x m k).frac:=by
 have ht:=iL x h;have h1:Dg (frI x m):=(Dg.replicate _).append (QK ht);have h2:Dg (frF x k):=(akW ht).append (Dg.replicate _);refine⟨?_,h2⟩;show Dg (if _ then _ else _);split
 ·exact Dg.replicate 1
 ·exact h1
theorem afQ (x:Dc)(m k:Nat):(iP x m k).int.length<=max 1 (max (eP (aL x)).length m)/\(iP x m k).frac.length=max (aL x).s k:=by
 refine⟨?_,akX x k⟩;show(if _ then _ else _:List Int).length<=_;split
 ·simp;omega
 ·rw[akY];omega
theorem ak0 (x:Dc)(m k:Nat):(iP x m k).sep=true∨(iP x m k).frac=[]:=by
 show decide (0<(frF x k).length)=true∨frF x k=[]
 cases h:frF x k with
 |nil=>exact .inr rfl
 |cons a l=>exact .inl (by simp)
end
section
open Go.RowKit Go.Sym Go.Proofs.Tryz
theorem GD:∃i,prog.info? 119=some i/\i.zero=some (.agg #[.int .i64 0,sB [],.int .i64 0])/\i.size=3/\i.bytes=32:=by
 have h:(prog.info? 119).map (fun i=>(i.zero,i.size,i.bytes))=some (some (.agg #[.int .i64 0,sB [],.int .i64 0]),3,32):=by kernel_rfl
 cases hx:prog.info? 119 with
 |none=>rw[hx]at h;cases h
 |some i=>
  rw[hx]at h
  simp only[aFH,Option.some.injEq,Prod.mk.injEq]at h
  exact⟨i,rfl,h.1,h.2.1,h.2.2⟩
theorem zJ (w:World)(a b:Int)(x:List UInt8):∀j u,(F6 (a,x,b))[j]?=some u->
  (w.alloc (Obj.cells #[.int .i64 a,.string ⟨x.toArray⟩,.int .i64 b] 119)).cell? ((⟨w.heap.size,0,none⟩:Addr).add j)=some u:=
 World.news_of_block (cs:=#[.int .i64 a,.string ⟨x.toArray⟩,.int .i64 b]) (t:=119) (fr:=(0,0)) (aHO w _)
def IM (r:Rc)(pv sv nv mv:Value)(p q mi mf xf:Int):Value:= .agg #[.string ⟨r.nm.toArray⟩,.string ⟨r.pat.toArray⟩,.string ⟨r.sys.toArray⟩,.string ⟨r.dec.toArray⟩,.string ⟨r.grp.toArray⟩,.string ⟨r.mns.toArray⟩,.string ⟨r.pct.toArray⟩,.string ⟨r.cur.toArray⟩,pv,sv,nv,mv,.int .i64 p,.int .i64 q,.int .i64 mi,.int .i64 mf,.int .i64 xf]
set_option maxRecDepth 100000 in
theorem TY (r:Rc)(pv sv nv mv:Value)(p q mi mf xf:Int)(v:Value)(ts:List (List UInt8))(w:World)(h:eI w v ts)(hn:ts.length<=1000):
  Calls prog 84 #[IM r pv sv nv mv p q mi mf xf,v] w fun e w'=>∃v',e=.returned v'/\w'.ownsRow w.heap.size 119 3 v' ts.length (eV (cU ts))/\Below w.heap.size w w':=by
 obtain⟨i0,hi,hp,hq,hr⟩:=GD
 obtain⟨m,hm⟩:∃m,ts.length=m:=⟨_,rfl⟩
 obtain⟨A,c,rfl,ht,hz,hA⟩:=h
 rw[hm]at ht hA hn⊢
 obtain⟨b,off,hb⟩:∃(b off:Nat),(0<m->A=some ⟨b,off,none⟩/\b<w.heap.size/\∀j,j<m->w.cell? ⟨b,off+j*2,none⟩=some (.bool false)/\w.cell? ⟨b,off+j*2+1,none⟩=some (sB (ts.getD j []))):=by
  by_cases h0:0<m
  ·obtain⟨b,off,rfl,hc⟩:=hA h0;exact⟨b,off,fun _=>⟨rfl,aHQ w _ (hc 0 h0).1,hc⟩⟩
  ·exact⟨0,0,fun h=>absurd h h0⟩
 have HC:=aHL hb
 have HM:=aHL hm
 have HT:Hid (ts.take m=ts):=by show ts.take m=ts;rw[<-hm];exact aFM
 have HS:=aHL (fun k (hk:k<m)=>J6 ts k (by omega))
 clear hA hb hm
 unfold IM
 go_enter func84,ntmps84
 go_wp2_with fail
 obtain⟨W1,hl,hB1⟩:∃W1,w.alloc _=W1/\Below w.heap.size w W1:=⟨_,rfl,(Below.refl _ w).alloc (aD1 _) _⟩
 rw[hl]
 clear hl
 go_loopw [5,6] (fun v i wr=>∃(k:Nat) (pv:Value),i=.int .i64 k/\pv=v/\k<=m/\Aside (wr.ownsRow w.heap.size 119 3 pv k (eV (cU (ts.take k)))/\Below w.heap.size w wr)) (fun _ i _=>m-(intOf i).toNat)
 case atStart=>exact⟨0,_,rfl,rfl,by omega,aHN _ _ _ _,hB1⟩
 case round=>
  obtain⟨k,pv,rfl,rfl,hk,HA⟩:=hrel
  by_cases hg:k<m
  ·obtain⟨hA,ho,hh⟩:=HC.out (by omega);subst hA;have c1:wr.cell? ⟨b,off+k*2,none⟩=some (.bool false):=(HA.out.2.cell (p:=⟨b,off+k*2,none⟩) ho).trans (hh k hg).1;have c2:wr.cell? ⟨b,off+k*2+1,none⟩=some (sB (ts.getD k [])):=(HA.out.2.cell (p:=⟨b,off+k*2+1,none⟩) ho).trans (hh k hg).2;obtain⟨x,hx⟩:∃x,ts.getD k []=x:=⟨_,rfl⟩;have hs:=HS.out k hg;rw[hx]at c2 hs;unfold sB at c2;have Ha:=aHL hs;have hv:=HA.out.2.size;clear hh hx hs
   go_wp2_with(first
    |(at_builtin
      refine aHU _ rfl _ _ 116 rfl w.heap.size 119 i0 (.agg #[.int .i64 0,sB [],.int .i64 0]) 3 32 underlying116 hi hp hq hr rfl (by decide) pv k (eV (cU (ts.take k))) (by simp[Act.eval,Act.put]) (HA.out.1.alloc _) ⟨wr.heap.size,0,none⟩ 1 1 (F6 (0,x,-1)) (by simp[Act.eval,Act.put]) rfl (zJ wr 0 (-1) x) (oY _) (by unfold maxLen;omega) (by omega) (by simp;omega) ?_
      intro v8 w8 hd ha hf
      have X8:Aside (w8.ownsRow w.heap.size 119 3 v8 (k+1) (eV (cU (ts.take (k+1))))/\Below w.heap.size w w8):=⟨by rw[Ha.out,kU];simpa [eV]using hd,(HA.out.2.alloc hv _).grown ha (by simp;omega) (fun j hj=>by have:=(HA.out.1.lt j hj).1;omega)⟩
      clear hd ha hf))
   go_roundw
   case rel=>exact⟨k+1,_,by go_num,rfl,by omega,X8.out⟩
   case measure=>simp[intOf];omega
  ·obtain rfl:k=m:=by omega
   go_wp2;go_ret;refine⟨_,rfl,?_,HA.out.2⟩;have:=HA.out.1;rwa[HT.out]at this
end
section
open Go.RowKit Go.Sym Go.Proofs.Tryz
variable {w w' W1:World}{pv vb v5:Value}{l:List Int}{bh:List (List UInt8)}{q:Nat}{its:List It}
structure RLc (w:World) (r:Rc) (pv sv nv mv:Value) (mi mf xf:Int) (L:Lc):Prop where
 arn:∀W,Below w.heap.size w W->Calls prog 47 #[IM r pv sv nv mv L.p L.q mi mf xf,.bool false] W fun e w'=>∃va vb,e=.returned (.tuple #[va,vb])/\eI w' va L.ahead/\eI w' vb L.behind/\Below W.heap.size W w'
 dig:∀(W:World) (d:Int),0<=d->d<=9->Calls prog 85 #[.string ⟨r.sys.toArray⟩,.int .i64 d] W fun e w'=>e=.returned (.string ⟨(L.dig d).toArray⟩)/\Below W.heap.size W w'
 dec:L.dec=r.dec
 grp:L.grp=r.grp
 bd:0<=L.p/\L.p<=1000/\0<=L.q/\L.q<=1000/\L.ahead.length<=100/\L.behind.length<=100
theorem RLc.below {W:World}{r:Rc}{sv nv mv:Value}{mi mf xf:Int}{L:Lc}(h:RLc w r pv sv nv mv mi mf xf L)(hb:Below w.heap.size w W):RLc W r pv sv nv mv mi mf xf L:=
 ⟨fun W' h'=>h.arn W' (hb.trans (h'.mono hb.size)),h.dig,h.dec,h.grp,h.bd⟩
theorem aC.grown {v:Value}{row:Option Nat}(h:aC w v l)(hg:w.grownBy w' row)(hr:0<l.length->∀k,v.ownBlock=some k->row≠some k):aC w' v l:=by
 obtain⟨A,c,rfl,h1,h2,h3⟩:=h;refine⟨A,c,rfl,h1,h2,fun hp=>?_⟩;obtain⟨b,off,rfl,hc⟩:=h3 hp;exact⟨b,off,rfl,fun j hj=>(aHW (a:=⟨b,off+j,none⟩) (hg.block b (aHQ w _ (hc j hj)) (fun e=>hr hp b (by simp[Value.ownBlock]) e.symm))).trans (hc j hj)⟩
theorem aC.at_slot {b o n c:Nat}(h:aC w (.slice (some ⟨b,o,none⟩) n c) l)(k:Nat)(hk:k<l.length):w.cell? ⟨b,o+k,none⟩=some (.int .i64 (l.getD k 0)):=by
 obtain⟨A,c',he,_,_,hc⟩:=h;injection he with e1
 obtain⟨b',o',e,hc⟩:=hc (by omega);rw[e]at e1;injection e1 with e1
 injection e1 with e2 e3
 subst e2 e3;exact hc k hk
structure ItR (W1 w:World) (pv vb v5:Value) (bh:List (List UInt8)) (l:List Int) (q:Nat) (its:List It):Prop where
 s:CG 119 W1 w pv vb bh q its
 ne:0<bh.length->∀k,vb.ownBlock=some k->pv.ownBlock≠some k
 ii:aC w v5 l
 ni:0<l.length->∀k,v5.ownBlock=some k->pv.ownBlock≠some k
theorem ItR.below (h:ItR W1 w pv vb v5 bh l q its)(hb:Below w.heap.size w w'):ItR W1 w' pv vb v5 bh l q its:=
 ⟨h.s.below hb,h.ne,h.ii.below hb (aD1 _),h.ni⟩
theorem ItR.step {g8 c8:Nat}{x:It}(h:Aside (ItR W1 w pv vb v5 bh l q its))(o:Obj)(ha:w'.ownsRow W1.heap.size 119 3 (.slice (some ⟨g8,0,none⟩) (q+1) c8) (q+1) (eV its++F6 x))(hg:(w.alloc o).grownBy w' pv.ownBlock)(hat:pv.ownBlock=some g8∨g8=(w.alloc o).heap.size):
  Aside (ItR W1 w' (.slice (some ⟨g8,0,none⟩) (q+1) c8) vb v5 bh l (q+1) (its++[x])):=by
 obtain⟨h1,h2⟩:=CG.step (aside (And.intro h.out.s h.out.ne)) o ha hg hat
 refine⟨h1,h2,(h.out.ii.alloc o).grown hg h.out.ni,fun hp k hk e=>?_⟩
 rcases WI hat (show w.heap.size<=(w.alloc o).heap.size by simp) k e with h3|h3
 ·exact h.out.ni hp k hk h3
 ·obtain⟨A,c,rfl,_,_,hc⟩:=h.out.ii;obtain⟨b,off,rfl,hd⟩:=hc hp;have h4:=aHQ w _ (hd 0 hp);have h5:b=k:=by simpa [Value.ownBlock]using hk
  have h6:b<w.heap.size:=h4;omega
set_option maxRecDepth 100000 in
theorem GG (r:Rc)(pv sv nv mv:Value)(mi mf xf:Int)(L:Lc)(vi vf:Value)(d:Dr)(w:World)(h:RLc w r pv sv nv mv mi mf xf L)(hd:qF w vi vf d)(hn:d.neg=false):
  Calls prog 46 #[IM r pv sv nv mv L.p L.q mi mf xf,mT vi vf d] w fun e w'=>∃v',e=.returned v'/\w'.ownsRow w.heap.size 119 3 v' (bC L d).length (eV (bC L d))/\Below w.heap.size w w':=by
 obtain⟨i0,hi,hD,hE,hF⟩:=GD
 rw[aaB L d hd.di hd.df hd.sp]
 have hat:=AW hd.di hd.df
 have hX:=dM d hd.li hd.lf
 obtain⟨p0,p1,q0,q1,la,lb⟩:=h.bd
 have hY:=h.grp
 have h0:=h.dec
 have h3:=h.dig
 have hin:=hd.li
 obtain⟨n,hG⟩:∃q,d.int.length=q:=⟨_,rfl⟩
 obtain⟨l,hJ⟩:∃q,aJ d=q:=⟨_,rfl⟩
 obtain⟨m,hK⟩:∃q,l.length=q:=⟨_,rfl⟩
 rw[hG]at hin⊢
 rw[hJ]at hat hX⊢
 rw[hK]at hX⊢
 obtain⟨Ai,ci,hL⟩:=hd.ii.form
 have hM:=fun W (hB:Below w.heap.size w W)=>oZ vi vf d W (hd.below hB (aD1 _))
 rw[hJ]at hM
 obtain⟨neg,li,sp,lf⟩:=d
 simp only at hn hG hL
 subst hn
 rw[hG]at hL
 subst hL
 have hz:=fun v ts W hp hl=>TY r pv sv nv mv L.p L.q mi mf xf v ts W hp hl
 have hA:=h.arn
 unfold IM at hz hA⊢
 obtain⟨P,hP⟩:∃q,L.p=q:=⟨_,rfl⟩
 obtain⟨Q,hQ⟩:∃q,L.q=q:=⟨_,rfl⟩
 rw[hP,hQ]at hz hA⊢
 rw[hP]at p0 p1
 rw[hQ]at q0 q1
 obtain⟨CS,hH⟩:∃CS,(#[.string ⟨r.nm.toArray⟩,.string ⟨r.pat.toArray⟩,.string ⟨r.sys.toArray⟩,.string ⟨r.dec.toArray⟩,.string ⟨r.grp.toArray⟩,.string ⟨r.mns.toArray⟩,.string ⟨r.pct.toArray⟩,.string ⟨r.cur.toArray⟩,pv,sv,nv,mv,.int .i64 P,.int .i64 Q,.int .i64 mi,.int .i64 mf,.int .i64 xf]:Array Value)=CS:=⟨_,rfl⟩
 rw[hH]at hz hA⊢
 have h4:(prog.info? 30).map (·.size)=some CS.size:=by rw[<-hH];kernel_rfl
 obtain⟨W1,h5,hs1,z1,z2,hI⟩:∃W1,(w.alloc (Obj.cells CS 30)).alloc (Obj.cells #[.bool false,.slice Ai n ci,.bool sp,vf] 39)=W1/\W1.heap.size=w.heap.size+2/\
   W1.heap[w.heap.size]?=some (Obj.cells CS 30 (0,0))/\W1.heap[w.heap.size+1]?=some (Obj.cells #[.bool false,.slice Ai n ci,.bool sp,vf] 39 (0,0))/\Below w.heap.size w W1:=by
  refine⟨_,rfl,by simp,(aHR _ _ (by simp)).trans (aHO w _),?_,((Below.refl _ w).alloc (aD1 _) _).alloc (by simp) _⟩
  have:=aHO (w.alloc (Obj.cells CS 30)) (Obj.cells #[.bool false,.slice Ai n ci,.bool sp,vf] 39)
  simpa using this
 have HA1:=aHL (fun W (hB:Below W1.heap.size W1 W)=>hA W (hI.trans (hB.mono (by omega))))
 have Ha:=aHL (fun W (hB:Below W1.heap.size W1 W)=>hM W (hI.trans (hB.mono (by omega))))
 have Hf:=aHL hz
 have HB:=aHL hI
 have HW:=aHL h5
 have HC:=aHL (fun W (hB:Below W1.heap.size W1 W)=>(hB.block w.heap.size (by omega)).trans z1)
 have HL:=aHL (fun W (hB:Below W1.heap.size W1 W)=>(show W.cell? ⟨w.heap.size,2,none⟩=some (.string ⟨r.sys.toArray⟩)/\W.cell? ⟨w.heap.size,3,none⟩=some (.string ⟨r.dec.toArray⟩)/\W.cell? ⟨w.heap.size,4,none⟩=some (.string ⟨r.grp.toArray⟩)/\W.cell? ⟨w.heap.size,12,none⟩=some (.int .i64 P)/\W.cell? ⟨w.heap.size,13,none⟩=some (.int .i64 Q) by
  have hb:=(hB.block w.heap.size (by omega)).trans z1;subst hH;exact⟨aHM W _ 2 _ _ _ hb,aHM W _ 3 _ _ _ hb,aHM W _ 4 _ _ _ hb,aHM W _ 12 _ _ _ hb,aHM W _ 13 _ _ _ hb⟩))
 have HD:=aHL (fun W (hB:Below W1.heap.size W1 W)=>(show W.cell? ⟨w.heap.size+1,0,none⟩=some (.bool false)/\W.cell? ⟨w.heap.size+1,1,none⟩=some (.slice Ai n ci)/\W.cell? ⟨w.heap.size+1,2,none⟩=some (.bool sp)/\W.cell? ⟨w.heap.size+1,3,none⟩=some vf by
  have hb:=(hB.block (w.heap.size+1) (by omega)).trans z2;exact⟨aHM W _ 0 _ _ _ hb,aHM W _ 1 _ _ _ hb,aHM W _ 2 _ _ _ hb,aHM W _ 3 _ _ _ hb⟩))
 have HDg:=aHL h3
 have HGR:=aHL hY
 have HDE:=aHL h0
 have HAT:=aHL hat
 have HM:=aHL hK
 have HP:=aHL hP
 have HQ:=aHL hQ
 obtain⟨na,hN⟩:∃q,L.ahead.length=q:=⟨_,rfl⟩
 obtain⟨nb,hO⟩:∃q,L.behind.length=q:=⟨_,rfl⟩
 have Hb:=aHL hN
 have Hc:=aHL hO
 rw[hN]at la
 rw[hO]at lb
 have HZ:=aHL h4
 clear h hd hM hI h5 z1 z2 h3 hY h0 hat hK hP hQ hN hO hJ hG hz hA hH h4
 unfold mT at Ha⊢
 simp only at Ha⊢
 go_enter func46,ntmps46
 go_upto_region 1 with(fail)
 rw[HW.out]
 obtain⟨f0,f1,f2,f3⟩:=HD.out W1 (Below.refl _ _)
 go_wp2_with(first
  |refine aHX rfl 30 _ rfl w.heap.size rfl 30 CS (0,0) _ (HC.out W1 (Below.refl _ _)) underlying30 rfl HZ.out ?_
  |fail)
 refine(HA1.out W1 (Below.refl _ _)).mono ?_
 rintro e w2 ⟨va,vb,rfl,ha,hb,b2⟩
 clear f0 f1 f2 f3
 go_wp2_with(refine aHX rfl 30 _ rfl w.heap.size rfl 30 CS (0,0) _ (HC.out w2 b2) underlying30 rfl HZ.out ?_)
 refine(Hf.out va L.ahead w2 ha (by rw[Hb.out];omega)).mono ?_
 rintro e w4 ⟨v4,rfl,o4,ba⟩
 have b4:=b2.trans (ba.mono b2.size)
 have h6:=hb.below ba (aD1 _)
 have hs4:=b4.size
 obtain⟨f0,f1,f2,f3⟩:=HD.out w4 b4
 have Hg:=Ha.out w4 b4
 have O4:Aside (CG 119 W1 w4 v4 vb L.behind na (cU L.ahead)/\(0<L.behind.length->∀k,vb.ownBlock=some k->v4.ownBlock≠some k)):=by
  have hx:=eZ (B':=W1.heap.size) o4 b2.size;rw[Hb.out]at hx;refine⟨⟨hx,by rw[gL,Hb.out],b4,h6⟩,fun hp k hk e=>?_⟩;have h1:=(o4.lt k e).1;have h2:=F8 hb k hk hp;omega
 clear ha hb b2 o4 ba h6 b4
 go_wp2_with fail
 refine Hg.mono ?_
 rintro e w5 ⟨v5,rfl,o5,b5⟩
 have hs5:=b5.size
 have O5:Aside (ItR W1 w5 v4 vb v5 L.behind l na (cU L.ahead)):=by
  refine⟨O4.out.1.below b5,O4.out.2,aC.of_own (by rw[HM.out];rw[HM.out]at o5;exact o5),fun hp k hk e=>?_⟩;have h1:=(o5.lt k hk).1;have h2:=(O4.out.1.own.lt k e).2;omega
 obtain⟨A5,c5,b5',off5,hv5,HCe⟩:=sJ O5.out.ii HM.out
 subst hv5
 clear o5 Hg O4 f0 f1 f2 f3 b5
 go_wp2_with fail
 go_loopw [7,9] (fun v i wr=>∃(k q:Nat) (pv:Value),i=.int .i64 k/\pv=v/\k<=m/\q<=100+2*k/\Aside (ItR W1 wr pv vb (.slice A5 m c5) L.behind l q (cU L.ahead++pK L n l k))) (fun _ i _=>m-(intOf i).toNat)
 case atStart=>exact⟨0,na,_,rfl,rfl,by omega,by omega,by show ItR _ _ _ _ _ _ _ _ (cU L.ahead++[]);rw[aET];exact O5.out⟩
 case round=>
  obtain⟨k,q,pv,rfl,rfl,hk,hq,HA⟩:=hrel
  have h7:=HL.out wr HA.out.s.bl
  have hws:=HA.out.s.bl.size
  by_cases h8:k<m
  ·obtain⟨b5,o5,hA5,h9⟩:∃b o,A5=some ⟨b,o,none⟩/\∀j,j<m->wr.cell? ⟨b,o+j,none⟩=some (.int .i64 (l.getD j 0)):=by
    obtain⟨A,c,he,_,_,hc⟩:=HA.out.ii;injection he with e1
    subst e1;obtain⟨b,o,e,hc⟩:=hc (by rw[HM.out];omega);exact⟨b,o,e,fun j hj=>hc j (by rw[HM.out];exact hj)⟩
   subst hA5;obtain⟨x,hx⟩:∃x,l.getD k 0=x:=⟨_,rfl⟩;have ca:wr.cell? ⟨b5,o5+k,none⟩=some (.int .i64 x):=by rw[<-hx];exact h9 k h8
   have hR:0<=x/\x<=10:=by
    rw[<-hx];exact HAT.out.getD k
   obtain⟨hR,hx1⟩:=hR;have HX:=aHL hx;obtain⟨g2,g3,g4,g12,g13⟩:=h7;clear h9 hx;by_cases hS:x=10
   ·subst hS
    have HIT:Hid (cU L.ahead++pK L n l (k+1)=cU L.ahead++pK L n l k++[(4,r.dec,(k:Int))]):=by
     show _=_;rw[<-HDE.out,aEF];show _++(pK L n l k++vT L n (l.getD k 0) k)=_;rw[HX.out];rfl
    go_wp2_with(first
     |(at_builtin
       refine wpList_append_lies _ rfl _ _ 116 rfl W1.heap.size 119 i0 (.agg #[.int .i64 0,sB [],.int .i64 0]) 3 32 underlying116 hi hD hE hF rfl (by decide) pv q (eV (cU L.ahead++pK L n l k)) (by simp[Act.eval,Act.put]) (HA.out.s.own.alloc _) ⟨wr.heap.size,0,none⟩ 1 1 (F6 (4,r.dec,(k:Int))) (by simp[Act.eval,Act.put]) rfl (zJ _ _ _ _) (oY _) (by decide) (by unfold maxLen;omega) (by omega) (by simp;omega) _ rfl ?_
       intro g8 c8 w8 hg hf hh hv
       have X8:=ItR.step HA _ hg hf hh
       clear hg hf hh hv))
    go_roundw
    case rel=>exact⟨k+1,q+1,_,by go_num,rfl,by omega,by omega,by rw[HIT.out];exact X8⟩
    case measure=>simp[intOf];omega
   ·obtain⟨b,hb⟩:∃b,sR ((n:Int)-1-k) L.p L.q=b:=⟨_,rfl⟩;obtain⟨dx,hT⟩:∃u,L.dig x=u:=⟨_,rfl⟩
    have HIT:Hid (cU L.ahead++pK L n l (k+1)=cU L.ahead++pK L n l k++((2,dx,(k:Int))::(if b=true then [(3,r.grp,-1)]else []))):=by
     show _=_;rw[aEF];show _++(pK L n l k++vT L n (l.getD k 0) k)=_;rw[HX.out];unfold vT;rw[aD4 hS,hb,hT,HGR.out]
    have Hd:=HDg.out wr.drew x hR (by omega);rw[hT]at Hd;have HDX:=aHL Hd;have He:=aHL (fun W=>Z0 ((n:Int)-1-k) P Q W (by omega) (by omega) p0 (by omega) q0 (by omega));rw[HP.out,HQ.out]at hb;rw[hb]at He;have hi0:(0:Int)<=(k:Int):=Int.natCast_nonneg _;have hi1:(k:Int)<(m:Int):=by omega
    have hw1:IntKind.i64.wrap ((n:Int)-1)=(n:Int)-1:=aR _ (by omega) (by omega);have hw2:IntKind.i64.wrap ((n:Int)-1-(k:Int))=(n:Int)-1-(k:Int):=aR _ (by omega) (by omega);have hbw:b5<wr.heap.size:=aHQ wr _ ca;have hx10:(x ==10)=false:=by simpa using hS
    clear Hd hT hb g3 g4 g12 g13;go_wp2_with fail
    go_region_held3 (fun w'=>w'.cell? ⟨w.heap.size,2,none⟩=some (.string ⟨r.sys.toArray⟩)/\w'.cell? ⟨b5,o5+k,none⟩=some (.int .i64 x))
     (first
       |go_keep
       |exact⟨(HL.out w6 X6.out.s.bl).1,(b6.cell (p:=⟨b5,o5+k,none⟩) hbw).trans ca⟩
       |exact⟨s8',c8'⟩
       |fail)
     (first
       |(go_at_call 85
         refine HDX.out.mono ?_
         rintro e w6 ⟨rfl,b6'⟩
         have b6:Below wr.heap.size wr w6:=(kQ wr).trans b6'
         have X6:=aside (HA.out.below b6)
         have hV:=X6.out.s.bl.size)
       |(refine step_append_lies _ rfl _ _ _ rfl W1.heap.size 119 i0 (.agg #[.int .i64 0,sB [],.int .i64 0]) 3 32 underlying116 hi hD hE hF rfl (by decide) pv q (eV (cU L.ahead++pK L n l k)) (by simp[Act.eval,Act.put]) (X6.out.s.own.alloc _) ⟨w6.heap.size,0,none⟩ 1 1 (F6 (2,dx,(k:Int))) (by simp[Act.eval,Act.put]) rfl (zJ _ _ _ _) (oY _) (by decide) (by unfold maxLen;omega) (by omega) (by simp;omega) _ rfl ?_
         intro g8 c8 w8 hg hf hh hv
         have X8:=ItR.step X6 _ hg hf hh
         have s8':=(HL.out w8 X8.out.s.bl).1
         have c8':w8.cell? ⟨b5,o5+k,none⟩=some (.int .i64 x):=by rw[<-HX.out];exact aC.at_slot X8.out.ii k (by rw[HM.out];exact h8)
         clear hg hf hh hv)
       |fail)
    obtain⟨_,_,u4,u12,u13⟩:=HL.out w8 X8.out.s.bl;obtain⟨_,u1,_,_⟩:=HD.out w8 X8.out.s.bl;have hs8:=X8.out.s.bl.size
    cases b with
    |false=>
     go_wp2_with(go_at_call 86;refine(He.out _).mono ?_;rintro e w9 ⟨rfl,rfl⟩)
     go_roundw
     case rel=>exact⟨k+1,q+1,_,by go_num,rfl,by omega,by omega,by rw[HIT.out];exact X8⟩
     case measure=>simp[intOf];omega
    |true=>
     go_wp2_with(first
      |(go_at_call 86;refine(He.out _).mono ?_;rintro e w9 ⟨rfl,rfl⟩)
      |(at_builtin
        refine wpList_append_lies _ rfl _ _ 116 rfl W1.heap.size 119 i0 (.agg #[.int .i64 0,sB [],.int .i64 0]) 3 32 underlying116 hi hD hE hF rfl (by decide) (.slice (some ⟨g8,0,none⟩) (q+1) c8) (q+1) (eV (cU L.ahead++pK L n l k++[(2,dx,(k:Int))])) (by simp[Act.eval,Act.put]) (X8.out.s.own.alloc _) ⟨w8.heap.size,0,none⟩ 1 1 (F6 (3,r.grp,-1)) (by simp[Act.eval,Act.put]) rfl (zJ _ _ _ _) (oY _) (by decide) (by unfold maxLen;omega) (by omega) (by simp;omega) _ rfl ?_
        intro g9 c9 w9 hs ho hC hW
        have X9:=ItR.step X8 _ hs ho hC
        clear hs ho hC hW))
     go_roundw
     case rel=>
      refine⟨k+1,q+1+1,_,by go_num,rfl,by omega,by omega,?_⟩
      rw[HIT.out]
      have:=X9
      rw[aEF]at this
      exact this
     case measure=>simp[intOf];omega
  ·obtain rfl:k=m:=by omega
   clear h7;have HC1:=HC.out wr HA.out.s.bl;go_wp2_with(refine aHX rfl 30 _ rfl w.heap.size rfl 30 CS (0,0) _ HC1 underlying30 rfl HZ.out ?_)
   refine(Hf.out vb L.behind wr HA.out.s.pb (by rw[Hc.out];omega)).mono ?_;rintro e w6 ⟨v6,rfl,o6,b6⟩;rw[Hc.out]at o6;have X6:=aside (And.intro (HA.out.below b6) o6);have hV:=X6.out.1.s.bl.size;clear b6 o6
   go_wp2_with(first
    |(at_builtin
      refine kP _ rfl _ _ 116 rfl W1.heap.size 119 i0 (.agg #[.int .i64 0,sB [],.int .i64 0]) 3 32 underlying116 hi hD hE hF rfl (by decide) pv q (eV (cU L.ahead++pK L n l k)) (by simp[Act.eval,Act.put]) X6.out.1.s.own wr.heap.size v6 nb (eV (cU L.behind)) (by simp[Act.eval,Act.put]) X6.out.2 (F7 _) (by unfold maxLen;omega) (by omega) hV ?_
      intro v7 w7 ht hr
      have X7:Aside (w7.ownsRow W1.heap.size 119 3 v7 (cU L.ahead++pK L n l k++cU L.behind).length (eV (cU L.ahead++pK L n l k++cU L.behind))/\Below W1.heap.size W1 w7):=by
       refine⟨?_,X6.out.1.s.bl.grown hr hV (fun q hq=>(X6.out.1.s.own.lt q hq).1)⟩;rw[aD2,<-X6.out.1.s.len,gL,Hc.out,kU];exact ht
      clear ht hr))
   go_ret;exact⟨_,rfl,eZ X7.out.1 (by omega),HB.out.trans (X7.out.2.mono (by omega))⟩
end
section
open Go.RowKit Go.Sym Go.Proofs.Tryz
theorem mO.take {w:World}{A:Option Addr}{n c:Nat}{l:List It}(h:mO w (.slice A n c) l)(k:Nat)(hk:k<=l.length):mO w (.slice A k c) (l.take k):=by
 obtain⟨A',c',b,he,h1,h2,h3⟩:=h;injection he with e1 e2 e3
 subst e1 e3;have hl:(l.take k).length=k:=by simp;omega
 refine⟨A,c,b,by rw[hl],by omega,h2,fun hp=>?_⟩;obtain⟨h4,h5,h6⟩:=h3 (by omega);refine⟨h4,h5,fun j hj=>?_⟩;have e:mN (l.take k) j=mN l j:=by simp only[mN,aD9,aE5];rw[aD6 (by omega)]
 rw[e];exact h6 j (by omega)
def stF (its:List It)(na k:Nat):Int:=if k=0 then(iB its na:Int)else(o8 its k its.length:Int)
def QF (its:List It)(na:Nat):Nat->List Int
 |0=>[]
 |k+1=>QF its na k++[stF its na k]
theorem DJ (its:List It)(na:Nat):∀k,(QF its na k).length=k
 |0=>rfl
 |k+1=>by simp[QF,DJ its na k]
theorem WM (its:List It)(na:Nat):∀(k j:Nat),j<k->(QF its na k).getD j 0=stF its na j
 |0,j,h=>absurd h (Nat.not_lt_zero j)
 |k+1,j,h=>by
  have hl:=DJ its na k;rw[aD9];show((QF its na k++[stF its na k])[j]?).getD 0=_;by_cases hj:j<k
  ·rw[aEG (by omega),<-aD9,WM its na k j hj]
  ·obtain rfl:j=k:=by omega
   rw[aEO (by omega),hl];simp
theorem aaI {L:Lc}(h:DG L){d:Dr}(G:uQ d):QF (bC L d) L.ahead.length ((aJ d).length+1)=fW L.ahead.length (bC L d):=by
 have h1:=DJ (bC L d) L.ahead.length ((aJ d).length+1);have h2:=uY h G;refine List.ext_getElem (by rw[h1,h2]) fun j ha hb=>?_
 have e1:=WM (bC L d) L.ahead.length ((aJ d).length+1) j (by omega);have e2:=QD h G (k:=j) (by omega);rw[aD9,aEB ha]at e1;rw[aD9,aEB hb]at e2;exact e1.trans e2.symm
set_option maxRecDepth 100000 in
theorem GH (r:Rc)(pv sv nv mv:Value)(mi mf xf:Int)(L:Lc)(vi vf:Value)(d:Dr)(w:World)(h:RLc w r pv sv nv mv mi mf xf L)(hd:qF w vi vf d)(hn:d.neg=false)(hB:DG L)(G:uQ d):
  Calls prog 27 #[IM r pv sv nv mv L.p L.q mi mf xf,mT vi vf d] w fun e w'=>∃v',e=.returned v'/\w'.ownsRow w.heap.size 3 1 v' (fW L.ahead.length (bC L d)).length (ints (fW L.ahead.length (bC L d)))/\Below w.heap.size w w':=by
 obtain⟨i0,hi,hM,hO,hP⟩:=aHT dI
 rw[<-aaI hB G]
 have hr:=(BL L d).1
 have hlen:=xQ hB G
 have hg:=uZ hB G
 have hY:=dM d hd.li hd.lf
 have hf:=fun k (hk:k<=(bC L d).length)=>DF (bC L d) k
 obtain⟨n,hG⟩:∃q,(aJ d).length=q:=⟨_,rfl⟩
 have hs:=fun W (hB:Below w.heap.size w W)=>GG r pv sv nv mv mi mf xf L vi vf d W (h.below hB) (hd.below hB (aD1 _)) hn
 have hC:=fun W (hB:Below w.heap.size w W)=>oZ vi vf d W (hd.below hB (aD1 _))
 have hH:=h.arn
 rw[hG]at hY⊢
 simp only[hG]at hC
 obtain⟨its,ht⟩:∃q,bC L d=q:=⟨_,rfl⟩
 rw[ht]at hr hlen hg hs hf⊢
 obtain⟨N,hN⟩:∃q,its.length=q:=⟨_,rfl⟩
 obtain⟨na,hl⟩:∃q,L.ahead.length=q:=⟨_,rfl⟩
 rw[hl]at hr⊢
 rw[hN]at hr hlen hs hf
 generalize aJ d=al at hC
 obtain⟨ng,li,sp,lf⟩:=d
 simp only at hn
 subst hn
 unfold IM mT at *
 simp only at *
 obtain⟨CS,hI⟩:∃CS,(#[.string ⟨r.nm.toArray⟩,.string ⟨r.pat.toArray⟩,.string ⟨r.sys.toArray⟩,.string ⟨r.dec.toArray⟩,.string ⟨r.grp.toArray⟩,.string ⟨r.mns.toArray⟩,.string ⟨r.pct.toArray⟩,.string ⟨r.cur.toArray⟩,pv,sv,nv,mv,.int .i64 L.p,.int .i64 L.q,.int .i64 mi,.int .i64 mf,.int .i64 xf]:Array Value)=CS:=⟨_,rfl⟩
 rw[hI]at hs hH⊢
 have hQ:(prog.info? 30).map (·.size)=some CS.size:=by rw[<-hI];kernel_rfl
 obtain⟨W1,hR,hs1,z1,z2,hv⟩:∃W1,(w.alloc (Obj.cells CS 30)).alloc (Obj.cells #[.bool false,vi,.bool sp,vf] 39)=W1/\W1.heap.size=w.heap.size+2/\
   W1.heap[w.heap.size]?=some (Obj.cells CS 30 (0,0))/\W1.heap[w.heap.size+1]?=some (Obj.cells #[.bool false,vi,.bool sp,vf] 39 (0,0))/\Below w.heap.size w W1:=by
  refine⟨_,rfl,by simp,(aHR _ _ (by simp)).trans (aHO w _),?_,((Below.refl _ w).alloc (aD1 _) _).alloc (by simp) _⟩
  have:=aHO (w.alloc (Obj.cells CS 30)) (Obj.cells #[.bool false,vi,.bool sp,vf] 39)
  simpa using this
 have HI:=aHL (fun W (hB:Below W1.heap.size W1 W)=>hs W (hv.trans (hB.mono (by omega))))
 have HT:=aHL (fun W (hB:Below W1.heap.size W1 W)=>hC W (hv.trans (hB.mono (by omega))))
 have HA:=aHL (fun W (hB:Below W1.heap.size W1 W)=>hH W (hv.trans (hB.mono (by omega))))
 have HB:=aHL hv
 have HW:=aHL hR
 have HC:=aHL (fun W (hB:Below W1.heap.size W1 W)=>(hB.block w.heap.size (by omega)).trans z1)
 have HD:=aHL (fun W (hB:Below W1.heap.size W1 W)=>(hB.block (w.heap.size+1) (by omega)).trans z2)
 have HZ:=aHL hQ
 have HN:=aHL hN
 have Hh:=aHL hl
 have Ha:=aHL hg
 have HL:=aHL hf
 clear h hd hs hC hH hv hR z1 z2 hQ hI hN hl hg hf hG ht G hB
 go_enter func27,ntmps27
 go_upto_region 1 with(fail)
 rw[HW.out]
 have hE:=HD.out W1 (Below.refl _ _)
 go_wp2_with(first
  |refine aHX rfl 30 _ rfl w.heap.size rfl 30 CS (0,0) _ (HC.out W1 (Below.refl _ _)) underlying30 rfl HZ.out ?_
  |refine aHX rfl 39 _ rfl (w.heap.size+1) rfl 39 #[.bool false,vi,.bool sp,vf] (0,0) _ hE underlying39 rfl (by kernel_rfl) ?_
  |fail)
 refine(HI.out W1 (Below.refl _ _)).mono ?_
 rintro e w2 ⟨v5,rfl,o5,b2⟩
 clear hE
 have hS:=HD.out w2 b2
 go_wp2_with(first
  |refine aHX rfl 39 _ rfl (w.heap.size+1) rfl 39 #[.bool false,vi,.bool sp,vf] (0,0) _ hS underlying39 rfl (by kernel_rfl) ?_
  |fail)
 refine(HT.out w2 b2).mono ?_
 rintro e w3 ⟨v6,rfl,o6,ba⟩
 have b3:=b2.trans (ba.mono b2.size)
 have h4:mO w3 v5 its:=(mO.of_own (by rw[HN.out];exact o5)).below ba (aD1 _)
 obtain⟨A5,c5,b5,rfl,hT,ho,hV⟩:=h4
 rw[HN.out]at hT
 have Hi:Hid (mO w3 (.slice A5 N c5) its):=by rw[<-HN.out];exact⟨A5,c5,b5,rfl,by rw[HN.out];exact hT,ho,hV⟩
 obtain⟨A6,c6,rfl⟩:∃A c,v6=.slice A n c:=by rcases o6.2 with⟨rfl,h0⟩|⟨g,cp,cur,rfl,_⟩<;>exact⟨_,_,by first|rfl|rw[h0]⟩
 rw[HN.out]
 clear o5 o6 ba b2 hS hV
 go_wp2_with fail
 have hF:=b3.size
 have Hb:=aHL b3
 clear b3
 go_loopw [7,8] (fun v i wr=>∃(k:Nat) (qv:Value),i=.int .i64 k/\qv=v/\k<=n+1/\Aside (wr.ownsRow w3.heap.size 3 1 qv k (ints (QF its na k))/\Below w3.heap.size w3 wr)) (fun _ i _=>n+1-(intOf i).toNat)
 case atStart=>exact⟨0,_,rfl,rfl,by omega,aHN _ _ _ _,Below.refl _ _⟩
 case round=>
  obtain⟨k,qv,rfl,rfl,hk,HX⟩:=hrel
  by_cases hlt:k<=n
  ·have hJ:=aHL (Hi.out.below HX.out.2 (aD1 _))
   obtain⟨b5,ho⟩:∃b,0<N->A5=some ⟨b,0,none⟩/\∀j,j<N->wr.cell? ⟨b,j*3+2,none⟩=some (.int .i64 (mN its j).2.2):=by
    obtain⟨A,c,b,he,_,_,h3⟩:=hJ.out;injection he with e1
    exact⟨b,fun hp=>⟨e1.trans (h3 (by rw[HN.out];exact hp)).1,fun j hj=>((h3 (by rw[HN.out];exact hp)).2.2 j (by rw[HN.out];exact hj)).2.2⟩⟩
   have Hj:=aHL ho;have h5:=aHL (HC.out wr (Hb.out.trans (HX.out.2.mono hF)));have h6:=aHL (HD.out wr (Hb.out.trans (HX.out.2.mono hF)));have h7:=aHL (HA.out wr (Hb.out.trans (HX.out.2.mono hF)));have hW:=HX.out.2.size;clear ho;go_wp2_with fail
   go_loop [9,10] (fun a i=>∃j:Nat,i=.int .i64 j/\j<=N/\a=.int .i64 (o8 its k j:Nat)) (fun _ i=>N-(intOf i).toNat)
   case atStart=>exact⟨0,rfl,by omega,rfl⟩
   case round=>
    obtain⟨j,rfl,hj,rfl⟩:=hrel
    by_cases h8:j<N
    ·obtain⟨h9,ho⟩:=Hj.out (by omega);subst h9;have c2:=ho j h8;have HS:=aHL (show o8 its k (j+1)=if 0<=(mN its j).2.2/\(mN its j).2.2<(k:Int)then iB its (j+1)else o8 its k j from rfl);obtain⟨a,ha⟩:∃a,(mN its j).2.2=a:=⟨_,rfl⟩;rw[ha]at c2 HS;obtain⟨la,hq⟩:∃q,o8 its k j=q:=⟨_,rfl⟩;rw[hq]at HS⊢;clear ho ha hq;by_cases hK:0<=a/\a<(k:Int)
     ·obtain⟨ha0,ha1⟩:=hK;have hz:=HS.out;rw[aD6 ⟨ha0,ha1⟩]at hz;have HS2:=aHL hz;have Hd:=aHL (BI (.slice (some ⟨b5,0,none⟩) (j+1) c5) (its.take (j+1)) wr (hJ.out.take (j+1) (by rw[HN.out];omega)) (by have q1:=HL.out (j+1) (by omega);have q2:=Ha.out;unfold iB at q1;omega) (by simp;omega));obtain⟨tx,hg⟩:∃t,(⟨(iU (its.take (j+1))).toArray⟩:ByteArray)=t:=⟨_,rfl⟩;have hA:iB its (j+1)=tx.size:=by rw[<-hg];simp[iB,ByteArray.size]
      have hts:tx.size<=9223372036854775807:=by have q1:=HL.out (j+1) (by omega);have q2:=Ha.out;omega
      unfold sB at Hd;rw[hg]at Hd;have HTL:=aHL hA;have hL:(0:Int)<(k:Int):=by omega
      clear hg hA HS;go_wp2_with(go_at_call 45;refine Hd.out.mono ?_;rintro e wt ⟨rfl,rfl⟩)
      go_round
      case rel=>exact⟨j+1,by go_num,by omega,by rw[HS2.out,HTL.out]⟩
      case measure=>simp[intOf];omega
     ·have hz:=HS.out;rw[aD4 hK]at hz;have HS2:=aHL hz;clear HS;have hcs:k=0∨(0<(k:Int)/\a<0)∨(0<(k:Int)/\0<=a/\(k:Int)<=a):=by omega
      clear hK;rcases hcs with rfl|⟨h1,h2⟩|⟨h1,h2,h3⟩
      all_goals
       go_wp2_with fail
       go_round
       case rel=>exact⟨j+1,by go_num,by omega,by rw[HS2.out]⟩
       case measure=>simp[intOf];omega
    ·obtain rfl:j=N:=by omega
     by_cases hL:k=0
     ·subst hL;have hD:=aHM wr _ 0 _ _ _ h6.out;have hE:wr.cell? ⟨w.heap.size+1,0,none⟩=some (.bool false):=hD;clear hD
      go_wp2_with(first
       |refine aHX rfl 30 _ rfl w.heap.size rfl 30 CS (0,0) _ h5.out underlying30 rfl HZ.out ?_
       |fail)
      refine h7.out.mono ?_;rintro e w7 ⟨va,vb,rfl,hpa,_,b7⟩;obtain⟨Aa,ca,rfl,hX,_,_⟩:=hpa;have Hg:=hJ.out.below b7 (aD1 _);have He:=aHL (BI (.slice A5 na c5) (its.take na) w7 (Hg.take na (by rw[HN.out];omega)) (by have q1:=HL.out na hr;have q2:=Ha.out;unfold iB at q1;omega) (by simp;omega));obtain⟨tx,hg⟩:∃t,(⟨(iU (its.take na)).toArray⟩:ByteArray)=t:=⟨_,rfl⟩;have hA:iB its na=tx.size:=by rw[<-hg];simp[iB,ByteArray.size]
      have hts:tx.size<=9223372036854775807:=by have q1:=HL.out na hr;have q2:=Ha.out;omega
      unfold sB at He;rw[hg]at He;have Hf:Hid (QF its na (0+1)=QF its na 0++[(tx.size:Int)]):=by show QF its na 0++[stF its na 0]=_;unfold stF;rw[aD6 rfl,hA]
      have Hc:=aside (And.intro (ae7 HX.out.1 b7) (HX.out.2.trans (b7.mono hW)));have hs7:=Hc.out.2.size;have HNC:=aHL hX;rw[Hh.out];clear hg hA Hg b7 hE hX
      go_wp2_with(first
       |(go_at_call 45;refine He.out.mono ?_;rintro e wt ⟨rfl,rfl⟩)
       |(at_builtin
         refine aHU _ rfl _ _ 22 rfl w3.heap.size 3 i0 (.int .i64 0) 1 8 underlying22 hi hM hO hP rfl (by decide) qv 0 (ints (QF its na 0)) (by simp[Act.eval,Act.put]) (Hc.out.1.alloc _) ⟨_,0,none⟩ 1 1 [.int .i64 (tx.size:Int)] rfl rfl (aHZ _ _ _) (fun x hx=>by simp at hx;subst hx;rfl) (by unfold maxLen;omega) (by omega) (by simp;omega) ?_
         intro v8 w8 hc hb hh
         have X8:Aside (w8.ownsRow w3.heap.size 3 1 v8 (0+1) (ints (QF its na (0+1)))/\Below w3.heap.size w3 w8):=⟨by rw[Hf.out,aS];exact hc,(Hc.out.2.alloc hs7 _).grown hb (by simp;omega) (fun j hj=>(Hc.out.1.lt j hj).1)⟩
         clear hc hb hh)
       |fail)
      go_roundw
      case rel=>exact⟨0+1,_,by go_num,rfl,by omega,X8.out⟩
      case measure=>simp[intOf]
     ·obtain⟨la,hq⟩:∃q,o8 its k j=q:=⟨_,rfl⟩;have Hf:Hid (QF its na (k+1)=QF its na k++[(la:Int)]):=by show QF its na k++[stF its na k]=_;unfold stF;rw[aD4 hL,HN.out,hq]
      rw[hq];clear hq
      go_wp2_with(first
       |(at_builtin
         refine aHU _ rfl _ _ 22 rfl w3.heap.size 3 i0 (.int .i64 0) 1 8 underlying22 hi hM hO hP rfl (by decide) qv k (ints (QF its na k)) (by simp[Act.eval,Act.put]) (HX.out.1.alloc _) ⟨_,0,none⟩ 1 1 [.int .i64 (la:Int)] rfl rfl (aHZ _ _ _) (fun x hx=>by simp at hx;subst hx;rfl) (by unfold maxLen;omega) (by omega) (by simp;omega) ?_
         intro v8 w8 hc hb hh
         have X8:Aside (w8.ownsRow w3.heap.size 3 1 v8 (k+1) (ints (QF its na (k+1)))/\Below w3.heap.size w3 w8):=⟨by rw[Hf.out,aS];exact hc,(HX.out.2.alloc hW _).grown hb (by simp;omega) (fun j hj=>(HX.out.1.lt j hj).1)⟩
         clear hc hb hh)
       |fail)
      go_roundw
      case rel=>exact⟨k+1,_,by go_num,rfl,by omega,X8.out⟩
      case measure=>simp[intOf];omega
  ·obtain rfl:k=n+1:=by omega
   go_wp2;go_ret;exact⟨_,rfl,by rw[DJ];exact eZ HX.out.1 (by omega),HB.out.trans ((Hb.out.trans (HX.out.2.mono hF)).mono (by omega))⟩
end
section
open Go.RowKit Go.Sym Go.Proofs.Tryz
def ap2 (r:Rc)(pv sv nv mv:Value)(p q mi mf xf:Int):List Value:=r.l++([pv,sv,nv,mv]++[.int .i64 p,.int .i64 q,.int .i64 mi,.int .i64 mf,.int .i64 xf])
theorem ap3 (r:Rc)(pv sv nv mv:Value)(p q mi mf xf:Int):Value.agg (ap2 r pv sv nv mv p q mi mf xf).toArray=IM r pv sv nv mv p q mi mf xf:=rfl
set_option maxRecDepth 100000 in
theorem QG (r:Rc)(pv sv nv mv:Value)(mi mf xf:Int)(L:Lc)(vi vf:Value)(d:Dr)(w:World)(h:RLc w r pv sv nv mv mi mf xf L)(hd:qF w vi vf d)(hn:d.neg=false)(hB:DG L)(G:uQ d):
  Calls prog 26 #[IM r pv sv nv mv L.p L.q mi mf xf,mT vi vf d] w fun e w'=>e=.returned (sB (iU (bC L d)))/\Below w.heap.size w w':=by
 have hlen:=xQ hB G
 have hc:=uZ hB G
 have hb:=fun W (hB:Below w.heap.size w W)=>GG r pv sv nv mv mi mf xf L vi vf d W (h.below hB) (hd.below hB (aD1 _)) hn
 obtain⟨its,ha⟩:∃q,bC L d=q:=⟨_,rfl⟩
 rw[ha]at hlen hc hb⊢
 obtain⟨ng,li,sp,lf⟩:=d
 simp only at hn
 subst hn
 unfold IM mT at *
 simp only at *
 obtain⟨CS,hf⟩:∃CS,(#[.string ⟨r.nm.toArray⟩,.string ⟨r.pat.toArray⟩,.string ⟨r.sys.toArray⟩,.string ⟨r.dec.toArray⟩,.string ⟨r.grp.toArray⟩,.string ⟨r.mns.toArray⟩,.string ⟨r.pct.toArray⟩,.string ⟨r.cur.toArray⟩,pv,sv,nv,mv,.int .i64 L.p,.int .i64 L.q,.int .i64 mi,.int .i64 mf,.int .i64 xf]:Array Value)=CS:=⟨_,rfl⟩
 rw[hf]at hb⊢
 have hh:(prog.info? 30).map (·.size)=some CS.size:=by rw[<-hf];kernel_rfl
 obtain⟨W1,hi,hj,z1,z2,hg⟩:∃W1,(w.alloc (Obj.cells CS 30)).alloc (Obj.cells #[.bool false,vi,.bool sp,vf] 39)=W1/\W1.heap.size=w.heap.size+2/\
   W1.heap[w.heap.size]?=some (Obj.cells CS 30 (0,0))/\W1.heap[w.heap.size+1]?=some (Obj.cells #[.bool false,vi,.bool sp,vf] 39 (0,0))/\Below w.heap.size w W1:=by
  refine⟨_,rfl,by simp,(aHR _ _ (by simp)).trans (aHO w _),?_,((Below.refl _ w).alloc (aD1 _) _).alloc (by simp) _⟩
  have:=aHO (w.alloc (Obj.cells CS 30)) (Obj.cells #[.bool false,vi,.bool sp,vf] 39)
  simpa using this
 have HI:=aHL (hb W1 hg)
 have HB:=aHL hg
 have HW:=aHL hi
 have HC:=aHL z1
 have HD:=aHL z2
 have HZ:=aHL hh
 have Ha:=aHL hc
 have HL:=aHL hlen
 clear h hd hb hg hi z1 z2 hh hf hc hlen ha G hB
 go_enter func26,ntmps26
 go_upto_region 1 with(fail)
 rw[HW.out]
 go_wp2_with(first
  |refine aHX rfl 30 _ rfl w.heap.size rfl 30 CS (0,0) _ HC.out underlying30 rfl HZ.out ?_
  |refine aHX rfl 39 _ rfl (w.heap.size+1) rfl 39 #[.bool false,vi,.bool sp,vf] (0,0) _ HD.out underlying39 rfl (by kernel_rfl) ?_
  |fail)
 refine HI.out.mono ?_
 rintro e w2 ⟨v5,rfl,o5,b2⟩
 have Hb:=aHL (BI v5 its w2 (mO.of_own o5) (by have:=Ha.out;omega) (by have:=HL.out;omega))
 clear o5
 go_wp2_with(go_at_call 45;refine Hb.out.mono ?_;rintro e wt ⟨rfl,rfl⟩)
 go_ret
 exact⟨rfl,HB.out.trans (b2.mono (by omega))⟩
def fV (lc rl:List Value)(d:Dr)(c:Nat)(vi vf:Value):List Value:=lc++(rl++pV d c vi vf)
theorem KD {w:World}{b:Nat}{a x c:List Value}{t:TypeId}(h:w.heap[b]?=some (.cells (a++(x++c)).toArray t (0,0))):w.rangeAt b a.length x:=fun j v hj=>by
 rw[aHM w b _ _ _ _ h];have ha:=(aED.1 hj).1;simp only[aFO];rw[aEO (by omega),aEG (by omega),show a.length+j-a.length=j by omega];exact hj
set_option maxRecDepth 100000 in
theorem akR (r:Rc)(pv sv nv mv:Value)(mi mf xf:Int)(L:Lc)(rl:List Value)(vi vf:Value)(d:Dr)(c k:Nat)(w:World)(h:RLc w r pv sv nv mv mi mf xf L)(hr:rl.length=17)(hd:qF w vi vf d)(hn:d.neg=false)(hB:DG L)(G:uQ d)(hk:k<=(aJ d).length):
  Calls prog 12 #[.agg (fV (ap2 r pv sv nv mv L.p L.q mi mf xf) rl d c vi vf).toArray,.int .i64 k] w fun e w'=>e=.returned (.int .i64 ((fW L.ahead.length (bC L d)).getD k 0))/\Below w.heap.size w w':=by
 have ha:=fun W (hb:Below w.heap.size w W)=>GH r pv sv nv mv mi mf xf L vi vf d W (h.below hb) (hd.below hb (aD1 _)) hn hB G
 have hl:=uY hB G
 have hs:=dM d hd.li hd.lf
 rw[<-ap3]at ha
 obtain⟨st,ho⟩:∃q,fW L.ahead.length (bC L d)=q:=⟨_,rfl⟩
 rw[ho]at ha hl⊢
 obtain⟨ng,li,sp,lf⟩:=d
 simp only at hn
 subst hn
 unfold mT at ha
 simp only at ha
 obtain⟨lc,hg⟩:∃lc,ap2 r pv sv nv mv L.p L.q mi mf xf=lc:=⟨_,rfl⟩
 have hh:lc.length=17:=by rw[<-hg];rfl
 rw[hg]at ha⊢
 obtain⟨FV,hf⟩:∃q,fV lc rl ⟨false,li,sp,lf⟩ c vi vf=q:=⟨_,rfl⟩
 rw[hf]
 obtain⟨W1,hp,z1,hi⟩:∃W1,w.alloc (Obj.cells FV.toArray 43)=W1/\W1.heap[w.heap.size]?=some (Obj.cells FV.toArray 43 (0,0))/\Below w.heap.size w W1:=⟨_,rfl,aHO w _,(Below.refl _ w).alloc (aD1 _) _⟩
 have r1:W1.rangeAt w.heap.size 0 lc:=by
  refine KD (t:=43) (a:=[]) (x:=lc) (c:=rl++pV ⟨false,li,sp,lf⟩ c vi vf) ?_;rw[z1,<-hf];rfl
 have r2:W1.rangeAt w.heap.size 34 [.bool false,vi,.bool sp,vf]:=by
  have:=KD (w:=W1) (b:=w.heap.size) (t:=43) (a:=lc++rl) (x:=[.bool false,vi,.bool sp,vf]) (c:=[.int .i64 c,.int .i64 c]) (by
   rw[z1,<-hf];simp[fV,pV])
  rwa[aD2,hh,hr]at this
 have HS:=aHL (ha W1 hi)
 have HB:=aHL hi
 have HW:=aHL hp
 have H1:=aHL r1
 have H2:=aHL r2
 have Ha:Hid ((prog.info? 30).map (·.size)=some lc.length):=by show _=_;rw[hh];kernel_rfl
 have hq:k<st.length:=by omega
 have hj:st.length<=200:=by omega
 clear h hd ha hi hp z1 r1 r2 ho hl hs hk hB G hf hg hh
 go_enter func12,ntmps12
 go_upto_region 1 with(fail)
 rw[HW.out]
 go_wp2_with(first
  |refine wpList_load_mid rfl 30 _ rfl w.heap.size 0 rfl lc _ H1.out underlying30 rfl Ha.out ?_
  |refine wpList_load_mid rfl 39 _ rfl w.heap.size 34 rfl [.bool false,vi,.bool sp,vf] _ H2.out underlying39 rfl (by kernel_rfl) ?_
  |fail)
 refine HS.out.mono ?_
 rintro e w2 ⟨v5,rfl,o5,b2⟩
 have hI:=aC.of_own o5
 obtain⟨A,c',hv⟩:=hI.form
 subst hv
 obtain⟨b5,oa,rfl,ht⟩:∃b o,A=some ⟨b,o,none⟩/\w2.cell? ⟨b,o+k,none⟩=some (.int .i64 (st.getD k 0)):=by
  obtain⟨A',c2,he,_,_,hc⟩:=hI;injection he with e1
  subst e1;obtain⟨b,o,e,hc⟩:=hc (by omega);exact⟨b,o,e,hc k hq⟩
 obtain⟨n,hn⟩:∃n,st.length=n:=⟨_,rfl⟩
 obtain⟨y,hy⟩:∃y,st.getD k 0=y:=⟨_,rfl⟩
 rw[hn]at hq hj⊢
 rw[hy]at ht
 have HY:=aHL hy
 have hx:=aHL (HB.out.trans (b2.mono HB.out.size))
 clear o5 hI hn hy b2
 go_wp2
 go_ret
 exact⟨by rw[HY.out];rfl,hx.out⟩
end
section
open Go.RowKit Go.Sym Go.Proofs.Tryz
theorem T4 {B:aE}{k:Nat}{d:Dr}(h6:cG B k (aJ d)){p q:eG}{i j:Nat}(hA:dQ B p i q j d)(ha:∀(w:World) (vi vf:Value),aC w vi d.int->aC w vf d.frac->qF w vi vf d):
  aK B prog ⟨35,[pG p i q j],.ls k⟩:=by
 refine aU [ME hA] (ZJ h6) ?_
 rintro w _ ⟨_,_,rfl,⟨vi,vf,rfl,h1,h2⟩,rfl⟩
 exact(oZ vi vf d w (ha w vi vf h1 h2)).mono (by rintro e w' ⟨sl,rfl,ho,hb⟩;exact⟨_,rfl,⟨aC.of_own ho,eH ho (aD1 _)⟩,hb⟩)
theorem zK (vi vf:Value)(d:Dr)(c:Nat)(w:World)(h:sV w vi vf d c):
  Calls prog 14 #[oQ vi vf d c] w fun e w'=>e=.returned (.bool true)/\Below w.heap.size w w':=by
 have hl:=h.le
 let L:=sF 4 d++nD 6 (aJ d)++[(200,Value.int .i64 (ints (aJ d)).toArray.size),(204,Value.int .i64 c)]
 have hA:dQ (bU w L) (.val (.bool false)) 4 (.at_ 36) 5 d:=fQ (k:=4) (by decide) h.ng rfl rfl rfl
 have hC:NP (bU w L) (.at_ 204) (.int .i64 c):= .atm rfl
 have h6:cG (bU w L) 6 (aJ d):=⟨by decide,rfl⟩
 have h':aK (bU w L) prog ⟨14,[sW (.val (.bool false)) 4 (.at_ 36) 5 (.at_ 204)],.val (.bool true)⟩:=by
  refine run_mk (by kernel_rfl) rfl (T:=mR [⟨.geq,.atom 204,.lit (.int .i64 0),.lit (.bool true)⟩,⟨.leq,.atom 204,.atom 200,.lit (.bool true)⟩] [] [] [⟨6,.atom 200⟩]) (bD (aD ?_ (aD ?_ aH)) aH aH (aD ⟨_,rfl,rfl⟩ aH))
   (orc:=bT [⟨34,[pG (.val (.bool false)) 4 (.at_ 36) 5],.val (.bool true)⟩,⟨35,[pG (.val (.bool false)) 4 (.at_ 36) 5],.ls 6⟩]) (bB ?_) ⟨iR hA hC,trivial⟩ trivial (by kernel_rfl)
  ·exact eT (x:=(c:Int)) (y:=0) rfl rfl rfl (EN (by simp))
  ·exact eT (x:=(c:Int)) (y:=((ints (aJ d)).toArray.size:Int)) rfl rfl rfl (tO (by simpa [aQ]using hl))
  ·refine aD (aU [ME hA] (yO (.val (.bool true)) rfl) ?_) (aD (T4 h6 hA fun w vi vf a b=>(h.mk2 a b).ok) aH);rintro w _ ⟨_,_,rfl,⟨vi,vf,rfl,h1,h2⟩,rfl⟩;exact(AX vi vf d w (h.mk2 h1 h2).ok).mono (by rintro e w' ⟨rfl,hb⟩;exact⟨_,rfl,rfl,hb⟩)
 refine(h'.2 w (bG _ _ _) [oQ vi vf d c] ⟨_,_,rfl,oR (w:=w) hA hC h,rfl⟩).mono ?_
 rintro e w' ⟨x,rfl,hx,hb⟩
 exact⟨by rw[show x=.bool true from hx],hb⟩
theorem WQ (vi vf:Value)(d:Dr)(c:Nat)(w:World)(h:sV w vi vf d c):
  Calls prog 109 #[oQ vi vf d c,.int .i64 0] w fun e w'=>e=.returned (.int .i64 ((c-1:Nat):Int))/\Below w.heap.size w w':=by
 have hl:=dM d h.ok.li h.ok.lf
 have hle:=h.le
 let L:=sF 4 d++nD 6 (aJ d)++[(204,Value.int .i64 c),(228,Value.int .i64 ((c:Int)-1)),(232,Value.int .i64 ((c-1:Nat):Int))]
 have hA:dQ (bU w L) (.val (.bool false)) 4 (.at_ 36) 5 d:=fQ (k:=4) (by decide) h.ng rfl rfl rfl
 have hC:NP (bU w L) (.at_ 204) (.int .i64 c):= .atm rfl
 have hF:NP (bU w L) (.at_ 232) (.int .i64 ((c-1:Nat):Int)):= .atm rfl
 have h6:cG (bU w L) 6 (aJ d):=⟨by decide,rfl⟩
 have h':aK (bU w L) prog ⟨109,[sW (.val (.bool false)) 4 (.at_ 36) 5 (.at_ 204),.val (.int .i64 0)],.at_ 232⟩:=by
  refine run_mk (by kernel_rfl) rfl (T:=mR [⟨.sub,.atom 204,.lit (.int .i64 1),.atom 228⟩] [] [⟨.atom 228,.lit (.int .i64 0),.atom 232⟩] []) (bD (aD ?_ aH) aH (aD ⟨(c:Int)-1,0,rfl,rfl,?_⟩ aH) aH)
   (orc:=bT [⟨35,[pG (.val (.bool false)) 4 (.at_ 36) 5],.ls 6⟩]) (bB ?_) ⟨iR hA hC,trivial,trivial⟩ ⟨_,rfl⟩ (by kernel_rfl)
  ·exact eT (x:=(c:Int)) (y:=1) rfl rfl rfl (fO (by rw[aR _ (by omega) (by omega)]))
  ·show some (Value.int .i64 ((c-1:Nat):Int))=some (.int .i64 (max ((c:Int)-1) 0));congr 2;omega
  ·exact aD (T4 h6 hA fun w vi vf a b=>(h.mk2 a b).ok) aH
 refine(h'.2 w (bG _ _ _) [oQ vi vf d c,.int .i64 0] ⟨_,_,rfl,oR (w:=w) hA hC h,_,_,rfl,rfl,rfl⟩).mono ?_
 rintro e w' ⟨x,rfl,hx,hb⟩
 exact⟨by rw[hF.out hx],hb⟩
theorem QJ (vi vf va:Value)(d:Dr)(c ic fc:Nat)(sg:Bool)(al:List Int)(w:World)(h:sV w vi vf d c)(hv:aC w va al)(ha:At al)(la:al.length<=100)(h1:oP (lX d c al)):
  Calls prog 173 #[oQ vi vf d c,xE ic fc sg,va] w fun e w'=>∃x,e=.returned x/\oS w.heap.size w' d c ic fc al x/\Below w.heap.size w w':=by
 unfold oS
 have hl:=dM d h.ok.li h.ok.lf
 have hle:=h.le
 obtain⟨D,hD⟩:∃D,aN false (lX d c al)=D:=⟨_,rfl⟩
 have hf:D.neg=false:=by rw[<-hD];exact fD _ _
 rw[hD]
 unfold fZ
 obtain⟨b1,hc⟩:∃b,decide (D.int.length<=ic)=b:=⟨_,rfl⟩
 obtain⟨b2,hd⟩:∃b,decide (D.frac.length<=fc)=b:=⟨_,rfl⟩
 rw[hc,hd]
 let L:=sF 4 d++nD 6 al++sF 8 D++[(204,Value.int .i64 c),(208,Value.int .i64 ic),(212,Value.int .i64 fc),(216,Value.bool sg),(220,Value.int .i64 (ints al).toArray.size),(224,Value.int .i64 ((c+al.length:Nat):Int)),(240,Value.int .i64 (ints D.int).toArray.size),(244,Value.int .i64 (ints D.frac).toArray.size)]
 have hA:dQ (bU w L) (.val (.bool false)) 4 (.at_ 36) 5 d:=fQ (k:=4) (by decide) h.ng rfl rfl rfl
 have hE:dQ (bU w L) (.val (.bool false)) 8 (.at_ 68) 9 D:=fQ (k:=8) (by decide) hf rfl rfl rfl
 have hC:NP (bU w L) (.at_ 204) (.int .i64 c):= .atm rfl
 have hF:NP (bU w L) (.at_ 224) (.int .i64 ((c+al.length:Nat):Int)):= .atm rfl
 have h6:cG (bU w L) 6 al:=⟨by decide,rfl⟩
 have hg:qC (bU w L) (oT (b1&&b2)):=by
  cases b1<;>cases b2<;>first
   |exact⟨iH,trivial,trivial⟩
   |exact⟨iR hE hF,trivial,trivial⟩
 have h':aK (bU w L) prog ⟨173,[sW (.val (.bool false)) 4 (.at_ 36) 5 (.at_ 204),.agg [.at_ 208,.at_ 212,.at_ 216],.ls 6],oT (b1&&b2)⟩:=by
  refine run_mk (by kernel_rfl) rfl (T:=tbM (mR [⟨.add,.atom 204,.atom 220,.atom 224⟩,⟨.gtr,.atom 240,.atom 208,.lit (.bool (!b1))⟩,⟨.gtr,.atom 244,.atom 212,.lit (.bool (!b2))⟩] [] [⟨.atom 204,.atom 204,.atom 204⟩] [⟨6,.atom 220⟩,⟨8,.atom 240⟩,⟨9,.atom 244⟩]) [⟨.atom 204,.atom 204,.atom 204⟩])
   (EM (bD (aD ?_ (aD ?_ (aD ?_ aH))) aH (aD ⟨c,c,rfl,rfl,by simp;rfl⟩ aH) (aD ⟨_,rfl,rfl⟩ (aD ⟨_,rfl,rfl⟩ (aD ⟨_,rfl,rfl⟩ aH)))) (aD ⟨c,c,rfl,rfl,by simp;rfl⟩ aH))
   (orc:=bT [⟨14,[sW (.val (.bool false)) 4 (.at_ 36) 5 (.at_ 204)],.val (.bool true)⟩,
     ⟨110,[pG (.val (.bool false)) 4 (.at_ 36) 5,.at_ 204,.at_ 204,.ls 6],.tup [pG (.val (.bool false)) 8 (.at_ 68) 9,.val (.int .i64 0)]⟩]) (bB ?_)
   ⟨iR hA hC,⟨⟨_,rfl⟩,⟨_,rfl⟩,⟨_,rfl⟩,trivial⟩,jM h6,trivial⟩ hg (by cases b1<;>cases b2<;>kernel_rfl)
  ·exact eT (x:=(c:Int)) (y:=((ints al).toArray.size:Int)) rfl rfl rfl (OQ (by simp[aQ];rw[aR _ (by omega) (by omega)]))
  ·exact eT (x:=((ints D.int).toArray.size:Int)) (y:=(ic:Int)) rfl rfl rfl (fP (by rw[<-hc];simp only[aEX,aQ];rw[<-decide_not,decide_eq_decide];omega))
  ·exact eT (x:=((ints D.frac).toArray.size:Int)) (y:=(fc:Int)) rfl rfl rfl (fP (by rw[<-hd];simp only[aEX,aQ];rw[<-decide_not,decide_eq_decide];omega))
  ·refine aD (aU [NS hA hC] (yO (.val (.bool true)) rfl) ?_) (aD (aU [ME hA,rP hC,rP hC,DA h6] (TJ hE) ?_) aH)
   ·rintro w _ ⟨_,_,rfl,⟨vi,vf,rfl,h1,h2⟩,rfl⟩;exact(zK vi vf d c w (h.mk2 h1 h2)).mono (by rintro e w' ⟨rfl,hb⟩;exact⟨_,rfl,rfl,hb⟩)
   ·rintro w _ ⟨_,_,rfl,⟨vi,vf,rfl,k1,k2⟩,_,_,rfl,rfl,_,_,rfl,rfl,va,_,rfl,kv,rfl⟩;have:=CJ vi vf va d c c al w (h.mk2 k1 k2).ok kv ha la (aD1 _) hle h1;rw[h.ng]at this;rw[show aN false ((aJ d).take c++al++(aJ d).drop c)=D from hD]at this;exact this.mono (by rintro e w' ⟨vi,vf,rfl,i1,i2,f1,f2,hb⟩;exact⟨_,rfl,⟨_,_,rfl,i1,i2,fun _=>f1,fun _=>f2⟩,hb⟩)
 refine(h'.2 w (bG _ _ _) [oQ vi vf d c,xE ic fc sg,va] ⟨_,_,rfl,oR (w:=w) hA hC h,_,_,rfl,⟨_,rfl,_,_,rfl,⟨rfl,rfl⟩,_,_,rfl,⟨rfl,rfl⟩,_,_,rfl,⟨rfl,rfl⟩,rfl⟩,_,_,rfl,kM h6 hv (fun _ _ _=>trivial),rfl⟩).mono ?_
 rintro e w' ⟨x,rfl,hx,hh⟩
 refine⟨x,rfl,?_,hh⟩
 cases hbb:(b1&&b2)
 ·rw[hbb]at hx;rw[aD4 (by decide)];exact tU hx
 ·rw[hbb]at hx;rw[aD6 rfl];exact AY hE hF hx
end
section
open Go.RowKit Go.Sym Go.Proofs.Tryz
theorem afI {P:Program}{a b:Int}{r:Bool}(h:(!(a ==b))=r)(t:TypeId)(ox oy:Operand)(w:World):(do eqGuard .neq t ox oy (.int .i64 a) (.int .i64 b);binOp .neq t (.int .i64 a) (.int .i64 b)).run P w=.ok (.bool r) w:=by
 subst h;simp[eqGuard,binOp,Op.intCmp,bne]
theorem afJ (vi vf va:Value)(d:Dr)(c ic fc:Nat)(sg:Bool)(al:List Int)(w:World)(h:sV w vi vf d c)(hv:aC w va al)(ha:At al)(la:al.length<=100)(h1:oP (lX d c al)):
  Calls prog 108 #[oQ vi vf d c,xE ic fc sg,PH va] w fun e w'=>∃x,e=.returned x/\oS w.heap.size w' d c ic fc al x/\Below w.heap.size w w':=by
 have hc:=fun vi vf va w (h:sV w vi vf d c) (hv:aC w va al)=>QJ vi vf va d c ic fc sg al w h hv ha la h1
 unfold oS at hc⊢
 obtain⟨D,hD⟩:∃D,aN false (lX d c al)=D:=⟨_,rfl⟩
 have hg:D.neg=false:=by rw[<-hD];exact fD _ _
 rw[hD]at hc⊢
 obtain⟨b,hb⟩:∃b,fZ D ic fc=b:=⟨_,rfl⟩
 rw[hb]at hc⊢
 obtain⟨b1,hh⟩:∃b,decide ((0:Int)<((aJ d).length:Int))=b:=⟨_,rfl⟩
 obtain⟨b2,hi⟩:∃b,((c:Int) ==0)=b:=⟨_,rfl⟩
 obtain⟨b3,hj⟩:∃b,((c:Int) ==((aJ d).length:Int))=b:=⟨_,rfl⟩
 let L:=sF 4 d++nD 6 al++nD 12 (aJ d)++sF 8 D++[(200,Value.int .i64 (ints (aJ d)).toArray.size),(204,Value.int .i64 c),(208,Value.int .i64 ic),(212,Value.int .i64 fc),(216,Value.bool sg),(224,Value.int .i64 ((c+al.length:Nat):Int))]
 have hA:dQ (bU w L) (.val (.bool false)) 4 (.at_ 36) 5 d:=fQ (k:=4) (by decide) h.ng rfl rfl rfl
 have hE:dQ (bU w L) (.val (.bool false)) 8 (.at_ 68) 9 D:=fQ (k:=8) (by decide) hg rfl rfl rfl
 have hC:NP (bU w L) (.at_ 204) (.int .i64 c):= .atm rfl
 have hF:NP (bU w L) (.at_ 224) (.int .i64 ((c+al.length:Nat):Int)):= .atm rfl
 have h6:cG (bU w L) 6 al:=⟨by decide,rfl⟩
 have hk:cG (bU w L) 12 (aJ d):=⟨by decide,rfl⟩
 have hd:qC (bU w L) (oT b):=by
  cases b
  ·exact⟨iH,trivial,trivial⟩
  ·exact⟨iR hE hF,trivial,trivial⟩
 have hf:∀(w:World) (x:Value),fG (bU w L) (fun _=>True) w (.agg [.at_ 208,.at_ 212,.at_ 216]) x->True:=fun _ _ _=>trivial
 have h':aK (bU w L) prog ⟨108,[sW (.val (.bool false)) 4 (.at_ 36) 5 (.at_ 204),.agg [.at_ 208,.at_ 212,.at_ 216],.agg [.val (.bool false),.ls 6]],oT b⟩:=by
  refine run_mk (by kernel_rfl) rfl (T:=tbM (mR [⟨.gtr,.atom 200,.lit (.int .i64 0),.lit (.bool b1)⟩,⟨.eql,.atom 204,.lit (.int .i64 0),.lit (.bool b2)⟩,⟨.eql,.atom 204,.atom 200,.lit (.bool b3)⟩] [] [⟨.atom 204,.atom 204,.atom 204⟩] [⟨12,.atom 200⟩]) [⟨.atom 204,.atom 204,.atom 204⟩]) (EM (bD (aD ?_ (aD ?_ (aD ?_ aH))) aH (aD ⟨c,c,rfl,rfl,by simp;rfl⟩ aH) (aD ⟨_,rfl,rfl⟩ aH)) (aD ⟨c,c,rfl,rfl,by simp;rfl⟩ aH))
   (orc:=bT [⟨173,[sW (.val (.bool false)) 4 (.at_ 36) 5 (.at_ 204),.agg [.at_ 208,.at_ 212,.at_ 216],.ls 6],oT b⟩,⟨35,[pG (.val (.bool false)) 4 (.at_ 36) 5],.ls 12⟩]) (bB ?_)
   ⟨iR hA hC,⟨⟨_,rfl⟩,⟨_,rfl⟩,⟨_,rfl⟩,trivial⟩,⟨trivial,jM h6,trivial⟩,trivial⟩ hd (by cases b<;>cases b1<;>cases b2<;>cases b3<;>kernel_rfl)
  ·exact eT (x:=((ints (aJ d)).toArray.size:Int)) (y:=0) rfl rfl rfl (fP (by rw[<-hh];simp[aQ]))
  ·exact eT (x:=(c:Int)) (y:=0) rfl rfl rfl (lA hi)
  ·exact eT (x:=(c:Int)) (y:=((ints (aJ d)).toArray.size:Int)) rfl rfl rfl (lA (by rw[<-hj];simp[aQ]))
  ·refine aD (aU [NS hA hC,⟨.agg [.at_ 208,.at_ 212,.at_ 216],fun _ x=>x=xE ic fc sg,⟨⟨_,rfl⟩,⟨_,rfl⟩,⟨_,rfl⟩,trivial⟩,fun _ _ x hx=>by
    obtain⟨ys,rfl,y0,_,rfl,a0,y1,_,rfl,a1,y2,_,rfl,a2,rfl⟩:=hx;rw[(NP.atm (B:=bU w L) (v:= .int .i64 ic) rfl).out a0,(NP.atm (B:=bU w L) (v:= .int .i64 fc) rfl).out a1,(NP.atm (B:=bU w L) (v:= .bool sg) rfl).out a2];rfl⟩,DA h6] ⟨oT b,fun N w x=>if b=true then ∃vi vf,x=.tuple #[oQ vi vf D (c+al.length),.int .i64 0]/\aC w vi D.int/\aC w vf D.frac/\cW N vi D.int/\cW N vf D.frac else x=.tuple #[xF,.int .i64 4],hd,fun N w x hx=>by
    cases b
    ·exact(noR (B:=bU w L) 4).inn N w x hx
    ·exact(stR hE hF).inn N w x hx⟩ ?_) (aD (T4 hk hA fun w vi vf a b=>(h.mk2 a b).ok) aH)
   ·rintro w _ ⟨_,_,rfl,⟨vi,vf,rfl,k1,k2⟩,_,_,rfl,rfl,va,_,rfl,kv,rfl⟩;exact hc vi vf va w (h.mk2 k1 k2) kv
 refine(h'.2 w (bG _ _ _) [oQ vi vf d c,xE ic fc sg,PH va] ⟨_,_,rfl,oR (w:=w) hA hC h,_,_,rfl,⟨_,rfl,_,_,rfl,⟨rfl,rfl⟩,_,_,rfl,⟨rfl,rfl⟩,_,_,rfl,⟨rfl,rfl⟩,rfl⟩,_,_,rfl,⟨_,rfl,_,_,rfl,rfl,_,_,rfl,kM h6 hv (fun _ _ _=>trivial),rfl⟩,rfl⟩).mono ?_
 rintro e w' ⟨x,rfl,hx,hl⟩
 refine⟨x,rfl,?_,hl⟩
 cases b
 ·rw[aD4 (by decide)];exact tU hx
 ·rw[aD6 rfl];exact AY hE hF hx
theorem T5 (vi vf:Value)(d:Dr)(c ic fc:Nat)(sg:Bool)(w:World)(h:sV w vi vf d c)(h1:oP (pH d c)):
  Calls prog 76 #[oQ vi vf d c,xE ic fc sg,.int .i64 0] w fun e w'=>∃x,e=.returned x/\AZ w.heap.size w' d c ic fc x/\Below w.heap.size w w':=by
 unfold AZ
 have hl:=dM d h.ok.li h.ok.lf
 have hle:=h.le
 obtain⟨D,hD⟩:∃D,aN false (pH d c)=D:=⟨_,rfl⟩
 have hd:D.neg=false:=by rw[<-hD];exact fD _ _
 rw[hD]
 unfold fZ
 obtain⟨b1,ha⟩:∃b,decide (D.int.length<=ic)=b:=⟨_,rfl⟩
 obtain⟨b2,hc⟩:∃b,decide (D.frac.length<=fc)=b:=⟨_,rfl⟩
 rw[ha,hc]
 obtain⟨z,hz⟩:∃z,decide (c=0)=z:=⟨_,rfl⟩
 let L:=sF 4 d++sF 8 D++[(204,Value.int .i64 c),(208,Value.int .i64 ic),(212,Value.int .i64 fc),(216,Value.bool sg),(232,Value.int .i64 ((c-1:Nat):Int)),(240,Value.int .i64 (ints D.int).toArray.size),(244,Value.int .i64 (ints D.frac).toArray.size)]
 have hA:dQ (bU w L) (.val (.bool false)) 4 (.at_ 36) 5 d:=fQ (k:=4) (by decide) h.ng rfl rfl rfl
 have hE:dQ (bU w L) (.val (.bool false)) 8 (.at_ 68) 9 D:=fQ (k:=8) (by decide) hd rfl rfl rfl
 have hC:NP (bU w L) (.at_ 204) (.int .i64 c):= .atm rfl
 have hF:NP (bU w L) (.at_ 232) (.int .i64 ((c-1:Nat):Int)):= .atm rfl
 have hf:qC (bU w L) (FC z (b1&&b2)):=by
  cases z<;>cases b1<;>cases b2<;>first
   |exact⟨iH,trivial,trivial⟩
   |exact⟨iR hE hF,trivial,trivial⟩
 have h':aK (bU w L) prog ⟨76,[sW (.val (.bool false)) 4 (.at_ 36) 5 (.at_ 204),.agg [.at_ 208,.at_ 212,.at_ 216],.val (.int .i64 0)],FC z (b1&&b2)⟩:=by
  refine run_mk (by kernel_rfl) rfl (T:=tbM (mR [⟨.eql,.atom 204,.atom 204,.lit (.bool true)⟩,⟨.eql,.atom 232,.atom 204,.lit (.bool z)⟩,⟨.gtr,.atom 240,.atom 208,.lit (.bool (!b1))⟩,⟨.gtr,.atom 244,.atom 212,.lit (.bool (!b2))⟩] [] [⟨.atom 204,.atom 204,.atom 204⟩,⟨.atom 204,.atom 232,.atom 204⟩] [⟨8,.atom 240⟩,⟨9,.atom 244⟩]) [⟨.atom 204,.atom 204,.atom 204⟩,⟨.atom 204,.atom 232,.atom 232⟩])
   (EM (bD (aD ?_ (aD ?_ (aD ?_ (aD ?_ aH)))) aH (aD ⟨c,c,rfl,rfl,by simp;rfl⟩ (aD ⟨(c:Int),((c-1:Nat):Int),rfl,rfl,?_⟩ aH)) (aD ⟨_,rfl,rfl⟩ (aD ⟨_,rfl,rfl⟩ aH))) (aD ⟨c,c,rfl,rfl,by simp;rfl⟩ (aD ⟨(c:Int),((c-1:Nat):Int),rfl,rfl,?_⟩ aH)))
   (orc:=bT [⟨14,[sW (.val (.bool false)) 4 (.at_ 36) 5 (.at_ 204)],.val (.bool true)⟩,⟨109,[sW (.val (.bool false)) 4 (.at_ 36) 5 (.at_ 204),.val (.int .i64 0)],.at_ 232⟩,
     ⟨110,[pG (.val (.bool false)) 4 (.at_ 36) 5,.at_ 232,.at_ 204,.val (.slice none 0 0)],.tup [pG (.val (.bool false)) 8 (.at_ 68) 9,.val (.int .i64 0)]⟩]) (bB ?_)
   ⟨iR hA hC,⟨⟨_,rfl⟩,⟨_,rfl⟩,⟨_,rfl⟩,trivial⟩,trivial,trivial⟩ hf (by cases z<;>cases b1<;>cases b2<;>kernel_rfl)
  ·exact eT (x:=(c:Int)) (y:=(c:Int)) rfl rfl rfl (lA (by simp))
  ·exact eT (x:=((c-1:Nat):Int)) (y:=(c:Int)) rfl rfl rfl (lA (by
    rw[<-hz];by_cases h0:c=0
    ·subst h0;rfl
    ·rw[aEC h0];simp only[aFS,ne_eq];omega))
  ·exact eT (x:=((ints D.int).toArray.size:Int)) (y:=(ic:Int)) rfl rfl rfl (fP (by rw[<-ha];simp only[aEX,aQ];rw[<-decide_not,decide_eq_decide];omega))
  ·exact eT (x:=((ints D.frac).toArray.size:Int)) (y:=(fc:Int)) rfl rfl rfl (fP (by rw[<-hc];simp only[aEX,aQ];rw[<-decide_not,decide_eq_decide];omega))
  ·show some (Value.int .i64 (c:Int))=some (.int .i64 (max (c:Int) ((c-1:Nat):Int)));congr 2;omega
  ·show some (Value.int .i64 ((c-1:Nat):Int))=some (.int .i64 (min (c:Int) ((c-1:Nat):Int)));congr 2;omega
  ·refine aD (aU [NS hA hC] (yO (.val (.bool true)) rfl) ?_) (aD (aU [NS hA hC,rP (.val (.int .i64 0))] (yO hF rfl) ?_) (aD (aU [ME hA,rP hF,rP hC,rP (.val (.slice none 0 0))] (TJ hE) ?_) aH))
   ·rintro w _ ⟨_,_,rfl,⟨vi,vf,rfl,h1,h2⟩,rfl⟩;exact(zK vi vf d c w (h.mk2 h1 h2)).mono (by rintro e w' ⟨rfl,hb⟩;exact⟨_,rfl,rfl,hb⟩)
   ·rintro w _ ⟨_,_,rfl,⟨vi,vf,rfl,h1,h2⟩,_,_,rfl,rfl,rfl⟩;exact(WQ vi vf d c w (h.mk2 h1 h2)).mono (by rintro e w' ⟨rfl,hb⟩;exact⟨_,rfl,rfl,hb⟩)
   ·rintro w _ ⟨_,_,rfl,⟨vi,vf,rfl,k1,k2⟩,_,_,rfl,rfl,_,_,rfl,rfl,_,_,rfl,rfl,rfl⟩;have:=CJ vi vf (.slice none 0 0) d (c-1) c [] w (h.mk2 k1 k2).ok (aC.nil_ _ _ _ (by omega)) (fun x hx=>by cases hx) (by simp) (by omega) hle h1;rw[h.ng]at this;rw[show aN false ((aJ d).take (c-1)++[]++(aJ d).drop c)=D from hD]at this;exact this.mono (by rintro e w' ⟨vi,vf,rfl,i1,i2,f1,f2,hb⟩;exact⟨_,rfl,⟨_,_,rfl,i1,i2,fun _=>f1,fun _=>f2⟩,hb⟩)
 refine(h'.2 w (bG _ _ _) [oQ vi vf d c,xE ic fc sg,.int .i64 0] ⟨_,_,rfl,oR (w:=w) hA hC h,_,_,rfl,⟨_,rfl,_,_,rfl,⟨rfl,rfl⟩,_,_,rfl,⟨rfl,rfl⟩,_,_,rfl,⟨rfl,rfl⟩,rfl⟩,_,_,rfl,rfl,rfl⟩).mono ?_
 rintro e w' ⟨x,rfl,hx,hg⟩
 refine⟨x,rfl,?_,hg⟩
 cases z
 ·rw[aD4 (by simpa using hz)]
  cases hbb:(b1&&b2)
  ·rw[hbb]at hx;rw[aD4 (by decide)];exact tU hx
  ·rw[hbb]at hx;rw[aD6 rfl];exact AY hE hF hx
 ·rw[aD6 (by simpa using hz)];exact tU hx
theorem aaK (vi vf:Value)(d:Dr)(c:Nat)(w:World)(h:sV w vi vf d c):
  Calls prog 77 #[oQ vi vf d c,.int .i64 0,.bool false] w fun e w'=>e=.returned (.tuple #[oQ vi vf d (c-1),.int .i64 0])/\Below w.heap.size w w':=by
 have hl:=dM d h.ok.li h.ok.lf
 have hle:=h.le
 let L:=sF 4 d++[(204,Value.int .i64 c),(232,Value.int .i64 ((c-1:Nat):Int))]
 have hA:dQ (bU w L) (.val (.bool false)) 4 (.at_ 36) 5 d:=fQ (k:=4) (by decide) h.ng rfl rfl rfl
 have hC:NP (bU w L) (.at_ 204) (.int .i64 c):= .atm rfl
 have hF:NP (bU w L) (.at_ 232) (.int .i64 ((c-1:Nat):Int)):= .atm rfl
 refine(ajP (B:=bU w L) (by kernel_rfl) rfl (T:=mR [⟨.neq,.atom 204,.atom 204,.lit (.bool false)⟩] [] [] [])
  (bD (aD ?_ aH) aH aH aH)
  (orc:=bT [⟨14,[sW (.val (.bool false)) 4 (.at_ 36) 5 (.at_ 204)],.val (.bool true)⟩,⟨109,[sW (.val (.bool false)) 4 (.at_ 36) 5 (.at_ 204),.val (.int .i64 0)],.at_ 232⟩]) (bB ?_)
  (f:=77) (ps:=[sW (.val (.bool false)) 4 (.at_ 36) 5 (.at_ 204),.val (.int .i64 0),.val (.bool false)]) rfl
  (r0:= .tup [.agg [.lit (.bool false),.atom (NR 0 4),.atom 36,.atom (NR 1 5),.atom 232,.atom 232],.lit (.int .i64 0)]) (by kernel_rfl) w (bG _ _ _)
  [oQ vi vf d c,.int .i64 0,.bool false] ⟨_,_,rfl,oR (w:=w) hA hC h,_,_,rfl,rfl,_,_,rfl,rfl,rfl⟩).mono ?_
 ·exact eT (x:=(c:Int)) (y:=(c:Int)) rfl rfl rfl (afI (by simp))
 ·refine aD (aU [NS hA hC] (yO (.val (.bool true)) rfl) ?_) (aD (aU [NS hA hC,rP (.val (.int .i64 0))] (yO hF rfl) ?_) aH)
  ·rintro w _ ⟨_,_,rfl,⟨vi,vf,rfl,h1,h2⟩,rfl⟩;exact(zK vi vf d c w (h.mk2 h1 h2)).mono (by rintro e w' ⟨rfl,hb⟩;exact⟨_,rfl,rfl,hb⟩)
  ·rintro w _ ⟨_,_,rfl,⟨vi,vf,rfl,h1,h2⟩,_,_,rfl,rfl,rfl⟩;exact(WQ vi vf d c w (h.mk2 h1 h2)).mono (by rintro e w' ⟨rfl,hb⟩;exact⟨_,rfl,rfl,hb⟩)
 ·rintro e w' ⟨x,rfl,⟨ρ,hρ,g1,g2⟩,hb⟩;refine⟨?_,hb⟩;obtain⟨p,q,e1,e2,e3⟩:=aG.1 g1;injection e3 with e3 _
  subst e3;obtain⟨ys,f1,f2⟩:=VV e1;obtain⟨y0,r0,a0,b0,rfl⟩:=aG.1 f2;obtain⟨y1,r1,a1,b1,rfl⟩:=aG.1 b0;obtain⟨y2,r2,a2,b2,rfl⟩:=aG.1 b1;obtain⟨y3,r3,a3,b3,rfl⟩:=aG.1 b2;unfold oQ at f1;injection f1 with f1
  injection f1 with f1
  injection f1 with k0 f1
  injection f1 with k1 f1
  injection f1 with k2 f1
  injection f1 with k3 f1
  subst k1 k3;obtain⟨zs,rfl,f3⟩:=ajO g2;obtain⟨z0,s0,c0,d0,rfl⟩:=aG.1 f3;obtain⟨z1,s1,c1,d1,rfl⟩:=aG.1 d0;have:=FD d1;subst this;have:=VW c1;subst this;obtain⟨us,rfl,f4⟩:=VV c0;obtain⟨u0,t0,m0,n0,rfl⟩:=aG.1 f4;obtain⟨u1,t1,m1,n1,rfl⟩:=aG.1 n0;obtain⟨u2,t2,m2,n2,rfl⟩:=aG.1 n1;obtain⟨u3,t3,m3,n3,rfl⟩:=aG.1 n2;obtain⟨u4,t4,m4,n4,rfl⟩:=aG.1 n3;obtain⟨u5,t5,m5,n5,rfl⟩:=aG.1 n4;have:=FD n5;subst this;have:=VW m0;subst this;rw[a1]at m1;injection m1 with m1;subst m1
  rw[a3]at m3;injection m3 with m3;subst m3
  rw[MF hρ (i:=36) (v:= .bool d.sep) rfl rfl]at m2;injection m2 with m2;subst m2
  rw[MF hρ (i:=232) (v:= .int .i64 ((c-1:Nat):Int)) rfl rfl]at m4;injection m4 with m4;subst m4
  rw[MF hρ (i:=232) (v:= .int .i64 ((c-1:Nat):Int)) rfl rfl]at m5;injection m5 with m5;subst m5
  unfold oQ;rw[h.ng]
end
section
open Go.RowKit Go.Sym Go.Proofs.Tryz
variable {d:Dr}{v:Nat}
def V4 (d:Dr):Nat:=num (d.int++d.frac)*10^(4-d.frac.length)
def rJ (d:Dr):Int:=MB (fH 2 (V4 d):Nat) (-99999999) 99999999
def mV (d:Dr):Dr:=iP (cz 2 (rJ d)) 1 2
def loD:Dc:=⟨true,dS,2⟩
def hiD:Dc:=⟨false,dS,2⟩
theorem GJ:bE 99999999=dS:=by
 have h:num dS=99999999:=by decide
 rw[<-h];exact OR (fun x hx=>by revert x;decide) (fun d r e=>by injection e with e _;rw[<-e];decide)
theorem ap6:cz 2 (-99999999)=loD:=by
 show aL ⟨_,bE 99999999,2⟩=_;rw[GJ];rfl
theorem ap7:cz 2 99999999=hiD:=by
 show aL ⟨_,bE 99999999,2⟩=_;rw[GJ];rfl
theorem iW (h:uQ d):eE d=cz 4 (V4 d:Nat):=by
 unfold eE;rw[jY 4 ⟨d.neg,d.int++d.frac,d.frac.length⟩ (h.di.append h.df) h.lf];congr 1;unfold nC V4;rw[h.ng];rfl
theorem anT (h:uQ d):V4 d<10^10:=by
 have h1:=gQ (h.di.append h.df);rw[aD2]at h1
 have e:10^(d.int.length+d.frac.length)*10^(4-d.frac.length)=10^(d.int.length+4):=by
  rw[<-aGH];congr 1;have:=h.lf;omega
 have h2:num (d.int++d.frac)*10^(4-d.frac.length)<10^(d.int.length+4):=by
  rw[<-e];exact Nat.mul_lt_mul_of_pos_right h1 (rE _)
 exact aEL h2 (aEY (by omega) (by have:=h.li;omega))
theorem ap8 (v:Nat):fH 2 v<=v/100+1:=by
 unfold fH;split<;>omega
theorem aaN (q:Nat):fH 2 (q*100)=q:=by
 unfold fH upB;have h1:q*100%10^2=0:=by omega
 have h2:q*100/10^2=q:=by omega
 rw[h1,h2];simp
theorem CK (hs:(cz 4 (v:Int)).s<=2):lV (cz 4 (v:Int)) 2=al 2 (fH 2 v:Nat):=by
 have hn:=wZ 4 (v:Int);have hz:(cz 4 (v:Int)).neg=false:=by rw[lW];exact aEC (by omega)
 rw[uO 2 _ (sL 4 _) hs];congr 1;unfold nC;rw[hz]
 have e:num (cz 4 (v:Int)).l*10^(2-(cz 4 (v:Int)).s)*100=v:=by
  rw[aFU,show 10^(2-(cz 4 (v:Int)).s)*100=10^(4-(cz 4 (v:Int)).s) by
   rw[show 100=10^2 from rfl,<-aGH];congr 1;omega]
  simpa using hn
 simp only[aE0,if_false];congr 1;rw[<-aaN (num (cz 4 (v:Int)).l*10^(2-(cz 4 (v:Int)).s)),e]
theorem T6 {m:Nat}(hs:(cz 4 (v:Int)).s=2+(m+1)):fH (m+1) (num (cz 4 (v:Int)).l)=fH 2 v:=by
 have hn:=wZ 4 (v:Int);have h4:=CU 4 (v:Int);have:m=0∨m=1:=by omega
 rcases this with rfl|rfl
 ·rw[hs]at hn;have e:v=num (cz 4 (v:Int)).l*10^1:=by simpa using hn.symm
  have:=ap5 1 1 (num (cz 4 (v:Int)).l);rw[<-e]at this;exact this.symm
 ·rw[hs]at hn;have e:v=num (cz 4 (v:Int)).l:=by simpa using hn.symm
  rw[<-e]
theorem DL (d:Dr):0<=rJ d/\rJ d<=99999999:=by
 unfold rJ MB;split
 ·omega
 ·split<;>omega
theorem KF (d:Dr):iO (al 2 (fH 2 (V4 d):Nat)) loD hiD=cz 2 (rJ d):=by
 rw[<-ap6,<-ap7,ZH];rfl
theorem aaO {q:Nat}(h:q<10^8):(eP (cz 2 (q:Int))).length<=6:=by
 have hd:=sL 2 (q:Int);have hs:=CU 2 (q:Int);have hn:=wZ 2 (q:Int);have h1:=afP (cz 2 (q:Int));rw[kK,QL]at h1;obtain⟨t,ht⟩:∃t,cz 2 (q:Int)=t:=⟨_,rfl⟩;rw[ht]at hd hs hn h1⊢
 have hw:num (eP t)<10^6:=by
  have h2:num (eP t)*10^t.s<=num t.l:=by omega
  have h3:num (eP t)*10^t.s*10^(2-t.s)<=q:=by
   have:=aE4 (10^(2-t.s)) h2;rw[hn]at this;simpa using this
  rw[aFU,<-aGH,show t.s+(2-t.s)=2 by omega]at h3;omega
 have e:eP t=bE (num (eP t)):=by
  have:eP t=bW (eP t):=by
   unfold eP;rw[dZ ((hd.wideL t.s).take _),dZ (dK _),eK]
  rw[this,dZ (QK hd),eK]
 rw[e];exact eO hw
theorem rL (d:Dr):uQ (mV d):=by
 obtain⟨h0,h1⟩:=DL d;obtain⟨q,hq⟩:∃q:Nat,rJ d=q:=⟨(rJ d).toNat,by omega⟩;unfold mV;rw[hq]at h0 h1⊢;have hl:=afQ (cz 2 (q:Int)) 1 2;rw[lC]at hl;have hw:=aaO (q:=q) (by omega);have hs:=CU 2 (q:Int);have hd:=akZ (sL 2 (q:Int)) 1 2;refine⟨?_,hd.1,hd.2,by omega,by omega,ak0 _ _ _⟩;show(aL (cz 2 (q:Int))).neg=false;rw[lC,lW];exact aEC (by omega)
theorem zM (h:uQ d):(eE d).l.length<=10/\(eE d).s<=4/\(al 2 (fH 2 (V4 d):Nat)).l.length<=10/\(cz 2 (rJ d)).l.length<=10/\(cz 2 (rJ d)).s<=2/\Dg (eE d).l:=by
 have hv:=anT h;have hr:=ap8 (V4 d);have hc:=DL d;refine⟨?_,?_,adG 2 10 _ (by simp;omega),AQ 2 10 _ (by omega),CU _ _,?_⟩
 ·rw[iW h];exact AQ 4 10 _ (by simpa using hv)
 ·rw[iW h];exact CU _ _
 ·rw[iW h];exact sL _ _
theorem M7 (v:Value)(h:uQ d)(w:World)(ha:aC w v (eE d).l):
  Calls prog 529 #[dv v (eE d),.int .i64 2,.int .i64 6] w fun e w'=>∃sl,e=.returned (.tuple #[dv sl (al 2 (fH 2 (V4 d):Nat)),.int .i64 0])/\aC w' sl (al 2 (fH 2 (V4 d):Nat)).l/\dC w.heap.size sl/\Below w.heap.size w w':=by
 obtain⟨l1,l2,_,_,_,hd⟩:=zM h
 have ht:aL (eE d)=eE d:=by rw[iW h,lC]
 by_cases hs:(eE d).s<=2
 ·have:=O6 v (eE d) 2 6 w ha hd (by omega) (by omega) (by omega) (by omega) (by rw[ht];exact hs);rw[show lV (eE d) 2=al 2 (fH 2 (V4 d):Nat) by rw[iW h]at hs⊢;exact CK hs]at this;exact this
 ·obtain⟨m,hm⟩:∃m,(eE d).s=2+(m+1):=⟨(eE d).s-3,by omega⟩;have hb:(eE d).neg=false:=by rw[iW h,lW];exact aEC (by omega)
  have:=M6 v (eE d) 2 m w ha hd (by omega) (by omega) (by omega) (by rw[ht];exact hb) (by rw[ht];exact hm);rw[ht,show fH (m+1) (num (eE d).l)=fH 2 (V4 d) by rw[iW h]at hm⊢;exact T6 hm]at this;exact this
theorem ak2 {B:aE}(ha:∀i x,B.A i=some x->i%2≠1)(h:uQ d)(h1:cG B 1 dS)(h2:cG B 2 dS)(h3:cG B 3 [1])(hA:dQ B (.val (.bool false)) 4 (.at_ 36) 5 d)(hE:dQ B (.val (.bool false)) 8 (.at_ 68) 9 (mV d))(ka:cG B 10 (eE d).l)(aa:B.A 240=some (.int .i64 (eE d).s))(kb:cG B 12 (al 2 (fH 2 (V4 d):Nat)).l)(kc:cG B 11 (cz 2 (rJ d)).l)(ab:B.A 244=some (.int .i64 (cz 2 (rJ d)).s)):
  aK B prog ⟨542,[TO,pG (.val (.bool false)) 4 (.at_ 36) 5],.tup [pG (.val (.bool false)) 8 (.at_ 68) 9,.val (.int .i64 0)]⟩:=by
 obtain⟨l1,l2,l3,l4,l5,hd⟩:=zM h
 have hx:dW B (.val (.bool false)) 10 (.at_ 240) (eE d):=⟨ka,by rw[show(eE d).neg=false by rw[iW h,lW];exact aEC (by omega)];exact .val _,.atm aa⟩
 have hc:(al 2 ((fH 2 (V4 d):Nat):Int)).neg=false:=by
  show decide (((fH 2 (V4 d):Nat):Int)<0)=false;exact aEC (by omega)
 have hr:dW B (.val (.bool false)) 12 (.val (.int .i64 2)) (al 2 (fH 2 (V4 d):Nat)):=⟨kb,by rw[hc];exact .val _,.val _⟩
 have hz:dW B (.val (.bool false)) 11 (.at_ 244) (cz 2 (rJ d)):=⟨kc,by rw[show(cz 2 (rJ d)).neg=false by rw[lW];exact aEC (by have:=DL d;omega)];exact .val _,.atm ab⟩
 have hg:dW B (.val (.bool true)) 1 (.val (.int .i64 2)) loD:=⟨h1,.val _,.val _⟩
 have hh:dW B (.val (.bool false)) 2 (.val (.int .i64 2)) hiD:=⟨h2,.val _,.val _⟩
 refine sD ha (bY (q:=mR [] [] [] []) (bD aH aH aH aH) (orc:=bT [⟨279,[pG (.val (.bool false)) 4 (.at_ 36) 5],.val (.bool true)⟩,⟨203,[pG (.val (.bool false)) 4 (.at_ 36) 5],dJ (.val (.bool false)) 10 (.at_ 240)⟩,
   ⟨529,[dJ (.val (.bool false)) 10 (.at_ 240),.val (.int .i64 2),.val (.int .i64 6)],.tup [dJ (.val (.bool false)) 12 (.val (.int .i64 2)),.val (.int .i64 0)]⟩,
   ⟨530,[dJ (.val (.bool false)) 12 (.val (.int .i64 2)),dJ (.val (.bool true)) 1 (.val (.int .i64 2)),dJ (.val (.bool false)) 2 (.val (.int .i64 2))],.tup [dJ (.val (.bool false)) 11 (.at_ 244),.val (.int .i64 0)]⟩,
   ⟨525,[dJ (.val (.bool false)) 11 (.at_ 244),.val (.int .i64 1),.val (.int .i64 2)],.tup [pG (.val (.bool false)) 8 (.at_ 68) 9,.val (.int .i64 0)]⟩]) (bB ?_)) rfl
  ⟨⟨trivial,jM h1,trivial,trivial,jM h2,trivial,trivial,jM h3,trivial,trivial,trivial,trivial,trivial,trivial,trivial,trivial,trivial,trivial⟩,hA.wf,trivial⟩ ⟨hE.wf,trivial,trivial⟩ (by kernel_rfl)
 refine aD (aU [ME hA] (yO (.val (.bool true)) rfl) ?_) (aD (aU [ME hA] (deR hx) ?_) (aD (aU [xC hx,rP (.val _),rP (.val _)] (au1 hr) ?_) (aD (aU [xC hr,xC hg,xC hh] (au1 hz) ?_) (aD (aU [xC hz,rP (.val _),rP (.val _)] (TJ hE) ?_) aH))))
 ·rintro w _ ⟨_,_,rfl,⟨vi,vf,rfl,i1,i2⟩,rfl⟩;exact(AO vi vf d w (h.stOK (aES _) i1 i2).ok).mono (by rintro e w' ⟨rfl,hb⟩;exact⟨_,rfl,rfl,hb⟩)
 ·rintro w _ ⟨_,_,rfl,⟨vi,vf,rfl,i1,i2⟩,rfl⟩;exact(adN vi vf d w (h.stOK (aES _) i1 i2).ok).mono (by rintro e w' ⟨sl,rfl,hi,hf,hb⟩;exact⟨_,rfl,⟨_,rfl,hi,hf⟩,hb⟩)
 ·rintro w _ ⟨_,_,rfl,⟨v,rfl,hv⟩,_,_,rfl,rfl,_,_,rfl,rfl,rfl⟩;exact(M7 v h w hv).mono (by rintro e w' ⟨sl,rfl,hi,hf,hb⟩;exact⟨_,rfl,⟨_,rfl,hi,hf⟩,hb⟩)
 ·rintro w _ ⟨_,_,rfl,⟨v,rfl,hv⟩,_,_,rfl,⟨v1,rfl,hj⟩,_,_,rfl,⟨v2,rfl,hk⟩,rfl⟩;have dn:Dg dS:=fun x hx=>by revert x;decide
  have:=ZF v v1 v2 (al 2 (fH 2 (V4 d):Nat)) loD hiD w hv hj hk (JS _ _) dn dn (by omega) (by decide) (by decide) (by show 2<=40;omega) (by decide) (by decide) (by decide);rw[KF]at this;exact this.mono (by rintro e w' ⟨sl,rfl,hi,hf,hb⟩;exact⟨_,rfl,⟨_,rfl,hi,hf⟩,hb⟩)
 ·rintro w _ ⟨_,_,rfl,⟨v,rfl,hv⟩,_,_,rfl,rfl,_,_,rfl,rfl,rfl⟩;exact(ZM v (cz 2 (rJ d)) 1 2 w hv (sL _ _) (by omega) (by omega) (by omega) (by omega)).mono (by rintro e w' ⟨vi,vf,rfl,i1,i2,f1,f2,hb⟩;exact⟨_,rfl,⟨_,_,rfl,i1,i2,fun _=>f1,fun _=>f2⟩,hb⟩)
end
section
open Go.RowKit Go.Sym Go.Proofs.Tryz
structure awW:Prop where
 a:∀B,cT oA (ZR B)=true
 b:∀B,cT oB (ZR B)=true
 c:∀B,cT oC (ZR B)=true
section
variable {F:Nat->Prop}{w:World}{sh ep:Nat}{rc:Rc}{gh:Value}{cf:Nat->Value}{s:Eg}{x:vH}
set_option maxRecDepth 100000 in
theorem agB (V:xG F w sh ep rc gh cf s x)(L:sQ rc gh)(G:mU s)(R:awW)(hb:(s.beh.getD []).length+s.ah.getD 0<=5):
  Calls prog 30 #[.pointer (some ⟨sh,0,none⟩),sB lF] w fun e w'=>e=.returned (sB (lN (vR (mV s.d) s).2))/\PW (F' F w w') w' sh ep rc gh cf (vR (mV s.d) s).1/\Kp F w w':=by
 obtain⟨hl,ha⟩:=DI hb
 have hd:=rL s.d
 obtain⟨D,hD⟩:∃D,mV s.d=D:=⟨_,rfl⟩
 obtain⟨t,ht⟩:∃t,eE s.d=t:=⟨_,rfl⟩
 obtain⟨r,hr⟩:∃r,al 2 (fH 2 (V4 s.d):Nat)=r:=⟨_,rfl⟩
 obtain⟨z,hz⟩:∃z,cz 2 (rJ s.d)=z:=⟨_,rfl⟩
 let X:List (Nat×Value):=[(34,.agg (ints D.int).toArray),(38,.agg (ints D.frac).toArray),(68,.bool D.sep),(224,.int .i64 ((aJ D).length:Nat)),(42,.agg (ints t.l).toArray),(240,.int .i64 t.s),(50,.agg (ints r.l).toArray),(46,.agg (ints z.l).toArray),(244,.int .i64 z.s)]
 have hX:kT X=true:=by kernel_rfl
 have hA:=uE (rc:=rc) (gh:=gh) (cf:=cf) (us:=x.us) (X:=X) (w:=w) G.d.ng
 have hS:pJ (cY rc gh cf s x.us w X) 8 68 9 224 D (aJ D).length:=⟨⟨by decide,by kernel_rfl⟩,⟨by decide,by kernel_rfl⟩,by kernel_rfl,by kernel_rfl⟩
 have hE:dQ (cY rc gh cf s x.us w X) (.val (.bool false)) 8 (.at_ 68) 9 D:=⟨hS.l,hS.r,by rw[<-hD,hd.ng];exact .val _,.atm hS.s⟩
 have ka:cG (cY rc gh cf s x.us w X) 10 t.l:=⟨by decide,by kernel_rfl⟩
 have kb:cG (cY rc gh cf s x.us w X) 12 r.l:=⟨by decide,by kernel_rfl⟩
 have kc:cG (cY rc gh cf s x.us w X) 11 z.l:=⟨by decide,by kernel_rfl⟩
 have aa:(cY rc gh cf s x.us w X).A 240=some (.int .i64 t.s):=by kernel_rfl
 have ab:(cY rc gh cf s x.us w X).A 244=some (.int .i64 z.s):=by kernel_rfl
 subst hD ht hr hz
 have hc:∀e∈ao7,aK (cY rc gh cf s x.us w X) prog e:=by
  show ∀e∈[gV 4,gV 5,MO,_,_],_;refine aD (eR cB.l (by have:=G.d.li;omega)) (aD (eR cB.r (by have:=G.d.lf;omega)) (aD (L.recd _ lD cQ) (aD (ak2 (ML hX) G.d CC CD CE hA hE ka aa kb kc ab) (aD ?_ aH))));refine aU [ME hE] (yO (.atm (v:= .int .i64 (aJ (mV s.d)).length) hS.c) rfl) ?_;rintro w _ ⟨_,_,rfl,⟨vi,vf,rfl,i1,i2⟩,rfl⟩;exact(FB vi vf (mV s.d) w (hd.stOK (aES _) i1 i2).ok).mono (by rintro e w' ⟨rfl,hb⟩;exact⟨_,rfl,rfl,hb⟩)
 have hf:dF s 0=some (s.beh.getD []++[(s.d,s.c)]):=by unfold dF;rw[aD6 (.inl rfl)]
 refine mI (told:=tC) V hX hl (bD aH aH aH aH) (E:=ao7) hc (line:=lF) (k:=8) (sp:=68) (j:=9) (c:=224) (runP:= .val (.int .i64 0)) rfl rfl (FL (R.a _) (R.b _) (R.c _) ha) (s':=⟨mV s.d,(aJ (mV s.d)).length,dF s 0,s.ah.map fun _=>0,0⟩) hS (.inr ?_) rfl trivial (fun G w2 y hy=>hy)
 have:=yZ (w:=w) (rc:=rc) (gh:=gh) (cf:=cf) (us:=x.us) (s:=s) hX hl
 rw[<-hf]at this
 exact this
end
end
end Go.Proofs.YtoeiaflkdcbkdaaGreatDoor
namespace Go.Proofs.YtoeiaflkdcbkdaaGreatDoor
open Go Go.Lib Go.Proofs.Tryz
def eY:List (List UInt8)->List UInt8
 |[]=>[]
 |[l]=>l
 |l::ls=>l++10::eY ls
theorem xS (l m:List UInt8)(ls:List (List UInt8)):eY (l::m::ls)=l++10::eY (m::ls):=rfl
theorem xU:∀(l r:List UInt8),(10:UInt8)∉l->index (l++10::r) [10]=l.length
 |[],r,_=>rfl
 |b::l,r,h=>by
  have hb:b≠10:=fun e=>h (by rw[e];exact aEH)
  have ih:=xU l r fun hx=>h (aEM _ hx)
  show(if [10].isPrefixOf (b::(l++10::r))then(0:Int)else if index (l++10::r) [10] == -1 then -1 else index (l++10::r) [10]+1)=_;rw[ih];have:([10]:List UInt8).isPrefixOf (b::(l++10::r))=false:=by simp[List.isPrefixOf,hb.symm]
  rw[this];have h2:((l.length:Int) == -1)=false:=by simp
  rw[h2];simp
theorem QW:∀(l:List UInt8),(10:UInt8)∉l->index l [10]= -1
 |[],_=>rfl
 |b::l,h=>by
  have hb:b≠10:=fun e=>h (by rw[e];exact aEH)
  have ih:=QW l fun hx=>h (aEM _ hx)
  show(if [10].isPrefixOf (b::l)then(0:Int)else if index l [10] == -1 then -1 else index l [10]+1)=_;rw[ih];have:([10]:List UInt8).isPrefixOf (b::l)=false:=by simp[List.isPrefixOf,hb.symm]
  rw[this];rfl
theorem KI (l r:List UInt8):(l++10::r).drop (l.length+([10]:List UInt8).length)=r:=by
 rw[<-List.drop_drop,List.drop_left];rfl
theorem GN:∀(l:List UInt8) (ls:List (List UInt8)),(∀x∈l::ls,(10:UInt8)∉x)->count (eY (l::ls)) [10]=ls.length
 |l,[],h=>count_miss (QW l (h l aEH))
 |l,m::ls,h=>by
  rw[xS,count_hit (by simp) (xU l _ (h l aEH)),KI,GN m ls fun x hx=>h x (aEM _ hx)];simp;omega
theorem CL:∀(l:List UInt8) (ls:List (List UInt8)),(∀x∈l::ls,(10:UInt8)∉x)->splitK [10] 0 ls.length (eY (l::ls))=l::ls
 |l,[],_=>rfl
 |l,m::ls,h=>by
  have hi:=xU l (eY (m::ls)) (h l aEH);show splitK [10] 0 (ls.length+1) (l++10::eY (m::ls))=_;unfold splitK;rw[hi];have h2:((l.length:Int) == -1)=false:=by simp
  rw[h2];have e1:((l.length:Int).toNat+0)=l.length:=by simp
  have e2:((l.length:Int).toNat+([10]:List UInt8).length)=l.length+([10]:List UInt8).length:=by simp
  rw[e1,e2,KI,CL m ls fun x hx=>h x (aEM _ hx)];simp
theorem UA {ls:List (List UInt8)}(ha:ls≠[])(h:∀x∈ls,(10:UInt8)∉x):
  countB ⟨(eY ls).toArray⟩ ⟨#[10]⟩+1=ls.length/\(splitB ⟨#[10]⟩ 0 (countB ⟨(eY ls).toArray⟩ ⟨#[10]⟩) ⟨(eY ls).toArray⟩).map Value.string=ls.map fun l=>Value.string ⟨l.toArray⟩:=by
 cases ls with
 |nil=>exact absurd rfl ha
 |cons l ls=>
  have hc:countB ⟨(eY (l::ls)).toArray⟩ ⟨#[10]⟩=ls.length:=by
   have:=GN l ls h;show count (eY (l::ls)).toArray.toList [10]=_;rw[aF3];exact this
  refine⟨by rw[hc];rfl,?_⟩
  rw[hc]
  have hs:=splitB_data ⟨#[10]⟩ 0 ls.length ⟨(eY (l::ls)).toArray⟩
  have e:splitK (⟨#[10]⟩:ByteArray).data.toList 0 ls.length (⟨(eY (l::ls)).toArray⟩:ByteArray).data.toList=l::ls:=by
   show splitK [10] 0 ls.length (eY (l::ls)).toArray.toList=_;rw[aF3];exact CL l ls h
  rw[e]at hs
  have e2:=aEK (List.map fun l=>Value.string ⟨l.toArray⟩) hs
  rw[List.map_map]at e2
  rw[<-e2]
  refine List.map_congr_left fun x _=>?_
  simp
end Go.Proofs.YtoeiaflkdcbkdaaGreatDoor
namespace Go.Proofs.YtoeiaflkdcbkdaaGreatDoor.topShell
open Go.ChangeShapes Go.WideShapes Go.ChangeAt Go.RowKit Go.Proofs.Tryz
abbrev qN:List (String×DataW Unit):=Rows.topShellRow.laid.filter fun x=>x.2.handleName?.isNone
noncomputable def nR (os:Os):World:=
 let w0:=World.holding prog os ⟨#[],#[],[]⟩
 {w0 with heap:=w0.heap.modify 3 fun
   |.cells _ t frozen=> .cells #[.iface 467 (.agg #[.pointer (some ⟨9,93,none⟩)])] t frozen
   |o=>o}
noncomputable def rO (os:Os):World:=(nR os).layVars prog qN
theorem NQ (os:Os):(rO os).os=os:=World.layVars_os _ _ _
def RZ:Array Value:=#[.int .i64 0,.slice none 0 0]
noncomputable abbrev gN (os:Os):World:=(rO os).forCall (fun _ _=>0) ⟨#[],RZ,[]⟩
end Go.Proofs.YtoeiaflkdcbkdaaGreatDoor.topShell
