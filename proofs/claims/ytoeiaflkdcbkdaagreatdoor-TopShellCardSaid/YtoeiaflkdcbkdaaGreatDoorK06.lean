/- TopShell, part 6 of 36. -/
import Derived.ArgAppend
import Derived.Deep.RegionHeldLaw
import Derived.Test.YtoeiaflkdcbkdaaGreatDoorK05
set_option maxHeartbeats 16000000
set_option linter.unusedVariables false
set_option linter.unusedSimpArgs false
namespace Go.Proofs.YtoeiaflkdcbkdaaGreatDoor
open Go.RowKit Go.Proofs.Tryz
section
variable {l:List Int}
def AU (x:Int):Bool:=decide (x<0∨10<x)
def iQ (x:Int):Bool:=decide (x=10)
def At (l:List Int):Prop:=∀x∈l,0<=x/\x<=10
theorem At.getD (h:At l)(j:Nat):0<=l.getD j 0/\l.getD j 0<=10:=by
 by_cases hj:j<l.length
 ·rw[aD9,aEB hj];exact h _ (aG3 hj)
 ·rw[aD9,aFI (by omega)];simp
theorem At.take (h:At l)(k:Nat):At (l.take k):=fun x hx=>h x (aGJ hx)
theorem At.drop (h:At l)(k:Nat):At (l.drop k):=fun x hx=>h x (aGI hx)
theorem At.append {r:List Int}(h:At l)(k:At r):At (l++r):=fun x hx=>(aEQ.1 hx).elim (h x) (k x)
theorem At.of_dg (h:Dg l):At l:=fun x hx=>by have:=h x hx;omega
theorem ajN (h:At l):dG AU l= -1:=by
 apply nW;intro j _;have:=h.getD j;unfold AU;rw[decide_eq_false_iff_not];omega
theorem sG (p:Int->Bool):∀(l:List Int),(dG p l= -1/\∀j,j<l.length->p (l.getD j 0)=false)∨∃k:Nat,k<l.length/\dG p l=k/\p (l.getD k 0)=true/\∀j,j<k->p (l.getD j 0)=false
 |[]=> .inl ⟨rfl,fun j h=>absurd h (by simp)⟩
 |x::l=>by
  by_cases hx:p x=true
  ·exact .inr ⟨0,by simp,by unfold dG;rw[aD6 hx];rfl,by simpa using hx,fun j h=>absurd h (by omega)⟩
  ·have ha:p x=false:=by simpa using hx
   rcases sG p l with⟨h1,h2⟩|⟨k,hk,h1,h2,h3⟩
   ·refine .inl ⟨by unfold dG;rw[aD4 hx,aD6 (by omega)],fun j hj=>?_⟩
    cases j with
    |zero=>simpa using ha
    |succ j=>simpa using h2 j (by simpa using hj)
   ·refine .inr ⟨k+1,by simpa using hk,by unfold dG;rw[aD4 hx,aD4 (by omega),h1];rfl,by simpa using h2,fun j hj=>?_⟩
    cases j with
    |zero=>simpa using ha
    |succ j=>simpa using h3 j (by omega)
def aN (n:Bool)(l:List Int):Dr:=if dG iQ l<0 then⟨n,l,false,[]⟩else⟨n,l.take (dG iQ l).toNat,true,l.drop ((dG iQ l).toNat+1)⟩
def oP (l:List Int):Prop:=dG iQ l<0∨∀x∈l.drop ((dG iQ l).toNat+1),x≠10
theorem JX (x:Int)(w:World):
  Calls prog 500 #[.int .i64 x] w fun e w'=>e=.returned (.bool (AU x))/\w=w':=by
 by_cases h0:x<0
 ·have e:AU x=true:=by simp[AU];omega
  have E:=aHL e;clear e;go_enter func500,ntmps500;go_wp2;go_ret;exact⟨jQ E.out.symm,rfl⟩
 ·have e:decide (10<x)=AU x:=by
   unfold AU;rw[decide_eq_decide];omega
  have E:=aHL e;clear e;go_enter func500,ntmps500;go_wp2;go_ret;exact⟨jQ E.out,rfl⟩
theorem PD (v:Value)(l:List Int)(w:World)(h:aC w v l):
  Calls prog 396 #[v,.func (.func 500) #[] #[]] w fun e w'=>e=.returned (.int .i64 (dG AU l))/\w=w':=by
 obtain⟨A,c,rfl,hd,hf,hA⟩:=h
 obtain⟨r,hr⟩:∃r,dG AU l=r:=⟨_,rfl⟩
 have HR:=aHL hr
 rw[hr];clear hr
 by_cases h0:0<l.length
 ·obtain⟨b,off,rfl,ha⟩:=hA h0;go_enter func396,ntmps396;go_wp2;go_loop [8] (fun i=>∃k:Nat,i=.int .i64 k/\k<=l.length/\Aside (∀j,j<k->AU (l.getD j 0)=false)) (fun i=>l.length-(intOf i).toNat)
  case atStart=>exact⟨0,rfl,aES _,fun j hj=>absurd hj (by omega)⟩
  case round=>
   obtain⟨k,rfl,hk,HS⟩:=hrel
   by_cases hb:k<l.length
   ·have c1:=ha k hb;obtain⟨x,hx⟩:∃x,l.getD k 0=x:=⟨_,rfl⟩;rw[hx]at c1;have HX:=aHL hx;obtain⟨q,hq⟩:∃q,AU x=q:=⟨_,rfl⟩;have HQ:=aHL hq;clear hx hq ha hA
    cases q with
    |true=>
     go_wp2_with(refine(JX x _).mono ?_;rintro e w' ⟨rfl,rfl⟩;rw[HQ.out])
     go_ret
     exact⟨kX (by rw[<-HR.out];exact(yJ AU l k hb HS.out (by rw[HX.out];exact HQ.out)).symm),rfl⟩
    |false=>
     go_wp2_with(refine(JX x _).mono ?_;rintro e w' ⟨rfl,rfl⟩;rw[HQ.out])
     go_round
     case rel=>
      refine⟨k+1,by go_num,by omega,fun j hj=>?_⟩
      by_cases hc:j<k
      ·exact HS.out j hc
      ·obtain rfl:j=k:=by omega
       rw[HX.out];exact HQ.out
     case measure=>simp[intOf];omega
   ·obtain rfl:k=l.length:=by omega
    clear ha hA;go_wp2;go_ret;exact⟨kX (by rw[<-HR.out];exact(nW AU l HS.out).symm),rfl⟩
 ·have hl:l=[]:=aD8 (by omega);subst hl;clear hA;go_enter func396,ntmps396;go_wp2;go_loop [8] (fun i=>i=.int .i64 0) (fun _=>0)
  case atStart=>rfl
  case round=>
   obtain rfl:=hrel
   go_wp2
   go_ret
   exact⟨kX HR.out,rfl⟩
theorem VS (v:Value)(l:List Int)(w:World)(h:aC w v l)(hd:At l):
  Calls prog 497 #[v] w fun e w'=>e=.returned (.bool false)/\w=w':=by
 have hi:=PD v l w h
 rw[ajN hd]at hi
 have hc:Calls prog 360 #[v,.func (.func 500) #[] #[]] w fun e w'=>e=.returned (.bool false)/\w=w':=by
  clear h;go_enter func360,ntmps360;go_wp2_with(refine hi.mono ?_;rintro e w' ⟨rfl,rfl⟩)
  go_ret;exact⟨rfl,rfl⟩
 clear hi h
 go_enter func497,ntmps497
 go_wp2_with(refine hc.mono ?_;rintro e w' ⟨rfl,rfl⟩)
 go_ret
 exact⟨rfl,rfl⟩
theorem VT (l:List Int):Lib.idxOf l 10=dG iQ l:=by
 have hi:∀x:Int,iQ x=true↔x=10:=fun x=>by simp[iQ]
 have hn:∀x:Int,iQ x=false↔x≠10:=fun x=>by simp[iQ]
 rcases sG iQ l with⟨h1,h2⟩|⟨k,hk,h1,h2,h3⟩
 ·rw[h1];have:=Lib.idxOf_miss l l.length 10 (fun j hj=>(hn _).1 (h2 j hj));rwa[aFM]at this
 ·rw[h1];have:=Lib.idxOf_hit l l.length k 10 hk (aD1 _) ((hi _).1 h2) (fun j hj=>(hn _).1 (h3 j hj));rwa[aFM]at this
theorem PE (v:Value)(l:List Int)(w:World)(h:aC w v l):
  Calls prog 488 #[v,.int .i64 10] w fun e w'=>e=.returned (.int .i64 (dG iQ l))/\w=w':=by
 obtain⟨A,c,rfl,hb,hc,hA⟩:=h
 by_cases h0:0<l.length
 ·obtain⟨b,off,rfl,ha⟩:=hA h0;refine(Tryz.slices_Index_int b off l.length c l 10 w (aD1 _) (by omega) ha).mono ?_;rintro e w' ⟨rfl,rfl⟩;rw[aFM,VT];exact⟨rfl,rfl⟩
 ·have hl:l=[]:=aD8 (by omega);subst hl;refine(Tryz.slices_Index_int_empty A c 10 w).mono ?_;rintro e w' ⟨rfl,rfl⟩;exact⟨by rw[VT],rfl⟩
theorem E9 (v:Value)(l:List Int)(w:World)(h:aC w v l)(hn:∀x∈l,x≠10):
  Calls prog 483 #[v,.int .i64 10] w fun e w'=>e=.returned (.bool false)/\w=w':=by
 obtain⟨A,c,rfl,hb,hc,hA⟩:=h
 by_cases h0:0<l.length
 ·obtain⟨b,off,rfl,ha⟩:=hA h0;refine(Tryz.slices_Contains_int b off l.length c l 10 w (aD1 _) (by omega) ha).mono ?_;rintro e w' ⟨rfl,rfl⟩;rw[aFM];refine⟨jQ ?_,rfl⟩;rw[List.contains_eq_mem];simpa using fun h=>hn 10 h rfl
 ·have hl:l=[]:=aD8 (by omega);subst hl;exact(Tryz.slices_Contains_int_empty A c 10 w).mono (by rintro e w' ⟨rfl,rfl⟩;exact⟨rfl,rfl⟩)
end
set_option maxRecDepth 100000 in
theorem of_any (n:Bool)(v:Value)(l:List Int)(w:World)(h:aC w v l)(ha:At l)(hl:l.length<=1000)(h1:oP l):
  Calls prog 498 #[.bool n,v] w fun e w'=>∃vi vf,e=.returned (.tuple #[mT vi vf (aN n l),.int .i64 0])/\aC w' vi (aN n l).int/\aC w' vf (aN n l).frac/\dC w.heap.size vi/\dC w.heap.size vf/\Below w.heap.size w w':=by
 obtain⟨D,hD⟩:∃D,aN n l=D:=⟨_,rfl⟩
 rw[hD]
 unfold aN at hD
 unfold oP at h1
 obtain⟨W1,hc⟩:∃W1,w.alloc (Obj.cells #[.bool false,.slice none 0 0,.bool false,.slice none 0 0] 260)=W1:=⟨_,rfl⟩
 have hj:W1.heap.size=w.heap.size+1:=by rw[<-hc];simp
 have z1:gZ W1 w.heap.size (.bool false) (.slice none 0 0) (.bool false) (.slice none 0 0):=by rw[<-hc];exact gZ.new _ _ _ _ _
 have hd:Below w.heap.size w W1:=by rw[<-hc];exact(Below.refl _ w).alloc (aD1 _) _
 have hb:=h.below hd (aD1 _)
 have HO:=aHL (VS v l W1 hb ha)
 have HI:=PE v l W1 hb
 have HZ:=aHL (fun W (hB:Below W1.heap.size W1 W)=>z1.below hB (by omega))
 have HB:=aHL hd
 have HW:=aHL hc
 obtain⟨m,hm⟩:∃n,l.length=n:=⟨_,rfl⟩
 obtain⟨A,c,rfl⟩:∃A c,v=.slice A m c:=by obtain⟨A,c,h⟩:=h.form;exact⟨A,c,by rw[h,<-hm]⟩
 have hn:m<=c/\c<=9223372036854775807:=by
  obtain⟨A',c',he,h0,h2,_⟩:=h;injection he with e1 e2 e3
  subst e3;omega
 rcases sG iQ l with⟨e1,_⟩|⟨k,hk,e1,e2,e3⟩
 ·rw[e1]at hD HI;rw[aD6 (by omega)]at hD;have HD:=aHL hD;have HC:=aHL (jI _ l W1 hb (by omega));have HI:=aHL HI;clear h h1 hD e1 hc z1 hd hb;go_enter func498,ntmps498;go_wp2_with fail
  rw[HW.out]
  go_wp2_with(first
   |(go_at_call 497;refine HO.out.mono ?_;rintro e w1 ⟨rfl,rfl⟩)
   |(go_at_call 488;refine HI.out.mono ?_;rintro e w1 ⟨rfl,rfl⟩))
  refine HC.out.mono ?_;rintro e w3 ⟨v3,rfl,o3,b3⟩;have Z:=HZ.out _ b3;have e0:=Z.c0;have e1:=Z.c1;have e2:=Z.c2;have e3:=Z.c3;have ef:=Z.fz;have f3:=eH o3 (aD1 _);have i3:aC w3 v3 l:=aC.of_own o3;have G:=aHL (And.intro i3 f3);rw[hm]at o3;clear f3 i3;obtain⟨A3,k3,rfl⟩:=bJ o3;clear o3;go_wp2_with fail
  refine aHP (aW (by rfl) _ _ w.heap.size _ _ _ _ _ rfl rfl (Z.setAll _ _ _ _) underlying260 rfl (by kernel_rfl)) rfl ?_;obtain⟨i3,f3⟩:=G.out;have f0:dC W1.heap.size (.slice none 0 0):=fun q hq=>by simp[Value.ownBlock]at hq
  rw[<-HD.out];exact⟨_,_,rfl,i3.set4 f3 (by omega) _ _ _ _,(aC.nil_ _ none 0 (by omega)).set4 f0 (show w.heap.size<W1.heap.size by omega) _ _ _ _,fun q hq=>by have:=f3 q hq;omega,fun q hq=>by simp[Value.ownBlock]at hq,Below.set4 (HB.out.trans (b3.mono (by omega))) (aD1 _) _ _ _ _⟩
 ·rw[e1]at hD HI h1;rw[aD4 (by omega)]at hD;simp only[aGL]at hD h1;have h1:=h1.resolve_left (show ¬((k:Int)<0) by omega);obtain⟨k1,hg⟩:∃k1,k+1=k1:=⟨_,rfl⟩;rw[hg]at hD h1;have HD:=aHL hD;have HI:=aHL HI;have hf:=hb.drop_ k1 (by omega);have Hb:=aHL (jI _ _ W1 (hb.take_ k (by omega)) (by simp;omega));have Hc:=aHL (fun W (hB:Below W1.heap.size W1 W)=>hf.below hB (aD1 _));have HN:=aHL (E9 _ _ W1 hf h1);have lk:(l.take k).length=k:=by simp;omega
  obtain⟨n4,ld⟩:∃n,(l.drop k1).length=n:=⟨_,rfl⟩;have ho:n4<=1000:=by rw[<-ld];simp;omega
  have hp:IntKind.i64.wrap ((k:Int)+1)=(k1:Int):=by rw[aR _ (by omega) (by omega)];omega
  have hr:k<=c:=by omega
  have hi:k1<=m:=by omega
  have Hd:=aHL lk;have Ha:=aHL ld;clear h h1 hD e1 hc z1 hd hb hf e2 e3 hg lk ld;go_enter func498,ntmps498;go_wp2_with fail
  rw[HW.out]
  go_wp2_with(first
   |(go_at_call 497;refine HO.out.mono ?_;rintro e w1 ⟨rfl,rfl⟩)
   |(go_at_call 488;refine HI.out.mono ?_;rintro e w1 ⟨rfl,rfl⟩)
   |(go_at_call 483;refine HN.out.mono ?_;rintro e w1 ⟨rfl,rfl⟩))
  all_goals(try(have hh:c=k1:=by assumption
                subst hh))
  all_goals
   refine Hb.out.mono ?_
   rintro e w3 ⟨v3,rfl,o3,b3⟩
   go_wp2_with fail
   refine(jI _ (l.drop _) w3 (by
    have q:=Hc.out _ b3
    first
     |(rw[aD4 (by assumption)]at q;exact q)
     |(rw[aD6 trivial]at q;rw[show m-c=0 by omega,aG5]at q;exact q)
     |(rw[aD6 rfl]at q;rw[show m-c=0 by omega,aG5]at q;exact q)) (by rw[Ha.out];omega)).mono ?_
   rintro e w4 ⟨v4,rfl,o4,ba⟩
   have b4:=b3.trans (ba.mono b3.size)
   have Z:=HZ.out _ b4
   have e0:=Z.c0
   have e1:=Z.c1
   have e2:=Z.c2
   have e3:=Z.c3
   have ef:=Z.fz
   have f3:=eH o3 (aD1 _)
   have f4:=eH o4 (aD1 _)
   have i3:aC w4 v3 (l.take k):=(aC.of_own o3).below ba (aD1 _)
   have i4:=aC.of_own o4
   have G:=aHL (And.intro (And.intro i3 f3) (And.intro i4 f4))
   clear f3 f4 i3 i4
   rw[Hd.out]at o3
   rw[Ha.out]at o4
   obtain⟨A3,k3,rfl⟩:=bJ o3
   obtain⟨A4,k4,rfl⟩:=bJ o4
   clear o3 o4
   have hs:=b3.size
   go_wp2_with fail
   refine aHP (aW (by rfl) _ _ w.heap.size _ _ _ _ _ rfl rfl (Z.setAll _ _ _ _) underlying260 rfl (by kernel_rfl)) rfl ?_
   rw[<-HD.out]
   obtain⟨⟨i3,f3⟩,i4,f4⟩:=G.out
   exact⟨_,_,rfl,i3.set4 f3 (by omega) _ _ _ _,i4.set4 f4 (by omega) _ _ _ _,fun q hq=>by have:=f3 q hq;omega,fun q hq=>by have:=f4 q hq;omega,Below.set4 (HB.out.trans (b4.mono (by omega))) (aD1 _) _ _ _ _⟩
section
variable {ops:Array Oper}{o:Oper}{a:Act}{Q:Exit->Act->World->Prop}
def App (w:World)(B:Nat)(e:TypeId)(v:Value)(l:List Int):Prop:=
 aC w v l/\((∃A,v=.slice A l.length l.length)∨w.ownsRow B e 1 v l.length (ints l))
section
variable {P:Program}(w:World)
theorem tT (B:Nat)(t ty e:TypeId)(i:TypeInfo)(ht:P.underlying t=some (.slice e))(hi:P.info? e=some i)(hz:i.zero=some (.int .i64 0))(ha:i.size=1)(hg:i.bytes=8)(v:Value)(xs:List Int)(hv:App w B e v xs)(u:Value)(l:List Int)(hu:aC w u l)(hh:xs.length+l.length<=1000000)(hB:B<=w.heap.size):
  ∃v' w',(Builtin.append_ #[t,t] ty #[v,u]).run P w=.ok v' w'/\App w' B e v' (xs++l)/\Below B w w'/\((∃A,v=.slice A xs.length xs.length)->Below w.heap.size w w'):=by
 obtain⟨hx,h⟩:=hv
 by_cases hc:∃A,v=.slice A xs.length xs.length
 ·obtain⟨A,rfl⟩:=hc;clear h;by_cases hl:0<l.length
  ·obtain⟨b,off,c,rfl⟩:∃b off c,u=.slice (some ⟨b,off,none⟩) l.length c:=by
    obtain⟨A',c',rfl,_,_,hA⟩:=hu;obtain⟨b,off,hb,_⟩:=hA hl;exact⟨b,off,c',by rw[hb]⟩
   have hd:=hu.news hl;by_cases h0:0<xs.length
   ·obtain⟨b0,oa,rfl⟩:∃b off,A=some ⟨b,off,none⟩:=by
     obtain⟨A',c',he,_,_,hA⟩:=hx;injection he with e1
     subst e1;obtain⟨b,off,hb,_⟩:=hA h0;exact⟨b,off,hb⟩
    have holds:=hx.news h0;obtain⟨v',w',k1,k2,k3⟩:=run_append_arg_grows (P:=P) w t ty e i (.int .i64 0) 1 8 ht hi hz ha hg rfl (by decide) ⟨b0,oa,none⟩ xs.length xs.length (ints xs) (by rw[aQ];omega) holds ⟨b,off,none⟩ l.length c (ints l) (by rw[aQ];omega) hd (by omega) (by unfold maxLen;omega) (by omega);have k4:w'.ownsRow w.heap.size e 1 v' (xs++l).length (ints (xs++l)):=by rw[aD2,aS];exact k2
    exact⟨v',w',k1,⟨aC.of_own k4,.inr (eZ k4 hB)⟩,(Below.refl B w).grown k3 hB (fun j hj=>by cases hj),fun _=>(Below.refl _ w).grown k3 (aD1 _) (fun j hj=>by cases hj)⟩
   ·obtain rfl:xs=[]:=aD8 (by omega)
    cases A with
    |none=>
     obtain⟨v',w',k1,k2,k3,_⟩:=run_append_own (P:=P) w B t ty e i (.int .i64 0) 1 8 ht hi hz ha hg rfl (by decide) (.slice none 0 0) 0 [] (aHN _ _ _ _) ⟨b,off,none⟩ l.length c (ints l) (by rw[aQ];omega) hd (NT l) (by unfold maxLen;omega) (by omega) hB
     have k4:w'.ownsRow B e 1 v' ([]++l).length (ints ([]++l)):=by simpa using k2
     exact⟨v',w',k1,⟨aC.of_own k4,.inr k4⟩,(Below.refl B w).grown k3 hB (fun j hj=>by simp[Value.ownBlock]at hj),fun _=>(Below.refl _ w).grown k3 (aD1 _) (fun j hj=>by simp[Value.ownBlock]at hj)⟩
    |some a=>
     obtain⟨v',w',k1,k2,k3⟩:=run_append_arg_grows (P:=P) w t ty e i (.int .i64 0) 1 8 ht hi hz ha hg rfl (by decide) a 0 0 [] rfl (fun j u h=>by simp at h) ⟨b,off,none⟩ l.length c (ints l) (by rw[aQ];omega) hd (by omega) (by unfold maxLen;omega) (by omega)
     have k4:w'.ownsRow w.heap.size e 1 v' ([]++l).length (ints ([]++l)):=by simpa using k2
     exact⟨v',w',k1,⟨aC.of_own k4,.inr (eZ k4 hB)⟩,(Below.refl B w).grown k3 hB (fun j hj=>by cases hj),fun _=>(Below.refl _ w).grown k3 (aD1 _) (fun j hj=>by cases hj)⟩
  ·obtain rfl:l=[]:=aD8 (by omega);obtain⟨A',c',rfl⟩:=hu.form;refine⟨.slice A xs.length xs.length,w,?_,⟨by simpa using hx,.inl ⟨A,by simp⟩⟩,Below.refl _ _,fun _=>Below.refl _ _⟩
   cases A<;>cases A'<;>simp[Builtin.append_,aHV ht,sizeOf,typeInfo,hi,Builtin.lenOf,Builtin.firstCells,loadCells,loadCellsFrom,storeCells]
 ·have hf:=h.resolve_left hc;obtain⟨v',w',k1,k2,k3⟩:=sM (P:=P) w B t ty e i ht hi hz ha hg v xs.length (ints xs) hf u l hu hh hB;have k4:w'.ownsRow B e 1 v' (xs++l).length (ints (xs++l)):=by rw[aD2,aS];exact k2
  exact⟨v',w',k1,⟨aC.of_own k4,.inr k4⟩,(Below.refl B w).grown k3 hB (fun j hj=>(hf.lt j hj).1),fun k=>absurd k hc⟩
theorem yP {rest:List Oper}(hb:o.guard=none)(s x:Operand)(t:TypeId)(ho:o.op=.call {callee:= .builtin .append,args:=#[s,x],argTypes:=#[t,t]})(B:Nat)(e:TypeId)(i:TypeInfo)(ht:P.underlying t=some (.slice e))(hi:P.info? e=some i)(hz:i.zero=some (.int .i64 0))(ha:i.size=1)(hc:i.bytes=8)(v:Value)(xs:List Int)(hs:a.eval s=v)(hv:App w B e v xs)(u:Value)(l:List Int)(hx:a.eval x=u)(hu:aC w u l)(hd:xs.length+l.length<=1000000)(hB:B<=w.heap.size)(h:∀v' w',App w' B e v' (xs++l)->Below B w w'->((∃A,v=.slice A xs.length xs.length)->Below w.heap.size w w')->wpList P ops Q rest (a.put o.dst v') w'):
  wpList P ops Q (o::rest) a w:=by
 refine wpList_plain hb fun K hK=>?_
 obtain⟨v',w',hr,h2,h3,h4⟩:=tT (P:=P) w B t o.type e i ht hi hz ha hc v xs hv u l hu hd hB
 unfold Oper.wp execOp
 simp only[ho,resolve,invoke,builtin,aH2,aH3,aH1,aGP,aFB,aGS,hs,hx,hr]
 exact hK _ _ (h v' w' h2 h3 h4)
theorem sO {K:Act->World->Prop}{E:Prop}(hb:o.guard=none)(s x:Operand)(t:TypeId)(ho:o.op=.call {callee:= .builtin .append,args:=#[s,x],argTypes:=#[t,t]})(B:Nat)(e:TypeId)(i:TypeInfo)(ht:P.underlying t=some (.slice e))(hi:P.info? e=some i)(hz:i.zero=some (.int .i64 0))(ha:i.size=1)(hc:i.bytes=8)(v:Value)(xs:List Int)(hs:a.eval s=v)(hv:App w B e v xs)(u:Value)(l:List Int)(hx:a.eval x=u)(hu:aC w u l)(hd:xs.length+l.length<=1000000)(hB:B<=w.heap.size)(h:∀v' w',App w' B e v' (xs++l)->Below B w w'->K (a.put o.dst v') w'):
  if Region.wanted o (yielded ops a.tmps)=true then Oper.wp P o a w K Q else E:=by
 have hw:Region.wanted o (yielded ops a.tmps)=true:=by simp[Region.wanted,hb]
 rw[aD6 hw]
 obtain⟨v',w',hr,h2,h3,_⟩:=tT (P:=P) w B t o.type e i ht hi hz ha hc v xs hv u l hu hd hB
 unfold Oper.wp execOp
 simp only[ho,resolve,invoke,builtin,aH2,aH3,aH1,aGP,aFB,aGS,hs,hx,hr]
 exact h v' w' h2 h3
end
theorem AW {d:Dr}(h1:Dg d.int)(h2:Dg d.frac):At (aJ d):=by
 unfold aJ
 cases d.sep
 ·simpa using(At.of_dg h1).append (At.of_dg h2)
 ·exact((At.of_dg h1).append (fun x hx=>by simp at hx;omega)).append (At.of_dg h2)
theorem dM (d:Dr)(h1:d.int.length<=40)(h2:d.frac.length<=40):(aJ d).length<=81:=by
 unfold aJ
 cases d.sep<;>simp<;>omega
set_option maxRecDepth 100000 in
theorem FA (vi vf va:Value)(d:Dr)(i j:Nat)(at_:List Int)(w:World)(h:qF w vi vf d)(hv:aC w va at_)(ha:At at_)(la:at_.length<=100)(hx:i<=j)(hj:j<=(aJ d).length)(h1:oP ((aJ d).take i++at_++(aJ d).drop j)):
  Calls prog 486 #[mT vi vf d,.int .i64 i,.int .i64 j,va] w fun e w'=>∃vb vc,e=.returned (.tuple #[mT vb vc (aN d.neg ((aJ d).take i++at_++(aJ d).drop j)),.int .i64 0])/\
   aC w' vb (aN d.neg ((aJ d).take i++at_++(aJ d).drop j)).int/\aC w' vc (aN d.neg ((aJ d).take i++at_++(aJ d).drop j)).frac/\dC w.heap.size vb/\dC w.heap.size vc/\Below w.heap.size w w':=by
 obtain⟨i0,hi,hh,hk,hl⟩:=aHT dI
 obtain⟨na,hf⟩:∃n,at_.length=n:=⟨_,rfl⟩
 obtain⟨Av,cv,rfl⟩:∃A c,va=.slice A na c:=by obtain⟨A,c,h⟩:=hv.form;exact⟨A,c,by rw[h,<-hf]⟩
 obtain⟨W2,hn,s2,z1,z2,hc⟩:∃W2,(w.alloc (Obj.cells #[.bool d.neg,vi,.bool d.sep,vf] 260)).alloc (Obj.cells #[.bool false,.slice none 0 0,.bool false,.slice none 0 0] 260)=W2/\W2.heap.size=w.heap.size+2/\
   gZ W2 w.heap.size (.bool d.neg) vi (.bool d.sep) vf/\gZ W2 (w.heap.size+1) (.bool false) (.slice none 0 0) (.bool false) (.slice none 0 0)/\Below w.heap.size w W2:=by
  refine⟨_,rfl,by simp,(aHR _ _ (by simp)).trans (gZ.new w _ _ _ _),?_,((Below.refl _ w).alloc (aD1 _) _).alloc (by simp) _⟩
  have:=gZ.new (w.alloc (Obj.cells #[.bool d.neg,vi,.bool d.sep,vf] 260)) (.bool false) (.slice none 0 0) (.bool false) (.slice none 0 0)
  simpa using this
 have h2:=h.below hc (aD1 _)
 have HM:=aHL (fun W (hB:Below W2.heap.size W2 W)=>AO vi vf d W (h2.below hB (aD1 _)))
 have HO:=aHL (fun W (hB:Below W2.heap.size W2 W)=>VS _ at_ W ((hv.below hc (aD1 _)).below hB (aD1 _)) ha)
 have HA:=aHL (fun W (hB:Below W2.heap.size W2 W)=>JW vi vf d W (h2.below hB (aD1 _)))
 have HV:=aHL (fun W (hB:Below W2.heap.size W2 W)=>(hv.below hc (aD1 _)).below hB (aD1 _))
 have hat:=AW h.di h.df
 have ho:=dM d h.li h.lf
 obtain⟨L,hL⟩:∃L,aJ d=L:=⟨_,rfl⟩
 rw[hL]at hat ho h1 hj HA⊢
 obtain⟨N,hN⟩:∃N,L.take i++at_++L.drop j=N:=⟨_,rfl⟩
 rw[hN]at h1⊢
 have hp:At N:=by rw[<-hN];exact((hat.take i).append ha).append (hat.drop j)
 have hz:N.length<=200:=by rw[<-hN];simp;omega
 have HF:=aHL (fun X W (k:aC W X N)=>of_any d.neg X N W k hp (by omega) h1)
 obtain⟨D,hD⟩:∃D,aN d.neg N=D:=⟨_,rfl⟩
 rw[hD]at HF⊢
 obtain⟨nI,hr⟩:∃m,D.int.length=m:=⟨_,rfl⟩
 obtain⟨nF,hs⟩:∃m,D.frac.length=m:=⟨_,rfl⟩
 have He:=aHL hr
 have Hf:=aHL hs
 clear hr hs hD
 obtain⟨n,li,sp,lf⟩:=d
 simp only[mT]at *
 obtain⟨m,hm⟩:∃m,L.length=m:=⟨_,rfl⟩
 rw[hm]at ho hj HA
 have HW:=aHL hn
 have HZ:=aHL (fun W (hB:Below W2.heap.size W2 W)=>And.intro (z1.below hB (by omega)) (z2.below hB (by omega)))
 have HB:=aHL hc
 have HN:=aHL hN
 have Ha:=aHL hm
 have Hg:=aHL hf
 have Hb:Hid ((L.take i++at_).length+(L.drop j).length<=1000000):=by show _<=_;simp;omega
 have q0:=z1.c0
 have q1:=z1.c1
 have q2:=z1.c2
 have q3:=z1.c3
 have g1:¬((i:Int)<0):=by omega
 have g2:¬((j:Int)<(i:Int)):=by omega
 have g3:¬((m:Int)<(j:Int)):=by omega
 have g4:i<=m:=by omega
 rw[hf]at la
 clear hn z1 z2 hc h h2 hv hat hp h1 hN hm hL hf
 go_enter func486,ntmps486
 go_wp2_with fail
 rw[HW.out]
 go_wp2_with(first
  |(go_at_call 279;refine(HM.out _ (Below.refl _ _)).mono ?_;rintro e w3 ⟨rfl,b3⟩
    have Z3:=(HZ.out _ b3).1
    clear q0 q1 q2 q3
    have q0:=Z3.c0
    have q1:=Z3.c1
    have q2:=Z3.c2
    have q3:=Z3.c3
    clear Z3)
  |(go_at_call 497;refine(HO.out _ b3).mono ?_;rintro e w4 ⟨rfl,rfl⟩))
 refine(HA.out _ b3).mono ?_
 rintro e w5 ⟨v5,rfl,o5,bc⟩
 have b5:=b3.trans (bc.mono b3.size)
 have i5:=aHL (aC.of_own (l:=L) (by rw[Ha.out];exact o5))
 obtain⟨A5,c5,rfl⟩:=bJ o5
 have hA:m<=c5:=by
  obtain⟨A',c',he,h0,_,_⟩:=i5.out;injection he with e1 e2 e3
  subst e3;have:=Ha.out;omega
 have Hh:Hid ((L.take i).length=i):=by
  show(L.take i).length=i;have:=Ha.out;simp;omega
 have lt:(L.take i).length=i:=by have:=Ha.out;simp;omega
 have aa:Hid (App w5 W2.heap.size 3 (.slice A5 i i) (L.take i)):=by
  show App w5 W2.heap.size 3 (.slice A5 i i) (L.take i);have q:=i5.out.take_ i (by rw[Ha.out];omega);refine⟨?_,.inl ⟨A5,by rw[lt]⟩⟩;obtain⟨A',c',he,h0,h2,h3⟩:=q;injection he with e1 e2 e3
  subst e1;exact⟨A5,i,by rw[lt],by rw[lt];exact aD1 _,by omega,h3⟩
 clear lt
 clear o5 bc q0 q1 q2 q3
 go_wp2_with(first
  |(at_builtin
    refine yP _ rfl _ _ 22 rfl W2.heap.size 3 i0 underlying22 hi hh hk hl (.slice A5 i i) (L.take i) (by simp[Act.eval,Act.put]) (aa.out) (.slice Av na cv) at_ (by simp[Act.eval,Act.put]) (HV.out _ b5) (by rw[Hg.out];simp;omega) b5.size ?_
    intro v6 w6 hd bd ca
    have X6:Aside (App w6 W2.heap.size 3 v6 (L.take i++at_)/\Below W2.heap.size W2 w6/\aC w6 (.slice A5 m c5) L):=⟨hd,b5.trans bd,i5.out.below (ca ⟨A5,by rw[Hh.out]⟩) (aD1 _)⟩
    clear hd bd ca))
 have q0:=(HZ.out _ X6.out.2.1).1.c0
 have hg:w.heap.size<W2.heap.size:=by omega
 have qW:W2.cell? ⟨w.heap.size,0,none⟩=some (.bool n):=(HZ.out _ (Below.refl _ _)).1.c0
 have Xa:Aside (App w6.drew W2.heap.size 3 v6 (L.take i++at_)/\Below W2.heap.size W2 w6.drew/\aC w6.drew (.slice A5 m c5) L):=⟨X6.out.1,⟨X6.out.2.1.os,X6.out.2.1.tape,X6.out.2.1.output,X6.out.2.1.size,X6.out.2.1.block⟩,X6.out.2.2⟩
 have Hc:=aHL (Xa.out.2.2.drop_ j (by rw[Ha.out];omega))
 by_cases ht:c5=j
 ·have u5:Hid (aC w6.drew (.slice A5 (m-j) 0) (L.drop j)):=by
   have q:=Hc.out;rw[aD6 ht,show c5-j=0 by omega]at q;exact q
  clear Hc
  go_region_held_law (fun w'=>w'.cell? ⟨w.heap.size,0,none⟩=some (.bool n))
   (first|go_keep|(rw[X8.out.2.2.2.2.cell (p:=⟨w.heap.size,0,none⟩) hg];exact qW)|(rw[X7.out.2.cell (p:=⟨w.heap.size,0,none⟩) hg];exact qW))
   (first
     |(refine sO _ rfl _ _ 22 rfl W2.heap.size 3 i0 underlying22 hi hh hk hl v6 (L.take i++at_) (by simp[Act.eval,Act.put]) Xa.out.1 (.slice A5 (m-j) 0) (L.drop j) (by simp[Act.eval,Act.put]) u5.out Hb.out Xa.out.2.1.size ?_
       intro v7 w7 hb ba
       have X7:Aside (aC w7 v7 N/\Below W2.heap.size W2 w7):=⟨by rw[<-HN.out];exact hb.1,Xa.out.2.1.trans ba⟩
       clear hb ba)
     |(go_at_call 498
       refine(HF.out _ w7 X7.out.1).mono ?_
       rintro e w8 ⟨vd,ve,rfl,i8,j8,f8,g8,bb⟩
       obtain⟨A8,c8,h8⟩:=i8.form
       obtain⟨B8,d8,k8⟩:=j8.form
       rw[He.out]at h8
       rw[Hf.out]at k8
       subst h8 k8
       have X8:Aside (aC w8 _ D.int/\aC w8 _ D.frac/\dC w7.heap.size _/\dC w7.heap.size _/\Below W2.heap.size W2 w8):=⟨i8,j8,f8,g8,X7.out.2.trans (bb.mono X7.out.2.size)⟩
       have Z8:=(HZ.out _ X8.out.2.2.2.2).2
       have e0:=Z8.c0
       have e1:=Z8.c1
       have e2:=Z8.c2
       have e3:=Z8.c3
       have ef:=Z8.fz
       have Hd:=aHL Z8
       clear i8 j8 f8 g8 bb Z8))
  go_wp2;obtain⟨i8,j8,f8,g8,b8⟩:=X8.out;have h7:=X7.out.2.size;refine aHP (aW (by rfl) _ _ (w.heap.size+1) _ _ _ _ _ rfl rfl (Hd.out.setAll _ _ _ _) underlying260 rfl (by kernel_rfl)) rfl ?_;exact⟨_,_,rfl,i8.set4 f8 (by omega) _ _ _ _,j8.set4 g8 (by omega) _ _ _ _,fun q hq=>by have:=f8 q hq;omega,fun q hq=>by have:=g8 q hq;omega,Below.set4 (HB.out.trans (b8.mono (by omega))) (by omega) _ _ _ _⟩
 ·have u5:Hid (aC w6.drew (.slice (A5.map (·.add j)) (m-j) (c5-j)) (L.drop j)):=by
   have q:=Hc.out;rw[aD4 ht]at q;exact q
  clear Hc
  go_region_held_law (fun w'=>w'.cell? ⟨w.heap.size,0,none⟩=some (.bool n))
   (first|go_keep|(rw[X8.out.2.2.2.2.cell (p:=⟨w.heap.size,0,none⟩) hg];exact qW)|(rw[X7.out.2.cell (p:=⟨w.heap.size,0,none⟩) hg];exact qW))
   (first
     |(refine sO _ rfl _ _ 22 rfl W2.heap.size 3 i0 underlying22 hi hh hk hl v6 (L.take i++at_) (by simp[Act.eval,Act.put]) Xa.out.1 (.slice (A5.map (·.add j)) (m-j) (c5-j)) (L.drop j) (by simp[Act.eval,Act.put]) u5.out Hb.out Xa.out.2.1.size ?_
       intro v7 w7 hb ba
       have X7:Aside (aC w7 v7 N/\Below W2.heap.size W2 w7):=⟨by rw[<-HN.out];exact hb.1,Xa.out.2.1.trans ba⟩
       clear hb ba)
     |(go_at_call 498
       refine(HF.out _ w7 X7.out.1).mono ?_
       rintro e w8 ⟨vd,ve,rfl,i8,j8,f8,g8,bb⟩
       obtain⟨A8,c8,h8⟩:=i8.form
       obtain⟨B8,d8,k8⟩:=j8.form
       rw[He.out]at h8
       rw[Hf.out]at k8
       subst h8 k8
       have X8:Aside (aC w8 _ D.int/\aC w8 _ D.frac/\dC w7.heap.size _/\dC w7.heap.size _/\Below W2.heap.size W2 w8):=⟨i8,j8,f8,g8,X7.out.2.trans (bb.mono X7.out.2.size)⟩
       have Z8:=(HZ.out _ X8.out.2.2.2.2).2
       have e0:=Z8.c0
       have e1:=Z8.c1
       have e2:=Z8.c2
       have e3:=Z8.c3
       have ef:=Z8.fz
       have Hd:=aHL Z8
       clear i8 j8 f8 g8 bb Z8))
  go_wp2;obtain⟨i8,j8,f8,g8,b8⟩:=X8.out;have h7:=X7.out.2.size;refine aHP (aW (by rfl) _ _ (w.heap.size+1) _ _ _ _ _ rfl rfl (Hd.out.setAll _ _ _ _) underlying260 rfl (by kernel_rfl)) rfl ?_;exact⟨_,_,rfl,i8.set4 f8 (by omega) _ _ _ _,j8.set4 g8 (by omega) _ _ _ _,fun q hq=>by have:=f8 q hq;omega,fun q hq=>by have:=g8 q hq;omega,Below.set4 (HB.out.trans (b8.mono (by omega))) (by omega) _ _ _ _⟩
end
end Go.Proofs.YtoeiaflkdcbkdaaGreatDoor
namespace Go.Proofs.YtoeiaflkdcbkdaaGreatDoor
section
variable {K:Nat}{d:Dc}
theorem ajG (K:Nat):cz K 0=⟨false,[],0⟩:=by
 unfold cz al;rw[show(0:Int).natAbs=0 from rfl,fK];exact wV _ _ _ Dg.nil mA
theorem TA (h:d.neg=false):0<=nC K d:=by
 unfold nC;rw[h,aD4 (by simp)];omega
theorem TB (h:d.neg=true):nC K d<=0:=by
 unfold nC;rw[h,aD6 rfl];omega
theorem lW (K:Nat)(v:Int):(cz K v).neg=decide (v<0):=by
 rcases aGM v 0 with h|h|h
 ·cases hn:(cz K v).neg with
  |true=>simp[h]
  |false=>
   have:=TA (K:=K) hn
   rw[wW]at this
   omega
 ·subst h;rw[ajG];rfl
 ·cases hn:(cz K v).neg with
  |false=>simp;omega
  |true=>
   have:=TB (K:=K) hn
   rw[wW]at this
   omega
theorem wZ (K:Nat)(v:Int):num (cz K v).l*10^(K-(cz K v).s)=v.natAbs:=by
 have h:=wW K v;unfold nC at h;split at h<;>omega
def Sg (d:Dc):Prop:=d.neg=true->num d.l≠0
theorem anL (K:Nat)(v:Int):Sg (cz K v):=by
 intro hn h0;have h1:=wZ K v;rw[h0,Nat.zero_mul]at h1;rw[lW]at hn;have:=aE3 hn;omega
theorem rE (k:Nat):0<10^k:=Nat.pow_pos (by omega)
theorem C9 (K n:Nat)(d:Dc)(h1:d.s<=n)(h2:n<=K):nC K d=if d.neg=true then -((num (aZ d.l (n-d.s)):Nat):Int)*((10^(K-n):Nat):Int)else((num (aZ d.l (n-d.s)):Nat):Int)*((10^(K-n):Nat):Int):=by
 unfold nC;rw[tR,show K-d.s=(n-d.s)+(K-n) by omega,aGH,<-aFU];split
 ·push_cast;rw[Int.neg_mul]
 ·push_cast;rfl
theorem yK (x y:Int)(p:Nat)(hp:0<p):eS (x*(p:Int)) (y*(p:Int))=eS x y:=by
 have ha:(0:Int)<(p:Int):=by omega
 rcases aGM x y with h|h|h
 ·rw[eU h,eU (Int.mul_lt_mul_of_pos_right h ha)]
 ·subst h;rw[iG,iG]
 ·rw[fE h,fE (Int.mul_lt_mul_of_pos_right h ha)]
theorem adF (x y:Int):eS (-x) (-y)=eS y x:=by
 rcases aGM x y with h|h|h
 ·rw[fE h,fE (by omega)]
 ·subst h;rw[iG,iG]
 ·rw[eU h,eU (by omega)]
theorem ajH (K:Nat)(a b:Dc)(ha:Sg a)(hb:Sg b)(sa:a.s<=K)(sb:b.s<=K):jN a b=eS (nC K a) (nC K b):=by
 have h1:=C9 K (max a.s b.s) a (by omega) (by omega);have h2:=C9 K (max a.s b.s) b (by omega) (by omega);have hp:=rE (K-max a.s b.s)
 have e1:a.neg=true->num (aZ a.l (max a.s b.s-a.s))≠0:=fun hn h0=>by
  rw[tR]at h0;rcases Nat.mul_eq_zero.1 h0 with h|h
  ·exact ha hn h
  ·have:=rE (max a.s b.s-a.s);omega
 have e2:b.neg=true->num (aZ b.l (max a.s b.s-b.s))≠0:=fun hn h0=>by
  rw[tR]at h0;rcases Nat.mul_eq_zero.1 h0 with h|h
  ·exact hb hn h
  ·have:=rE (max a.s b.s-b.s);omega
 unfold jN;rw[h1,h2];generalize num (aZ a.l (max a.s b.s-a.s))=A at *;generalize num (aZ b.l (max a.s b.s-b.s))=B at *;generalize 10^(K-max a.s b.s)=p at *
 cases hna:a.neg<;>cases hnb:b.neg
 ·simp only[aE0,if_false,and_self];exact(yK _ _ p hp).symm
 ·have:=e2 hnb;simp only[aE0,if_false,if_true,false_and];rw[yK _ _ p hp,fE (by omega)]
 ·have:=e1 hna;simp only[aE0,if_false,if_true,and_false];rw[yK _ _ p hp,eU (by omega)]
 ·simp only[if_true,and_self];rw[yK _ _ p hp,adF]
theorem yL (K:Nat)(a b:Int):jN (cz K a) (cz K b)=eS a b:=by
 rw[ajH K _ _ (anL K a) (anL K b) (CU K a) (CU K b),wW,wW]
theorem ao0 (K n m:Nat)(s:Bool)(h:n<=K):nC K ⟨s,bE m,n⟩=if s=true then -((m:Nat):Int)*((10^(K-n):Nat):Int)else((m:Nat):Int)*((10^(K-n):Nat):Int):=by
 unfold nC;dsimp only;rw[eK];split
 ·push_cast;rw[Int.neg_mul]
 ·push_cast;rfl
theorem MA (K:Nat)(a b:Dc)(sa:a.s<=K)(sb:b.s<=K):lK a b=cz K (nC K a+nC K b):=by
 have h1:=C9 K (max a.s b.s) a (by omega) (by omega);have h2:=C9 K (max a.s b.s) b (by omega) (by omega);have ha:=fun(s:Bool) (m:Nat)=>ao0 K (max a.s b.s) m s (by omega)
 have hK:max a.s b.s<=K:=by omega
 unfold lK;rw[h1,h2];generalize num (aZ a.l (max a.s b.s-a.s))=A at *;generalize num (aZ b.l (max a.s b.s-b.s))=B at *;generalize 10^(K-max a.s b.s)=p at *;split
 ·rename_i h;rw[jY K _ (dK _) hK,ha];congr 1;rw[<-h];split
  ·push_cast;rw[<-aGR,Int.neg_add]
  ·push_cast;rw[aGR]
 ·rename_i h;split
  ·rename_i hc;rw[jY K _ (dK _) hK,ha];congr 1;rw[show((B-A:Nat):Int)=(B:Int)-(A:Int) by omega]
   cases hna:a.neg<;>cases hb:b.neg<;>simp only[hna,hb,aE0,if_true,if_false,not_true_eq_false]at h⊢
   ·rw[<-aGR];congr 1<;>omega
   ·rw[<-aGR];congr 1<;>omega
  ·rename_i hd;rw[jY K _ (dK _) hK,ha];congr 1;rw[show((A-B:Nat):Int)=(A:Int)-(B:Int) by omega]
   cases hna:a.neg<;>cases hb:b.neg<;>simp only[hna,hb,aE0,if_true,if_false,not_true_eq_false]at h⊢
   ·rw[<-aGR];congr 1<;>omega
   ·rw[<-aGR];congr 1<;>omega
theorem ZG (K:Nat)(a:Int):lV (cz K a) K=al K a:=by
 unfold lV al;rw[lC,lW,dZ (cJ (sL K a) _),tR,wZ]
theorem uO (K:Nat)(d:Dc)(hd:Dg d.l)(hs:d.s<=K):lV d K=al K (nC K d):=by
 rw[<-ZG K (nC K d),<-jY K d hd hs];unfold lV;rw[show aL (aL d)=aL d by rw[jY K d hd hs,lC]]
def MB (x lo hi:Int):Int:=if x<lo then lo else if hi<x then hi else x
theorem yM (x y:Int):eS x y<0↔x<y:=by
 unfold eS;split
 ·omega
 ·split<;>omega
theorem yN (x y:Int):0<eS x y↔y<x:=by
 unfold eS;split
 ·omega
 ·split<;>omega
theorem ZH (K:Nat)(a lo hi:Int):iO (al K a) (cz K lo) (cz K hi)=cz K (MB a lo hi):=by
 unfold iO MB;rw[show aL (al K a)=cz K a from rfl,lC,lC,yL,yL];by_cases h1:a<lo
 ·rw[aD6 ((yM _ _).2 h1),aD6 h1]
 ·rw[aD4 (fun h=>h1 ((yM _ _).1 h)),aD4 h1];by_cases h2:hi<a
  ·rw[aD6 ((yN _ _).2 h2),aD6 h2]
  ·rw[aD4 (fun h=>h2 ((yN _ _).1 h)),aD4 h2]
theorem AQ (K k:Nat)(a:Int)(h:a.natAbs<10^k):(cz K a).l.length<=k:=aEI (iD _) (eO h)
theorem adG (K k:Nat)(a:Int)(h:a.natAbs<10^k):(al K a).l.length<=k:=eO h
end
section
open Go.RowKit Go.Proofs.Tryz
def qO (w:World)(g:Nat)(a b c:Value):Prop:=w.heap[g]?=some (.cells #[a,b,c] 33 (0,0))
section
variable {w w':World}{g:Nat}{a b c:Value}
theorem qO.c0 (h:qO w g a b c):w.cell? ⟨g,0,none⟩=some a:=by rw[aHM w g 0 _ _ _ h];rfl
theorem qO.c1 (h:qO w g a b c):w.cell? ⟨g,1,none⟩=some b:=by rw[aHM w g 1 _ _ _ h];rfl
theorem qO.c2 (h:qO w g a b c):w.cell? ⟨g,2,none⟩=some c:=by rw[aHM w g 2 _ _ _ h];rfl
theorem qO.fz (h:qO w g a b c)(i:Nat):w.frozen? ⟨g,i,none⟩=false:=iM h i
theorem qO.keep (h:qO w g a b c)(hk:w'.heap[g]?=w.heap[g]?):qO w' g a b c:=hk.trans h
theorem qO.below {B:Nat}(h:qO w g a b c)(hb:Below B w w')(hB:g<B):qO w' g a b c:=(hb.block g hB).trans h
theorem qO.set0 (h:qO w g a b c)(v:Value):qO (w.setCell ⟨g,0,none⟩ v) g v b c:=eA w g 0 v _ _ _ h
theorem qO.set1 (h:qO w g a b c)(v:Value):qO (w.setCell ⟨g,1,none⟩ v) g a v c:=eA w g 1 v _ _ _ h
theorem qO.set2 (h:qO w g a b c)(v:Value):qO (w.setCell ⟨g,2,none⟩ v) g a b v:=eA w g 2 v _ _ _ h
theorem qO.setAll (h:qO w g a b c)(x y z:Value):qO (((w.setCell ⟨g,0,none⟩ x).setCell ⟨g,1,none⟩ y).setCell ⟨g,2,none⟩ z) g x y z:=((h.set0 _).set1 _).set2 _
theorem qO.new (w:World)(a b c:Value):qO (w.alloc (.cells #[a,b,c] 33)) w.heap.size a b c:=aHO w _
end
theorem bq2 (w:World)(a b c x y z:Value):∃W2,(w.alloc (Obj.cells #[a,b,c] 33)).alloc (Obj.cells #[x,y,z] 33)=W2/\W2.heap.size=w.heap.size+2/\
  qO W2 w.heap.size a b c/\qO W2 (w.heap.size+1) x y z/\Below w.heap.size w W2:=by
 refine⟨_,rfl,by simp,(qO.new w _ _ _).keep (aHR _ _ (by simp)),?_,((Below.refl _ w).alloc (aD1 _) _).alloc (by simp) _⟩
 have:=qO.new (w.alloc (Obj.cells #[a,b,c] 33)) x y z
 simpa using this
theorem qO.bx {w:World}{g:Nat}{a b c:Value}(h:qO w g a b c):Bx w g a b c:=⟨h.c0,h.c1,h.c2,h.fz⟩
theorem ZI (m:List Int):num (m++[0])=10*num m:=by rw[tP];simp
theorem xA (v:Value)(d:Dc)(w:World)(ha:aC w v d.l)(da:Dg d.l)(hl:d.l.length<=1000000)(hs:d.s<=1000):
  Calls prog 21 #[dv v d] w fun e w'=>∃sl,e=.returned (dv sl (aL d))/\aC w' sl (aL d).l/\dC w.heap.size sl/\Below w.heap.size w w':=by
 obtain⟨td,hc⟩:∃td,aL d=td:=⟨_,rfl⟩
 rw[hc]
 obtain⟨n,l,s⟩:=d
 simp only[dv]at *
 obtain⟨W2,hg,hv,z1,z2,hd⟩:=bq2 w (.bool n) v (.int .i64 s) (.bool false) (.slice none 0 0) (.int .i64 0)
 have q1:=z1.c1
 have HT:=aHL (gS v l W2 (ha.below hd (aD1 _)) da hl)
 have Hd:=aHL hg
 have Z:=aside (And.intro z1 (And.intro z2 hd))
 have HD:=aHL hc
 have HG:=aHL da.trim
 obtain⟨tl,hb⟩:∃tl,bW l=tl:=⟨_,rfl⟩
 have hln:tl.length<=1000000:=by rw[<-hb];exact aEI (q9 l) hl
 have Hc:=aHL (fun(h:tl≠[])=>by
  have:num tl≠0:=fun h0=>h (by rw[<-hb];exact(OT da).2 (by rw[<-mF,hb];exact h0))
  exact this)
 rw[hb]at HT HG
 have Hb:Hid (td=if(dV tl s).1=[]then⟨false,[],0⟩else⟨n,(dV tl s).1,(dV tl s).2⟩):=by
  show _=_;rw[<-hc,<-hb];rfl
 clear hg z1 z2 hd hc ha da hl hb
 go_enter func21,ntmps21
 go_wp2_with fail
 rw[Hd.out]
 go_wp2_with fail
 refine HT.out.mono ?_
 rintro e w4 ⟨v4,rfl,o4,b4⟩
 have hI:=aHL (aC.of_own o4)
 have hF:=aHL (eH o4 (aD1 _))
 have y1:=Z.out.1.below b4 (by omega)
 have y2:=aHL (Z.out.2.1.below b4 (by omega))
 have yB:=aHL (Z.out.2.2.trans (b4.mono (by omega)))
 have p0:=y1.c0
 have p1:=y1.c1
 have p2:=y1.c2
 have r0:=y2.out.c0
 have r1:=y2.out.c1
 have r2:=y2.out.c2
 have rf:=y2.out.fz
 have hG:=b4.size
 obtain⟨A,c,rfl,hlc,hH,-⟩:∃A c,v4=.slice A tl.length c/\tl.length<=c/\c<=9223372036854775807/\True:=by obtain⟨A,c,he,h0,h1,_⟩:=hI.out;exact⟨A,c,he,h0,h1,trivial⟩
 clear q1 o4 b4 Z HT y1
 by_cases h0:tl=[]
 ·subst h0
  have HE:Hid (td=⟨false,[],0⟩):=by
   show _=_;rw[Hb.out,oL,aD6 rfl]
  clear Hb hI hF HG Hc;go_wp2;refine aHP (aH0 (by rfl) _ _ (w.heap.size+1) _ _ _ _ rfl (y2.out.setAll _ _ _) underlying33 rfl (by kernel_rfl)) rfl ?_;refine⟨.slice none 0 0,by(rw[HE.out];try rfl),by rw[HE.out];exact aC.nil_ _ _ _ (by omega),fun q hq=>by simp[Value.ownBlock]at hq,Below.set3 yB.out (by omega) _ _ _⟩
 ·have hlen0:0<tl.length:=by rcases tl with _|⟨a,b⟩;exact absurd rfl h0;simp
  have H0:=aHL (Hc.out h0);clear h0 Hc;have hJ:¬((tl.length:Int)=0):=by omega
  go_wp2;go_loop [3,4] (fun v3 v4=>∃(kl:List Int) (k:Nat),v3=.slice A kl.length c/\v4=.int .i64 k/\k<=1000/\kl.length<=1000000/\0<kl.length/\kl.length<=c/\Aside (aC w4 (.slice A kl.length c) kl/\dV kl k=dV tl s/\num kl≠0/\Dg kl)) (fun _ v4=>(intOf v4).toNat)
  case atStart=>exact⟨tl,s,rfl,rfl,hs,hln,hlen0,hlc,hI.out,rfl,H0.out,HG.out⟩
  case round=>
   obtain⟨kl,k,rfl,rfl,hk,hz,hh,hA,HA⟩:=hrel
   rcases aGD kl with rfl|⟨m,x,rfl⟩
   ·simp at hh
   ·rw[aGE]at *;obtain⟨b,off,rfl,hn,hi,hj,ho⟩:=HA.out.1.last;obtain⟨N,hN⟩:∃N,(m++[x]).length=N:=⟨_,rfl⟩;have hp:N=m.length+1:=by rw[<-hN];simp
    have Ha:=HA;rw[hN]at hz hh hA⊢;by_cases hf:0<k/\x=0
    ·obtain⟨hr,rfl⟩:=hf;obtain⟨k1,hB⟩:∃k',k=k'+1:=⟨k-1,by omega⟩;have hC:IntKind.i64.wrap ((N:Int)-1)=(m.length:Int):=by rw[aR _ (by omega) (by omega)];omega
     have hK:IntKind.i64.wrap ((k:Int)-1)=(k1:Int):=by rw[aR _ (by omega) (by omega)];omega
     have hD:max (m.length:Int) 0=(m.length:Int):=by omega
     have hE:m.length<N:=by omega
     have hL:m.length<=c:=by omega
     have ht:Hid (0<m.length/\num m≠0):=by
      have h1:=HA.out.2.2.1;rw[ZI]at h1;refine⟨?_,by omega⟩;rcases m with _|⟨a,r⟩
      ·simp[mA]at h1
      ·simp
     clear HA hn hi hj;go_wp2;go_round
     case rel=>
      refine⟨m,k1,rfl,by go_num,by omega,by omega,ht.out.1,by omega,Ha.out.1.front,?_,ht.out.2,Ha.out.2.2.2.of_append_left⟩
      rw[<-Ha.out.2.1,hB,tQ]
     case measure=>simp[intOf];omega
    ·have HE:Hid (td=⟨n,m++[x],k⟩):=by
      show _=_
      have h2:dV (m++[x]) k=(m++[x],k):=by
       cases k with
       |zero=>rfl
       |succ k=>rw[dV,aD4 (by simp;omega)]
      rw[Hb.out,<-HA.out.2.1,h2,aD4 (by simp)]
     have hC:IntKind.i64.wrap ((N:Int)-1)=(m.length:Int):=by rw[aR _ (by omega) (by omega)];omega
     have hD:max (m.length:Int) 0=(m.length:Int):=by omega
     have hE:m.length<N:=by omega
     clear HA hn hi hj Hb hI;rcases aFY k with rfl|hr
     ·go_wp2;refine aHP (aH0 (by rfl) _ _ (w.heap.size+1) _ _ _ _ rfl (y2.out.setAll _ _ _) underlying33 rfl (by kernel_rfl)) rfl ?_;refine⟨.slice (some ⟨b,off,none⟩) N c,by(rw[HE.out,hp];try rfl),?_,fun q hq=>?_,Below.set3 yB.out (by omega) _ _ _⟩
      ·rw[HE.out,<-hN];exact Ha.out.1.set3 (fun q hq=>hF.out q (by simpa [Value.ownBlock]using hq)) (by omega) _ _ _
      ·have:=hF.out q (by simpa [Value.ownBlock]using hq);omega
     ·have hx:x≠0:=fun h=>hf ⟨hr,h⟩
      have hM:decide (x=0)=false:=aEC hx;clear hf;go_wp2;refine aHP (aH0 (by rfl) _ _ (w.heap.size+1) _ _ _ _ rfl (y2.out.setAll _ _ _) underlying33 rfl (by kernel_rfl)) rfl ?_;refine⟨.slice (some ⟨b,off,none⟩) N c,by(rw[HE.out,hp];try rfl),?_,fun q hq=>?_,Below.set3 yB.out (by omega) _ _ _⟩
      ·rw[HE.out,<-hN];exact Ha.out.1.set3 (fun q hq=>hF.out q (by simpa [Value.ownBlock]using hq)) (by omega) _ _ _
      ·have:=hF.out q (by simpa [Value.ownBlock]using hq);omega
end
section
open Go.RowKit Go.Proofs.Tryz
set_option maxRecDepth 100000 in
theorem O9 (v:Value)(d:Dc)(w:World)(ha:aC w v d.l)(da:Dg d.l)(la:d.l.length<=100)(hs:d.s<=100):
  Calls prog 39 #[dv v d] w fun e w'=>∃v1 v2,e=.returned (.tuple #[v1,v2])/\aC w' v1 (eP d)/\aC w' v2 (mH d)/\dC w.heap.size v1/\dC w.heap.size v2/\Below w.heap.size w w':=by
 obtain⟨i0,hi,hv,hC,hD⟩:=aHT dI
 obtain⟨W1,hd⟩:∃W1,w.alloc (Obj.cells #[.bool d.neg,v,.int .i64 d.s] 33)=W1:=⟨_,rfl⟩
 have hR:W1.heap.size=w.heap.size+1:=by rw[<-hd];simp
 have z1:qO W1 w.heap.size (.bool d.neg) v (.int .i64 d.s):=by rw[<-hd];exact qO.new _ _ _ _
 have hk:Below w.heap.size w W1:=by rw[<-hd];exact(Below.refl _ w).alloc (aD1 _) _
 have hI:=ha.below hk (aD1 _)
 obtain⟨x,hx⟩:∃x,wideL d.l d.s=x:=⟨_,rfl⟩
 have hh:x.length=max d.l.length d.s:=by rw[<-hx];exact kR _ _
 have dx:Dg x:=by rw[<-hx];exact(Dg.replicate _).append da
 unfold eP mH
 rw[hx]
 obtain⟨n,l,s⟩:=d
 simp only[dv]at *
 obtain⟨A,c,rfl⟩:=hI.form
 have HX:=aHL (show List.replicate (s-l.length) 0++l=x from hx)
 have Hb:=aHL hh
 have HE:=aHL hd
 have HB:=aHL hk
 have HI:=aHL (fun W (hB:Below W1.heap.size W1 W)=>hI.below hB (aD1 _))
 have HZ:=aHL (fun W (hB:Below W1.heap.size W1 W)=>(z1.below hB (by omega)).bx)
 obtain⟨N,hN⟩:∃N,l.length=N:=⟨_,rfl⟩
 have HN:=aHL hN
 rw[hN]at la HI HX Hb HE HZ⊢
 have q1:=z1.c1
 rw[hN]at q1
 have Hc:=fun W X (i:aC W X (x.take (x.length-s)))=>gS X (x.take (x.length-s)) W i (dx.take _) (by simp;omega)
 obtain⟨y,hy⟩:∃y,bW (x.take (x.length-s))=y:=⟨_,rfl⟩
 obtain⟨r,hr⟩:∃r,x.drop (x.length-s)=r:=⟨_,rfl⟩
 rw[hy,hr]
 simp only[hy]at Hc
 have HT:=aHL Hc
 have Hf:=aHL hr
 clear hd z1 hk ha hI hx hh dx da hN Hc hy hr
 go_enter func39,ntmps39
 go_wp2_with fail
 rw[HE.out]
 go_wp2_with fail
 clear q1
 go_loopw [4,5] (fun v i wr=>∃(k z:Nat) (pv:Value),pv=v/\i=.int .i64 k/\k<=200/\z<=100/\Aside (k=N+z/\(z=0∨k<=s))/\Aside (wr.ownsRow W1.heap.size 3 1 v z (ints (List.replicate z 0))/\Below W1.heap.size W1 wr)) (fun _ i _=>s-(intOf i).toNat)
 case atStart=>exact⟨N,0,_,rfl,rfl,by omega,by omega,⟨rfl,.inl rfl⟩,aHN _ _ _ _,Below.refl _ _⟩
 case round=>
  obtain⟨k,z,pv,rfl,rfl,hS,hz,HK,HA⟩:=hrel
  have q:=HZ.out _ HA.out.2
  have q1:=q.c1
  have q2:=q.c2
  clear q
  by_cases hJ:k<s
  ·clear q1
   go_wp2_with(first
    |(at_builtin
      refine aHU _ rfl _ _ 22 rfl W1.heap.size 3 i0 (.int .i64 0) 1 8 underlying22 hi hv hC hD rfl (by decide) _ _ _ rfl (HA.out.1.alloc _) ⟨_,0,none⟩ 1 1 [.int .i64 0] rfl rfl (aHZ _ _ _) (fun x hx=>by simp at hx;subst hx;rfl) (by unfold maxLen;omega) (by omega) (by have:=HA.out.2.size;simp;omega) ?_
      intro v4 w4 hc hb hf
      have X4:Aside (w4.ownsRow W1.heap.size 3 1 v4 (z+1) (ints (List.replicate (z+1) 0))/\Below W1.heap.size W1 w4):=by
       refine⟨by rw[aG1,aS];exact hc,?_⟩;exact(HA.out.2.alloc HA.out.2.size _).grown hb (by have:=HA.out.2.size;simp;omega) (fun j hj=>(HA.out.1.lt j hj).1)
      clear hc hb hf))
   go_roundw
   case rel=>exact⟨k+1,z+1,_,rfl,by go_num,by omega,by have:=HK.out;omega,⟨by have:=HK.out;omega,.inr (by omega)⟩,X4.out⟩
   case measure=>simp[intOf];omega
  ·have hg:=aHL (show z=s-N by have:=HK.out;omega);have hT:s<=k:=by omega
   clear hJ;have hK:=aHL (HI.out _ HA.out.2);have hl:Hid (ints (List.replicate z 0)++ints l=ints x):=by show _=_;rw[<-aS,hg.out,HX.out]
   obtain⟨M,hM⟩:∃M,x.length=M:=⟨_,rfl⟩;have HM:=aHL hM;obtain⟨k1,hE⟩:∃k1,M-s=k1:=⟨_,rfl⟩;have hV:M<=100/\s<=M:=by have:=Hb.out;omega
   have hW:IntKind.i64.wrap ((M:Int)-(s:Int))=(k1:Int):=by rw[aR _ (by omega) (by omega)];omega
   have Hd:=aHL hE;have hh:Hid (z+l.length=M):=by show _=_;have:=hg.out;rw[HN.out,<-HM.out,Hb.out];omega
   clear hM hE;have hL:=aHL (show decide (k<s)=false from aEC (by omega))
   iterate 19 (first|go_values|go_skip|go_guarded|go_step|go_upon|go_back)
   rw[hL.out]
   go_wp2_with(first
    |(at_builtin
      refine aM _ rfl _ _ 22 rfl W1.heap.size 3 i0 underlying22 hi hv hC hD pv z (ints (List.replicate z 0)) (by simp[Act.eval,Act.put]) HA.out.1 (.slice A N c) l (by simp[Act.eval,Act.put]) hK.out (by have:=HN.out;omega) HA.out.2.size ?_
      intro v4 w4 hc hb
      have X4:Aside (w4.ownsRow W1.heap.size 3 1 v4 M (ints x)/\Below W1.heap.size W1 w4):=⟨by rw[<-hl.out,<-hh.out];exact hc,HA.out.2.grown hb HA.out.2.size (fun j hj=>(HA.out.1.lt j hj).1)⟩
      clear hc hb
      obtain⟨A4,c4,rfl⟩:=bJ X4.out.1
      have q4:=(HZ.out _ X4.out.2).c2))
   have i3:=aC.of_own (l:=x) (by rw[HM.out];exact X4.out.1)
   have hn:M<=c4/\c4<=9223372036854775807:=by
    obtain⟨A',c',he,h0,h1,_⟩:=i3;injection he with e1 e2 e3
    subst e3;rw[HM.out]at h0;exact⟨h0,h1⟩
   have ho:k1<=M:=by have:=Hd.out;omega
   have hp:k1<=x.length:=by rw[HM.out];exact ho
   have j1:=aHL (i3.take_ k1 hp);have j2:=aHL (i3.drop_ k1 hp);have hO:k1<=c4:=by omega
   have hF:=eH X4.out.1 (aD1 _);have Ha:=HT;rw[HM.out,Hd.out]at Ha;have He:=Hf.out;rw[HM.out,Hd.out]at He;rw[He]at j2;clear He;clear q1 q2 hp
   have hA:(∃g,A4=some ⟨g,0,none⟩)∨(A4=none/\M=0/\c4=0):=by
    rcases X4.out.1.2 with⟨he,h0⟩|⟨g,cap,cur,he,_⟩
    ·injection he with e1 e2 e3
     exact .inr ⟨e1,h0,e3⟩
    ·injection he with e1 e2 e3
     exact .inl ⟨g,e1⟩
   have fin:Hid (∀w5 v5,w5.ownsRow w4.heap.size 3 1 v5 y.length (ints y)->Below w4.drew.heap.size w4.drew w5->∀V2,aC w4 V2 (r)->dC W1.heap.size V2->
     aC w5 v5 y/\aC w5 V2 (r)/\dC w.heap.size v5/\dC w.heap.size V2/\Below w.heap.size w w5):=by
    intro w5 v5 o5 b5 V2 iV fV
    have ba:Below w4.heap.size w4 w5:=⟨b5.os,b5.tape,b5.output,b5.size,b5.block⟩
    have bb:=HB.out.trans ((X4.out.2.trans (ba.mono X4.out.2.size)).mono (by omega))
    refine⟨aC.of_own o5,iV.below ba (aD1 _),fun q hq=>?_,fun q hq=>?_,bb⟩
    ·have:=(o5.lt q hq).1;have:=X4.out.2.size;omega
    ·have:=fV q hq;omega
   rcases hA with⟨g,rfl⟩|⟨rfl,hG,hP⟩
   ·by_cases hH:c4=k1
    ·subst hH;obtain rfl:M=c4:=by omega
     have j3:Hid (aC w4 (.slice (some ⟨g,0,none⟩) 0 0) r):=by
      have h:=j2.out;simp only[if_true,HM.out,aG5]at h;exact h
     have f3:Hid (dC W1.heap.size (.slice (some ⟨g,0,none⟩) 0 0)):=fun q hq=>hF q (by simpa [Value.ownBlock]using hq)
     go_wp2_with fail
     go_region_with (go_at_call 40;refine(Ha.out w4.drew _ (by have:=j1.out;exact this)).mono ?_;rintro e w5 ⟨v5,rfl,o5,b5⟩;obtain⟨A5,c5,rfl⟩:=bJ o5)
     all_goals
      go_wp2
      go_ret2
      exact⟨_,_,rfl,fin.out w5 _ o5 b5 _ j3.out f3.out⟩
    ·have j3:Hid (aC w4 (.slice (some ⟨g,k1,none⟩) (M-k1) (c4-k1)) r):=by
      have h:=j2.out;rw[aD4 hH]at h;simp only[Option.map,HM.out]at h;have ht:(⟨g,0,none⟩:Addr).add k1=⟨g,k1,none⟩:=by unfold Addr.add;split<;>simp_all
      rw[ht]at h;exact h
     have f3:Hid (dC W1.heap.size (.slice (some ⟨g,k1,none⟩) (M-k1) (c4-k1))):=fun q hq=>hF q (by simpa [Value.ownBlock]using hq)
     go_wp2_with fail
     go_region_with (go_at_call 40;refine(Ha.out w4.drew _ (by have:=j1.out;exact this)).mono ?_;rintro e w5 ⟨v5,rfl,o5,b5⟩;obtain⟨A5,c5,rfl⟩:=bJ o5)
     all_goals
      go_wp2
      go_ret2
      exact⟨_,_,rfl,fin.out w5 _ o5 b5 _ j3.out f3.out⟩
   ·obtain rfl:c4=k1:=by omega
    obtain rfl:M=c4:=by omega
    have Hg:=aHL hG;clear hG hP hO hn
    have j3:Hid (aC w4 (.slice none 0 0) r):=by
     have hQ:x=[]:=aD8 (HM.out.trans Hg.out);rw[<-Hf.out,hQ,List.drop_nil];exact aC.nil_ _ _ _ (by omega)
    have f3:Hid (dC W1.heap.size (.slice none 0 0)):=fun q hq=>by simp[Value.ownBlock]at hq
    go_wp2_with fail
    go_region_with (go_at_call 40;refine(Ha.out w4.drew _ (by have:=j1.out;exact this)).mono ?_;rintro e w5 ⟨v5,rfl,o5,b5⟩;obtain⟨A5,c5,rfl⟩:=bJ o5)
    all_goals
     go_wp2
     go_ret2
     exact⟨_,_,rfl,fin.out w5 _ o5 b5 _ j3.out f3.out⟩
end
section
open Go.RowKit Go.Proofs.Tryz
def iX (w:World)(t g:Nat)(a b c d:Value):Prop:=w.heap[g]?=some (.cells #[a,b,c,d] t (0,0))
section
variable {w w':World}{t g:Nat}{a b c d:Value}
theorem iX.c0 (h:iX w t g a b c d):w.cell? ⟨g,0,none⟩=some a:=by rw[aHM w g 0 _ _ _ h];rfl
theorem iX.c1 (h:iX w t g a b c d):w.cell? ⟨g,1,none⟩=some b:=by rw[aHM w g 1 _ _ _ h];rfl
theorem iX.c2 (h:iX w t g a b c d):w.cell? ⟨g,2,none⟩=some c:=by rw[aHM w g 2 _ _ _ h];rfl
theorem iX.c3 (h:iX w t g a b c d):w.cell? ⟨g,3,none⟩=some d:=by rw[aHM w g 3 _ _ _ h];rfl
theorem iX.fz (h:iX w t g a b c d)(i:Nat):w.frozen? ⟨g,i,none⟩=false:=iM h i
theorem iX.lt (h:iX w t g a b c d):g<w.heap.size:=(aD5.1 h).1
theorem iX.keep (h:iX w t g a b c d)(hk:w'.heap[g]?=w.heap[g]?):iX w' t g a b c d:=hk.trans h
theorem iX.below {B:Nat}(h:iX w t g a b c d)(hb:Below B w w')(hB:g<B):iX w' t g a b c d:=(hb.block g hB).trans h
theorem iX.new (w:World)(t:Nat)(a b c d:Value):iX (w.alloc (.cells #[a,b,c,d] t)) t w.heap.size a b c d:=aHO w _
end
set_option maxRecDepth 100000 in
theorem ZL (vi vf:Value)(d:Dr)(w:World)(h:qF w vi vf d):
  Calls prog 112 #[mT vi vf d] w fun e w'=>∃sl,e=.returned (dv sl (aL ⟨d.neg,d.int++d.frac,d.frac.length⟩))/\aC w' sl (aL ⟨d.neg,d.int++d.frac,d.frac.length⟩).l/\dC w.heap.size sl/\Below w.heap.size w w':=by
 obtain⟨i0,hi,hh,hk,hl⟩:=aHT dI
 obtain⟨td,hg⟩:∃td,aL ⟨d.neg,d.int++d.frac,d.frac.length⟩=td:=⟨_,rfl⟩
 rw[hg]
 obtain⟨W2,hn,s2,z1,z2,hf⟩:∃W2,(w.alloc (Obj.cells #[.bool d.neg,vi,.bool d.sep,vf] 39)).alloc (Obj.cells #[.bool false,.slice none 0 0,.int .i64 0] 33)=W2/\W2.heap.size=w.heap.size+2/\
   iX W2 39 w.heap.size (.bool d.neg) vi (.bool d.sep) vf/\qO W2 (w.heap.size+1) (.bool false) (.slice none 0 0) (.int .i64 0)/\Below w.heap.size w W2:=by
  refine⟨_,rfl,by simp,(iX.new w _ _ _ _ _).keep (aHR _ _ (by simp)),?_,((Below.refl _ w).alloc (aD1 _) _).alloc (by simp) _⟩
  have:=qO.new (w.alloc (Obj.cells #[.bool d.neg,vi,.bool d.sep,vf] 39)) (.bool false) (.slice none 0 0) (.int .i64 0)
  simpa using this
 obtain⟨A1,c1,rfl⟩:=h.ii.form
 obtain⟨A2,c2,rfl⟩:=h.jf.form
 have I1:=fun W (hB:Below W2.heap.size W2 W)=>(h.ii.below hf (aD1 _)).below hB (aD1 _)
 have I2:=fun W (hB:Below W2.heap.size W2 W)=>(h.jf.below hf (aD1 _)).below hB (aD1 _)
 have l1:=h.li
 have l2:=h.lf
 have hT:=fun W X (i:aC W X (d.int++d.frac))=>xA X ⟨d.neg,d.int++d.frac,d.frac.length⟩ W i (h.di.append h.df) (by simp;omega) (by show d.frac.length<=1000;omega)
 rw[hg]at hT
 obtain⟨n,li,sp,lf⟩:=d
 simp only[mT,dv]at *
 have q1:=z1.c1
 obtain⟨M,hM⟩:∃M,(li++lf).length=M:=⟨_,rfl⟩
 have HM:=aHL hM
 clear hM
 have HW:=aHL hn
 have Ha:=aHL I1
 have Hb:=aHL I2
 have HT:=aHL hT
 have HZ:=aHL (fun W (hB:Below W2.heap.size W2 W)=>And.intro (z1.below hB (by omega)) (z2.below hB (by omega)))
 have HB:=aHL hf
 clear hn I1 I2 hT z1 z2 hf h hg
 go_enter func112,ntmps112
 go_wp2_with(first
  |(at_builtin
    rw[HW.out]
    refine aM _ rfl _ _ 22 rfl W2.heap.size 3 i0 underlying22 hi hh hk hl (.slice none 0 0) 0 [] (by simp[Act.eval,Act.put]) (aHN _ _ _ _) (.slice A1 li.length c1) li (by simp[Act.eval,Act.put]) (Ha.out _ (Below.refl _ _)) (by omega) (aD1 _) ?_
    intro v3 w3 hc ha
    have X3:Aside (w3.ownsRow W2.heap.size 3 1 v3 li.length (ints li)/\Below W2.heap.size W2 w3):=⟨by simpa using hc,(Below.refl W2.heap.size W2).grown ha (aD1 _) (fun j hj=>by simp[Value.ownBlock]at hj)⟩
    clear hc ha q1
    have q3:=(HZ.out _ X3.out.2).1.c3)
  |(at_builtin
    refine aM _ rfl _ _ 22 rfl W2.heap.size 3 i0 underlying22 hi hh hk hl v3 li.length (ints li) (by simp[Act.eval,Act.put]) X3.out.1 (.slice A2 lf.length c2) lf (by simp[Act.eval,Act.put]) (Hb.out _ X3.out.2) (by omega) X3.out.2.size ?_
    intro v4 w4 hd hb
    have X4:Aside (w4.ownsRow W2.heap.size 3 1 v4 M (ints (li++lf))/\Below W2.heap.size W2 w4):=⟨by rw[<-HM.out,aD2,aS];exact hd,X3.out.2.grown hb X3.out.2.size (fun j hj=>(X3.out.1.lt j hj).1)⟩
    clear hd hb q3
    obtain⟨A4,c4,rfl⟩:=bJ X4.out.1
    have Z4:=(HZ.out _ X4.out.2).1
    have p0:=Z4.c0
    have p3:=Z4.c3
    clear Z4)
  |(go_at_call 21
    refine(HT.out w4 _ (aC.of_own (l:=li++lf) (by rw[HM.out];exact X4.out.1))).mono ?_
    rintro e w5 ⟨v5,rfl,i5,f5,ba⟩
    obtain⟨A5,c5,rfl⟩:=i5.form
    have b5:=X4.out.2.trans (ba.mono X4.out.2.size)
    have Z5:=(HZ.out _ b5).2
    have e0:=Z5.c0
    have e1:=Z5.c1
    have e2:=Z5.c2
    have ef:=Z5.fz
    have ho:=X4.out.2.size))
 refine aHP (aH0 (by rfl) _ _ (w.heap.size+1) _ _ _ _ rfl (Z5.setAll _ _ _) underlying33 rfl (by kernel_rfl)) rfl ?_
 refine⟨.slice A5 td.l.length c5,rfl,?_,fun q hq=>?_,Below.set3 (HB.out.trans (b5.mono (by omega))) (by omega) _ _ _⟩
 ·exact i5.set3 f5 (by omega) _ _ _
 ·have:=f5 q hq;omega
end
section
open Go.RowKit Go.Sym Go.Proofs.Tryz
variable {G:Nat->Prop}{w:World}{v x:Value}{l:List Int}{p q:eG}{B:aE}{k f:Nat}{d:Dc}{P:Program}{α:Type}
def dL (k:Nat):eG:= .agg [.at_ (8*k),.ls k,.at_ (8*k+4)]
def O7 (k:Nat)(d:Dc):List (Nat×Value):=[(8*k,.bool d.neg),(8*k+4,.int .i64 d.s),(4*k+2,.agg (ints d.l).toArray)]
def nD (k:Nat)(l:List Int):List (Nat×Value):=[(4*k+2,.agg (ints l).toArray)]
def cG (B:aE)(k:Nat)(l:List Int):Prop:=k<1024/\B.A (gid k)=some (.agg (ints l).toArray)
def oN (B:aE)(k:Nat)(d:Dc):Prop:=cG B k d.l/\B.A (8*k)=some (.bool d.neg)/\B.A (8*k+4)=some (.int .i64 d.s)
theorem ajI (h:aC w v l)(hG:∀g,v.ownBlock=some g->G g):Rd G w v (ints l):=by
 obtain⟨A,c,rfl,h0,h1,h2⟩:=h;refine⟨A,c,by rw[aQ],by rw[aQ];exact h0,h1,fun hp=>?_⟩;rw[aQ]at hp;obtain⟨b,off,rfl,hc⟩:=h2 hp;refine⟨b,off,rfl,hG b (by simp[Value.ownBlock]),fun j hj=>?_⟩;rw[aQ]at hj;rw[hc j hj,mC l j hj]
theorem ajJ (h:Rd G w v (ints l)):aC w v l:=by
 obtain⟨A,c,he,h0,h1,h2⟩:=h;rw[aQ]at he h0 h2;refine⟨A,c,he,h0,h1,fun hp=>?_⟩;obtain⟨b,off,hA,_,hc⟩:=h2 hp;exact⟨b,off,hA,fun j hj=>by rw[hc j hj,mC l j hj]⟩
theorem O8 (h:Rd G w v (ints l)):0<l.length->∃g,v.ownBlock=some g/\G g:=by
 intro hp;obtain⟨A,c,rfl,h0,h1,h2⟩:=h;rw[aQ]at h2;obtain⟨b,off,rfl,hg,_⟩:=h2 hp;exact⟨b,by simp[Value.ownBlock],hg⟩
def NP (B:aE)(p:eG)(v:Value):Prop:=p=.val v∨∃i,p=.at_ i/\B.A i=some v
section
variable {B:aE}{G:Nat->Prop}{w:World}{k:Nat}
theorem kL (hL:cG B k l)(h:fG B G w (.ls k) x):aC w x l:=by
 obtain⟨_,_,gh,h1,h2⟩:=h;rw[hL.2]at h1;injection h1 with h1
 subst h1;exact ajJ h2
theorem E7 (hL:cG B k l)(h:aC w x l)(hG:∀g,x.ownBlock=some g->G g):fG B G w (.ls k) x:=
 ⟨hL.1,by obtain⟨A,c,rfl,_⟩:=h;rfl,_,hL.2,ajI h hG⟩
theorem jM (hL:cG B k l):qC B (.ls k):=⟨hL.1,_,hL.2⟩
theorem NP.val (v:Value):NP B (.val v) v:= .inl rfl
theorem NP.atm {i:Nat}(h:B.A i=some v):NP B (.at_ i) v:= .inr ⟨i,rfl,h⟩
theorem NP.out (h:NP B p v)(hx:fG B G w p x):x=v:=by
 rcases h with rfl|⟨i,rfl,hi⟩
 ·exact hx
 ·have:=hx.1;rw[hi]at this;injection this with this
  exact this.symm
theorem NP.inn (h:NP B p v)(h1:v.oneCell'=true):fG B G w p v:=by
 rcases h with rfl|⟨i,rfl,hi⟩
 ·rfl
 ·exact⟨hi,h1⟩
theorem NP.wf (h:NP B p v):qC B p:=by
 rcases h with rfl|⟨i,rfl,hi⟩
 ·trivial
 ·exact⟨_,hi⟩
end
def dJ (p:eG)(k:Nat)(q:eG):eG:= .agg [p,.ls k,q]
structure dW (B:aE) (p:eG) (k:Nat) (q:eG) (d:Dc):Prop where
 l:cG B k d.l
 n:NP B p (.bool d.neg)
 s:NP B q (.int .i64 d.s)
theorem oN.g (h:oN B k d):dW B (.at_ (8*k)) k (.at_ (8*k+4)) d:=⟨h.1,.atm h.2.1,.atm h.2.2⟩
section
variable {B:aE}{G:Nat->Prop}{w:World}{k:Nat}{p q:eG}{d:Dc}
theorem dW.out (hD:dW B p k q d)(h:fG B G w (dJ p k q) x):∃v,x=dv v d/\aC w v d.l:=by
 obtain⟨ys,rfl,y0,r0,rfl,a0,y1,r1,rfl,a1,y2,r2,rfl,a2,rfl⟩:=h;rw[hD.n.out a0,hD.s.out a2];exact⟨y1,rfl,kL hD.l a1⟩
theorem dW.inn (hD:dW B p k q d)(h:aC w v d.l)(hG:∀g,v.ownBlock=some g->G g):fG B G w (dJ p k q) (dv v d):=
 ⟨_,rfl,_,_,rfl,hD.n.inn rfl,_,_,rfl,E7 hD.l h hG,_,_,rfl,hD.s.inn rfl,rfl⟩
theorem dW.wf (hD:dW B p k q d):qC B (dJ p k q):=⟨hD.n.wf,jM hD.l,hD.s.wf,trivial⟩
end
structure Arg (B:aE) where
 p:eG
 P:World->Value->Prop
 wf:qC B p
 out:∀(G:Nat->Prop) (w:World) (x:Value),fG B G w p x->P w x
structure Ans (B:aE) where
 p:eG
 P:Nat->World->Value->Prop
 wf:qC B p
 inn:∀(N:Nat) (w:World) (x:Value),P N w x->fG B (fun g=>N<=g) w p x
def DA (h:cG B k l):Arg B:=⟨.ls k,fun w x=>aC w x l,jM h,fun _ _ _ hx=>kL h hx⟩
def rP (h:NP B p v):Arg B:=⟨p,fun _ x=>x=v,h.wf,fun _ _ _ hx=>h.out hx⟩
def xC (h:dW B p k q d):Arg B:=⟨dJ p k q,fun w x=>∃v,x=dv v d/\aC w v d.l,h.wf,fun _ _ _ hx=>h.out hx⟩
def ZJ (h:cG B k l):Ans B:=⟨.ls k,fun N w x=>aC w x l/\dC N x,jM h,fun _ _ _ hx=>E7 h hx.1 hx.2⟩
def yO (h:NP B p v)(h1:v.oneCell'=true):Ans B:=⟨p,fun _ _ x=>x=v,h.wf,fun _ _ x hx=>by rw[show x=v from hx];exact h.inn h1⟩
def deR (h:dW B p k q d):Ans B:=⟨dJ p k q,fun N w x=>∃v,x=dv v d/\aC w v d.l/\dC N v,h.wf,fun _ _ x hx=>by obtain⟨v,e,h1,h2⟩:=hx;rw[e];exact h.inn h1 h2⟩
def au1 (h:dW B p k q d):Ans B:=⟨.tup [dJ p k q,.val (.int .i64 0)],fun N w x=>∃v,x=.tuple #[dv v d,.int .i64 0]/\aC w v d.l/\dC N v,⟨h.wf,trivial,trivial⟩,fun _ _ x hx=>by obtain⟨v,e,h1,h2⟩:=hx;rw[e];exact⟨_,rfl,_,_,rfl,h.inn h1 h2,_,_,rfl,rfl,rfl⟩⟩
def ajK:List (Arg B)->World->List Value->Prop
 |[],_,xs=>xs=[]
 |a::l,w,xs=>∃x r,xs=x::r/\a.P w x/\ajK l w r
theorem TC:∀{l:List (Arg B)} {xs:List Value},kW B G w (l.map (·.p)) xs->ajK l w xs
 |[],_,h=>h
 |a::l,_,h=>by
  obtain⟨x,r,rfl,h1,h2⟩:=h;exact⟨x,r,rfl,a.out _ _ _ h1,TC h2⟩
theorem TD:∀(l:List (Arg B)),lJ B (l.map (·.p))
 |[]=>trivial
 |a::l=>⟨a.wf,TD l⟩
theorem aU (l:List (Arg B))(r:Ans B)(h:∀(w:World) (xs:List Value),ajK l w xs->Calls P f xs.toArray w fun e w'=>∃x,e=.returned x/\r.P w.heap.size w' x/\Below w.heap.size w w'):aK B P ⟨f,l.map (·.p),r.p⟩:=by
 refine⟨TD l,fun w _ xs hx=>(h w xs (TC hx)).mono ?_⟩;rintro e w' ⟨x,rfl,hx,hb⟩;exact⟨x,rfl,r.inn _ _ _ hx,hb⟩
theorem aH {p:α->Prop}:∀F∈([]:List α),p F:=fun _ h=>by cases h
theorem aD {p:α->Prop}{a:α}{l:List α}(h:p a)(k:∀F∈l,p F):∀F∈a::l,p F:=fun F hF=>by
 rcases aER.1 hF with rfl|hF
 ·exact h
 ·exact k F hF
theorem eT {op:BinOp}{a b r:AV}{x y:Int}(ha:sv B a=some (.int .i64 x))(hb:sv B b=some (.int .i64 y))(hr:sv B r=some v)(h:∀t ox oy w,(do eqGuard op t ox oy (.int .i64 x) (.int .i64 y);binOp op t (.int .i64 x) (.int .i64 y)).run P w=.ok v w):wT P B ⟨op,a,b,r⟩:=⟨_,_,_,ha,hb,hr,h⟩
theorem run_mk {l:List (Nat×Value)}(hb:VK l=true)(hB:B=bU w l){orc:bM}{T:Tb}(hT:kY prog B T)(ho:cH B prog orc){ps:List eG}{r:eG}(hw:lJ B ps)(hr:qC B r)(ha:(match dR B T orc f (eW 0 ps).1 {nc:=(eW 0 ps).2}with
  |some (x,_)=>fN (eW 0 ps).2 r x
  |none=>false)=true):aK B prog ⟨f,ps,r⟩:=by
 refine sD (by rw[hB];exact qY hb) (bY hT ho) (a:=(eW 0 ps).1) (c:=(eW 0 ps).2) rfl hw hr ha
end
section
open Go.RowKit Go.Sym Go.Proofs.Tryz
theorem JU (v:Value)(d:Dc)(w:World)(ha:aC w v d.l)(da:Dg d.l)(hs:d.s<=1000):Calls prog 176 #[dv v d] w fun e w'=>e=.returned (.bool true)/\Below w.heap.size w w':=by
 have hD:oN (bU w (O7 1 d)) 1 d:=⟨⟨by decide,rfl⟩,rfl,rfl⟩
 have h:aK (bU w (O7 1 d)) prog ⟨176,[dL 1],.val (.bool true)⟩:=by
  refine run_mk (by kernel_rfl) rfl (T:=mR [⟨.geq,.atom 12,.lit (.int .i64 0),.lit (.bool true)⟩,⟨.leq,.atom 12,.lit (.int .i64 1000),.lit (.bool true)⟩] [] [] []) (bD ?_ aH aH aH) (orc:=bT [⟨59,[.ls 1],.val (.bool true)⟩]) (bB ?_) ⟨hD.g.wf,trivial⟩ trivial (by kernel_rfl)
  ·exact aD (eT (x:=d.s) (y:=0) rfl rfl rfl (EN (by simp))) (aD (eT (x:=d.s) (y:=1000) rfl rfl rfl (tO (by simp;omega))) aH)
  ·refine aD (aU [DA hD.1] (yO (.val (.bool true)) rfl) ?_) aH;rintro w _ ⟨v,_,rfl,hv,rfl⟩;exact(AP v d.l w hv da).mono (by rintro e w' ⟨rfl,rfl⟩;exact⟨_,rfl,rfl,Below.refl _ _⟩)
 refine(h.2 w (bG _ _ _) [dv v d] ⟨_,_,rfl,hD.g.inn ha (fun _ _=>trivial),rfl⟩).mono ?_;rintro e w' ⟨x,rfl,hx,hb⟩;exact⟨by rw[show x=.bool true from hx],hb⟩
end
section
open Go.RowKit Go.Sym Go.Proofs.Tryz
variable {B:aE}{k j N:Nat}{l:List Int}{p q:eG}{d:Dc}{w:World}
theorem ZK (x y:Int):-eS x y=eS y x:=by
 rcases aGM x y with h|h|h
 ·rw[eU h,fE h];rfl
 ·subst h;rw[iG];rfl
 ·rw[fE h,eU h]
theorem MC (x y:Int):eS x y= -1∨eS x y=0∨eS x y=1:=by
 unfold eS;split
 ·exact .inl rfl
 ·split
  ·exact .inr (.inl rfl)
  ·exact .inr (.inr rfl)
theorem oO {i:Nat}{n:Nat}(hL:cG B k l)(hn:B.A i=some (.int .i64 n))(hR:cG B j (aZ l n))(h1:l.length<=1000)(h2:n<=1000):aK B prog ⟨42,[.ls k,.at_ i],.ls j⟩:=by
 refine aU [DA hL,rP (.atm hn)] (ZJ hR) ?_;rintro w _ ⟨v,_,rfl,hv,_,_,rfl,rfl,rfl⟩;exact(BX v l n w hv h1 h2).mono (by rintro e w' ⟨sl,rfl,ho,hb⟩;exact⟨_,rfl,⟨aC.of_own ho,eH ho (aD1 _)⟩,hb⟩)
theorem rF (hD:dW B p k q d)(da:Dg d.l)(hs:d.s<=1000):aK B prog ⟨176,[dJ p k q],.val (.bool true)⟩:=by
 refine aU [xC hD] (yO (.val (.bool true)) rfl) ?_;rintro w _ ⟨_,_,rfl,⟨v,rfl,hv⟩,rfl⟩;exact(JU v d w hv da hs).mono (by rintro e w' ⟨rfl,hb⟩;exact⟨_,rfl,rfl,hb⟩)
theorem sN {p' q':eG}{k':Nat}{t:Dc}(hD:dW B p k q d)(hT:dW B p' k' q' t)(ht:aL d=t)(da:Dg d.l)(hl:d.l.length<=1000000)(hs:d.s<=1000):aK B prog ⟨21,[dJ p k q],dJ p' k' q'⟩:=by
 refine aU [xC hD] (deR hT) ?_;rintro w _ ⟨_,_,rfl,⟨v,rfl,hv⟩,rfl⟩;have:=xA v d w hv da hl hs;rw[ht]at this;exact this.mono (by rintro e w' ⟨sl,rfl,hi,hf,hb⟩;exact⟨_,rfl,⟨_,rfl,hi,hf⟩,hb⟩)
theorem ajL {m:List Int}{c:Int}(hL:cG B k l)(hM:cG B j m)(hp:NP B p (.int .i64 c))(hc:eS (num l:Nat) (num m:Nat)=c)(dl:Dg l)(dm:Dg m)(h1:l.length<=1000)(h2:m.length<=1000):aK B prog ⟨41,[.ls k,.ls j],p⟩:=by
 refine aU [DA hL,DA hM] (yO hp rfl) ?_;rintro w _ ⟨v,_,rfl,hv,u,_,rfl,hu,rfl⟩;have:=IH v u l m w hv hu dl dm h1 h2;rw[hc]at this;exact this.mono (by rintro e w' ⟨rfl,hb⟩;exact⟨_,rfl,rfl,hb⟩)
def au2:Bool->Bool->eG
 |true,true=> .at_ 216
 |true,false=> .val (.int .i64 (-1))
 |false,true=> .val (.int .i64 1)
 |false,false=> .at_ 212
theorem mB (v u:Value)(a b:Dc)(w:World)(ha:aC w v a.l)(hb:aC w u b.l)(da:Dg a.l)(db:Dg b.l)(la:a.l.length<=40)(lb:b.l.length<=40)(sa:a.s<=40)(sb:b.s<=40):
  Calls prog 22 #[dv v a,dv u b] w fun e w'=>e=.returned (.int .i64 (jN (aL a) (aL b)))/\Below w.heap.size w w':=by
 obtain⟨x,hx⟩:∃x,aL a=x:=⟨_,rfl⟩
 obtain⟨y,hy⟩:∃y,aL b=y:=⟨_,rfl⟩
 have dx:Dg x.l:=by rw[<-hx];exact iL a da
 have dy:Dg y.l:=by rw[<-hy];exact iL b db
 have lx:x.l.length<=40:=by rw[<-hx];exact aEI (iD a) la
 have ly:y.l.length<=40:=by rw[<-hy];exact aEI (iD b) lb
 have sx:x.s<=40:=by rw[<-hx];exact aEI (kD a) sa
 have sy:y.s<=40:=by rw[<-hy];exact aEI (kD b) sb
 rw[hx,hy]
 obtain⟨xn,hc⟩:∃q,x.neg=q:=⟨_,rfl⟩
 obtain⟨yn,hd⟩:∃q,y.neg=q:=⟨_,rfl⟩
 let M:=max x.s y.s
 let c:=eS (num (aZ x.l (M-x.s)):Nat) (num (aZ y.l (M-y.s)):Nat)
 have hf:=MC (num (aZ x.l (M-x.s)):Nat) (num (aZ y.l (M-y.s)):Nat)
 let L:=O7 1 a++O7 2 b++nD 3 x.l++[(28,Value.int .i64 x.s)]++nD 4 y.l++[(36,Value.int .i64 y.s)]++[(200,Value.int .i64 M),(204,Value.int .i64 ((M-x.s:Nat):Int)),(208,Value.int .i64 ((M-y.s:Nat):Int)),(212,Value.int .i64 c),(216,Value.int .i64 (-c))]++nD 5 (aZ x.l (M-x.s))++nD 6 (aZ y.l (M-y.s))
 have hA:oN (bU w L) 1 a:=⟨⟨by decide,rfl⟩,rfl,rfl⟩
 have hB:oN (bU w L) 2 b:=⟨⟨by decide,rfl⟩,rfl,rfl⟩
 have hX:dW (bU w L) (.val (.bool xn)) 3 (.at_ 28) x:=⟨⟨by decide,rfl⟩,by rw[hc];exact .val _,.atm rfl⟩
 have hY:dW (bU w L) (.val (.bool yn)) 4 (.at_ 36) y:=⟨⟨by decide,rfl⟩,by rw[hd];exact .val _,.atm rfl⟩
 have h5:cG (bU w L) 5 (aZ x.l (M-x.s)):=⟨by decide,rfl⟩
 have h6:cG (bU w L) 6 (aZ y.l (M-y.s)):=⟨by decide,rfl⟩
 have hR:NP (bU w L) (au2 xn yn) (.int .i64 (jN x y)):=by
  have e:jN x y=if xn=true/\yn=true then eS (num (aZ y.l (M-y.s)):Nat) (num (aZ x.l (M-x.s)):Nat)else if xn=true then -1 else if yn=true then 1 else c:=by
   unfold jN;rw[hc,hd]
  rw[e]
  cases xn<;>cases yn
  ·exact .atm rfl
  ·exact .val _
  ·exact .val _
  ·rw[aD6 ⟨rfl,rfl⟩,<-ZK];exact .atm rfl
 have h:aK (bU w L) prog ⟨22,[dL 1,dL 2],au2 xn yn⟩:=by
  refine run_mk (by kernel_rfl) rfl (T:=mR [⟨.sub,.atom 200,.atom 28,.atom 204⟩,⟨.sub,.atom 200,.atom 36,.atom 208⟩] [⟨.neg,.atom 212,.atom 216⟩] [⟨.atom 28,.atom 36,.atom 200⟩] []) (bD ?_ ?_ ?_ aH)
   (orc:=bT [⟨21,[dL 1],dJ (.val (.bool xn)) 3 (.at_ 28)⟩,⟨21,[dL 2],dJ (.val (.bool yn)) 4 (.at_ 36)⟩,⟨42,[.ls 3,.at_ 204],.ls 5⟩,⟨42,[.ls 4,.at_ 208],.ls 6⟩,⟨41,[.ls 5,.ls 6],.at_ 212⟩]) (bB ?_) ⟨hA.g.wf,hB.g.wf,trivial⟩ hR.wf (by cases xn<;>cases yn<;>kernel_rfl)
  ·exact aD (eT (x:=M) (y:=x.s) rfl rfl rfl (fO (by rw[wrap64 _ (by omega) (by omega)];omega))) (aD (eT (x:=M) (y:=y.s) rfl rfl rfl (fO (by rw[wrap64 _ (by omega) (by omega)];omega))) aH)
  ·exact aD ⟨_,_,rfl,rfl,ac1 (by rw[wrap64 _ (by omega) (by omega)];omega)⟩ aH
  ·exact aD ⟨x.s,y.s,rfl,rfl,by show some (Value.int .i64 ((max x.s y.s:Nat):Int))=_;congr 2;omega⟩ aH
  ·exact aD (sN hA.g hX hx da (by omega) (by omega)) (aD (sN hB.g hY hy db (by omega) (by omega)) (aD (oO hX.l rfl h5 (by omega) (by omega)) (aD (oO hY.l rfl h6 (by omega) (by omega)) (aD (ajL h5 h6 (.atm rfl) rfl (cJ dx _) (cJ dy _) (by rw[bV];omega) (by rw[bV];omega)) aH))))
 refine(h.2 w (bG _ _ _) [dv v a,dv u b] ⟨_,_,rfl,hA.g.inn ha (fun _ _=>trivial),_,_,rfl,hB.g.inn hb (fun _ _=>trivial),rfl⟩).mono ?_
 rintro e w' ⟨x,rfl,hx,hb⟩
 exact⟨by rw[hR.out hx],hb⟩
theorem VR {v:Value}(h:Rd (fun g=>N<=g) w v (ints l))(hl:0<l.length):dC N v:=by
 obtain⟨g,h1,h2⟩:=O8 h hl;intro k hk;rw[h1]at hk;injection hk with hk
 subst hk;exact h2
def cW (N:Nat)(v:Value)(l:List Int):Prop:=0<l.length->dC N v
theorem dW.out2 (hD:dW B p k q d){x:Value}(h:fG B (fun g=>N<=g) w (dJ p k q) x):∃v,x=dv v d/\aC w v d.l/\cW N v d.l:=by
 obtain⟨ys,rfl,y0,r0,rfl,a0,y1,r1,rfl,a1,y2,r2,rfl,a2,rfl⟩:=h;rw[hD.n.out a0,hD.s.out a2];refine⟨y1,rfl,kL hD.l a1,fun hl=>?_⟩;obtain⟨_,_,gh,h1,h2⟩:=a1;rw[hD.l.2]at h1;injection h1 with h1
 subst h1;exact VR h2 hl
theorem TE (v u:Value)(a b:Dc)(w:World)(ha:aC w v a.l)(hb:aC w u b.l)(da:Dg a.l)(db:Dg b.l)(la:a.l.length<=40)(lb:b.l.length<=40)(sa:a.s<=40)(sb:b.s<=40)(h:a.neg=b.neg):
  Calls prog 178 #[dv v a,dv u b] w fun e w'=>∃sl,e=.returned (.tuple #[dv sl (lK a b),.int .i64 0])/\aC w' sl (lK a b).l/\cW w.heap.size sl (lK a b).l/\Below w.heap.size w w':=by
 obtain⟨an,hc⟩:∃q,a.neg=q:=⟨_,rfl⟩
 obtain⟨bn,hd⟩:∃q,b.neg=q:=⟨_,rfl⟩
 have hj:max a.s b.s<=40:=by omega
 have hk:=gQ (cJ da (max a.s b.s-a.s))
 have hl:=gQ (cJ db (max a.s b.s-b.s))
 have pA:num (aZ a.l (max a.s b.s-a.s))<10^80:=aEL hk (aEY (by omega) (by rw[bV];omega))
 have pB:num (aZ b.l (max a.s b.s-b.s))<10^80:=aEL hl (aEY (by omega) (by rw[bV];omega))
 obtain⟨A,hg⟩:∃A,num (aZ a.l (max a.s b.s-a.s))=A:=⟨_,rfl⟩
 obtain⟨B,hh⟩:∃B,num (aZ b.l (max a.s b.s-b.s))=B:=⟨_,rfl⟩
 obtain⟨r,hr⟩:∃r,lK a b=r:=⟨_,rfl⟩
 rw[hr]
 have hn:aL ⟨an,bE (A+B),max a.s b.s⟩=r:=by
  rw[<-hr];unfold lK;rw[hg,hh,hc,hd];rw[aD6 (show an=bn by rw[<-hc,<-hd,h])]
 rw[hg]at pA
 rw[hh]at pB
 have hlen:(bE (A+B)).length<=1000000:=by
  have:(bE (A+B)).length<=81:=eO (by
   rw[show(81:Nat)=1+80 from rfl,aGH];generalize(10:Nat)^80=P at *;omega)
  omega
 let M:=max a.s b.s
 let L:=nD 1 a.l++[(12,Value.int .i64 a.s)]++nD 2 b.l++[(20,Value.int .i64 b.s)]++[(200,Value.int .i64 M),(204,Value.int .i64 ((M-a.s:Nat):Int)),(208,Value.int .i64 ((M-b.s:Nat):Int))]++nD 5 (aZ a.l (M-a.s))++nD 6 (aZ b.l (M-b.s))++nD 7 (bE (A+B))++O7 9 r
 have hA:dW (bU w L) (.val (.bool an)) 1 (.at_ 12) a:=⟨⟨by decide,rfl⟩,by rw[hc];exact .val _,.atm rfl⟩
 have hB:dW (bU w L) (.val (.bool bn)) 2 (.at_ 20) b:=⟨⟨by decide,rfl⟩,by rw[hd];exact .val _,.atm rfl⟩
 have h5:cG (bU w L) 5 (aZ a.l (M-a.s)):=⟨by decide,rfl⟩
 have h6:cG (bU w L) 6 (aZ b.l (M-b.s)):=⟨by decide,rfl⟩
 have h7:dW (bU w L) (.val (.bool an)) 7 (.at_ 200) ⟨an,bE (A+B),M⟩:=⟨⟨by decide,rfl⟩,.val _,.atm rfl⟩
 have h9:oN (bU w L) 9 r:=⟨⟨by decide,rfl⟩,rfl,rfl⟩
 have hM:∀x y:Int,x=a.s->y=b.s->(max x y)=(M:Int):=fun x y e1 e2=>by rw[e1,e2];omega
 have h:aK (bU w L) prog ⟨178,[dJ (.val (.bool an)) 1 (.at_ 12),dJ (.val (.bool bn)) 2 (.at_ 20)],.tup [dL 9,.val (.int .i64 0)]⟩:=by
  refine run_mk (by kernel_rfl) rfl (T:=mR [⟨.sub,.atom 200,.atom 12,.atom 204⟩,⟨.sub,.atom 200,.atom 20,.atom 208⟩] [] [⟨.atom 12,.atom 20,.atom 200⟩] []) (bD ?_ aH ?_ aH)
   (orc:=bT [⟨176,[dJ (.val (.bool an)) 1 (.at_ 12)],.val (.bool true)⟩,⟨176,[dJ (.val (.bool bn)) 2 (.at_ 20)],.val (.bool true)⟩,⟨42,[.ls 1,.at_ 204],.ls 5⟩,⟨42,[.ls 2,.at_ 208],.ls 6⟩,⟨214,[.ls 5,.ls 6],.ls 7⟩,⟨21,[dJ (.val (.bool an)) 7 (.at_ 200)],dL 9⟩]) (bB ?_) ⟨hA.wf,hB.wf,trivial⟩ ⟨h9.g.wf,trivial,trivial⟩ (by rw[show bn=an by rw[<-hc,<-hd,h]];cases an<;>kernel_rfl)
  ·exact aD (eT (x:=M) (y:=a.s) rfl rfl rfl (fO (by rw[wrap64 _ (by omega) (by omega)];omega))) (aD (eT (x:=M) (y:=b.s) rfl rfl rfl (fO (by rw[wrap64 _ (by omega) (by omega)];omega))) aH)
  ·exact aD ⟨a.s,b.s,rfl,rfl,by show some (Value.int .i64 ((max a.s b.s:Nat):Int))=_;congr 2;omega⟩ aH
  ·refine aD (rF hA da (by omega)) (aD (rF hB db (by omega)) (aD (oO hA.l rfl h5 (by omega) (by omega)) (aD (oO hB.l rfl h6 (by omega) (by omega)) ?_)));refine aD (aU [DA h5,DA h6] (ZJ h7.l) ?_) (aD (sN h7 h9.g hn (dK _) hlen (by show max a.s b.s<=1000;omega)) aH);rintro w _ ⟨v,_,rfl,hv,u,_,rfl,hu,rfl⟩;have:=ZC v u _ _ w hv hu (cJ da _) (cJ db _) (by rw[bV];omega) (by rw[bV];omega);rw[show num (aZ a.l (M-a.s))=A from hg,show num (aZ b.l (M-b.s))=B from hh]at this;exact this.mono (by rintro e w' ⟨sl,rfl,ho,hb⟩;exact⟨_,rfl,⟨aC.of_own ho,eH ho (aD1 _)⟩,hb⟩)
 refine(h.2 w (bG _ _ _) [dv v a,dv u b] ⟨_,_,rfl,hA.inn ha (fun _ _=>trivial),_,_,rfl,hB.inn hb (fun _ _=>trivial),rfl⟩).mono ?_
 rintro e w' ⟨x,rfl,⟨ys,rfl,p,_,rfl,hp,q,_,rfl,hq,rfl⟩,hs⟩
 obtain⟨sl,rfl,hi,hf⟩:=h9.g.out2 hp
 exact⟨sl,by rw[show q=.int .i64 0 from hq],hi,hf,hs⟩
theorem TF (v u:Value)(a b:Dc)(w:World)(ha:aC w v a.l)(hb:aC w u b.l)(da:Dg a.l)(db:Dg b.l)(la:a.l.length<=40)(lb:b.l.length<=40)(sa:a.s<=40)(sb:b.s<=40)(h:a.neg≠b.neg)(hj:num (aZ a.l (max a.s b.s-a.s))<num (aZ b.l (max a.s b.s-b.s))):
  Calls prog 178 #[dv v a,dv u b] w fun e w'=>∃sl,e=.returned (.tuple #[dv sl (lK a b),.int .i64 0])/\aC w' sl (lK a b).l/\cW w.heap.size sl (lK a b).l/\Below w.heap.size w w':=by
 obtain⟨an,hg⟩:∃q,a.neg=q:=⟨_,rfl⟩
 obtain⟨bn,hh⟩:∃q,b.neg=q:=⟨_,rfl⟩
 have hk:max a.s b.s<=40:=by omega
 have hl:=gQ (cJ da (max a.s b.s-a.s))
 have hn:=gQ (cJ db (max a.s b.s-b.s))
 have pA:num (aZ a.l (max a.s b.s-a.s))<10^80:=aEL hl (aEY (by omega) (by rw[bV];omega))
 have pB:num (aZ b.l (max a.s b.s-b.s))<10^80:=aEL hn (aEY (by omega) (by rw[bV];omega))
 obtain⟨A,hc⟩:∃A,num (aZ a.l (max a.s b.s-a.s))=A:=⟨_,rfl⟩
 obtain⟨B,hd⟩:∃B,num (aZ b.l (max a.s b.s-b.s))=B:=⟨_,rfl⟩
 obtain⟨r,hr⟩:∃r,lK a b=r:=⟨_,rfl⟩
 rw[hr]
 have hs:aL ⟨bn,bE (B-A),max a.s b.s⟩=r:=by
  rw[<-hr];unfold lK;rw[hc,hd,hg,hh];rw[aD4 (show ¬an=bn by rw[<-hg,<-hh];exact h),aD6 (show A<B by rw[<-hc,<-hd];exact hj)]
 rw[hc]at pA
 rw[hd]at pB
 have hlen:(bE (B-A)).length<=1000000:=by
  have:(bE (B-A)).length<=81:=eO (by
   rw[show(81:Nat)=1+80 from rfl,aGH];generalize(10:Nat)^80=P at *;omega)
  omega
 let M:=max a.s b.s
 let L:=nD 1 a.l++[(12,Value.int .i64 a.s)]++nD 2 b.l++[(20,Value.int .i64 b.s)]++[(200,Value.int .i64 M),(204,Value.int .i64 ((M-a.s:Nat):Int)),(208,Value.int .i64 ((M-b.s:Nat):Int))]++nD 5 (aZ a.l (M-a.s))++nD 6 (aZ b.l (M-b.s))++nD 7 (bE (B-A))++O7 9 r
 have hA:dW (bU w L) (.val (.bool an)) 1 (.at_ 12) a:=⟨⟨by decide,rfl⟩,by rw[hg];exact .val _,.atm rfl⟩
 have hB:dW (bU w L) (.val (.bool bn)) 2 (.at_ 20) b:=⟨⟨by decide,rfl⟩,by rw[hh];exact .val _,.atm rfl⟩
 have h5:cG (bU w L) 5 (aZ a.l (M-a.s)):=⟨by decide,rfl⟩
 have h6:cG (bU w L) 6 (aZ b.l (M-b.s)):=⟨by decide,rfl⟩
 have h7:dW (bU w L) (.val (.bool bn)) 7 (.at_ 200) ⟨bn,bE (B-A),M⟩:=⟨⟨by decide,rfl⟩,.val _,.atm rfl⟩
 have h9:oN (bU w L) 9 r:=⟨⟨by decide,rfl⟩,rfl,rfl⟩
 have hM:∀x y:Int,x=a.s->y=b.s->(max x y)=(M:Int):=fun x y e1 e2=>by rw[e1,e2];omega
 have h:aK (bU w L) prog ⟨178,[dJ (.val (.bool an)) 1 (.at_ 12),dJ (.val (.bool bn)) 2 (.at_ 20)],.tup [dL 9,.val (.int .i64 0)]⟩:=by
  refine run_mk (by kernel_rfl) rfl (T:=mR [⟨.sub,.atom 200,.atom 12,.atom 204⟩,⟨.sub,.atom 200,.atom 20,.atom 208⟩] [] [⟨.atom 12,.atom 20,.atom 200⟩] []) (bD ?_ aH ?_ aH)
   (orc:=bT [⟨176,[dJ (.val (.bool an)) 1 (.at_ 12)],.val (.bool true)⟩,⟨176,[dJ (.val (.bool bn)) 2 (.at_ 20)],.val (.bool true)⟩,⟨42,[.ls 1,.at_ 204],.ls 5⟩,⟨42,[.ls 2,.at_ 208],.ls 6⟩,⟨41,[.ls 5,.ls 6],.val (.int .i64 (-1))⟩,⟨215,[.ls 6,.ls 5],.ls 7⟩,⟨21,[dJ (.val (.bool bn)) 7 (.at_ 200)],dL 9⟩]) (bB ?_) ⟨hA.wf,hB.wf,trivial⟩ ⟨h9.g.wf,trivial,trivial⟩ (by rw[show bn=!an by cases an<;>cases bn<;>simp_all];cases an<;>kernel_rfl)
  ·exact aD (eT (x:=M) (y:=a.s) rfl rfl rfl (fO (by rw[wrap64 _ (by omega) (by omega)];omega))) (aD (eT (x:=M) (y:=b.s) rfl rfl rfl (fO (by rw[wrap64 _ (by omega) (by omega)];omega))) aH)
  ·exact aD ⟨a.s,b.s,rfl,rfl,by show some (Value.int .i64 ((max a.s b.s:Nat):Int))=_;congr 2;omega⟩ aH
  ·refine aD (rF hA da (by omega)) (aD (rF hB db (by omega)) (aD (oO hA.l rfl h5 (by omega) (by omega)) (aD (oO hB.l rfl h6 (by omega) (by omega)) ?_)));refine aD (ajL h5 h6 (.val _) (by rw[show num (aZ a.l (M-a.s))=A from hc,show num (aZ b.l (M-b.s))=B from hd];exact eU (by omega)) (cJ da _) (cJ db _) (by rw[bV];omega) (by rw[bV];omega)) (aD (aU [DA h6,DA h5] (ZJ h7.l) ?_) (aD (sN h7 h9.g hs (dK _) hlen (by show max a.s b.s<=1000;omega)) aH));rintro w _ ⟨v,_,rfl,hv,u,_,rfl,hu,rfl⟩;have:=wY v u _ _ w hv hu (cJ db _) (cJ da _) (by rw[bV];omega) (by rw[bV];omega) (by rw[show num (aZ a.l (M-a.s))=A from hc,show num (aZ b.l (M-b.s))=B from hd];omega);rw[show num (aZ a.l (M-a.s))=A from hc,show num (aZ b.l (M-b.s))=B from hd]at this;exact this.mono (by rintro e w' ⟨sl,rfl,ho,hb⟩;exact⟨_,rfl,⟨aC.of_own ho,eH ho (aD1 _)⟩,hb⟩)
 refine(h.2 w (bG _ _ _) [dv v a,dv u b] ⟨_,_,rfl,hA.inn ha (fun _ _=>trivial),_,_,rfl,hB.inn hb (fun _ _=>trivial),rfl⟩).mono ?_
 rintro e w' ⟨x,rfl,⟨ys,rfl,p,_,rfl,hp,q,_,rfl,hq,rfl⟩,ht⟩
 obtain⟨sl,rfl,hi,hf⟩:=h9.g.out2 hp
 exact⟨sl,by rw[show q=.int .i64 0 from hq],hi,hf,ht⟩
theorem TG (v u:Value)(a b:Dc)(w:World)(ha:aC w v a.l)(hb:aC w u b.l)(da:Dg a.l)(db:Dg b.l)(la:a.l.length<=40)(lb:b.l.length<=40)(sa:a.s<=40)(sb:b.s<=40)(h:a.neg≠b.neg)(ht:num (aZ b.l (max a.s b.s-b.s))<num (aZ a.l (max a.s b.s-a.s))):
  Calls prog 178 #[dv v a,dv u b] w fun e w'=>∃sl,e=.returned (.tuple #[dv sl (lK a b),.int .i64 0])/\aC w' sl (lK a b).l/\cW w.heap.size sl (lK a b).l/\Below w.heap.size w w':=by
 obtain⟨an,hg⟩:∃q,a.neg=q:=⟨_,rfl⟩
 obtain⟨bn,hh⟩:∃q,b.neg=q:=⟨_,rfl⟩
 have hj:max a.s b.s<=40:=by omega
 have hk:=gQ (cJ da (max a.s b.s-a.s))
 have hl:=gQ (cJ db (max a.s b.s-b.s))
 have pA:num (aZ a.l (max a.s b.s-a.s))<10^80:=aEL hk (aEY (by omega) (by rw[bV];omega))
 have pB:num (aZ b.l (max a.s b.s-b.s))<10^80:=aEL hl (aEY (by omega) (by rw[bV];omega))
 obtain⟨A,hc⟩:∃A,num (aZ a.l (max a.s b.s-a.s))=A:=⟨_,rfl⟩
 obtain⟨B,hd⟩:∃B,num (aZ b.l (max a.s b.s-b.s))=B:=⟨_,rfl⟩
 obtain⟨r,hr⟩:∃r,lK a b=r:=⟨_,rfl⟩
 rw[hr]
 have hn:aL ⟨an,bE (A-B),max a.s b.s⟩=r:=by
  rw[<-hr];unfold lK;rw[hc,hd,hg,hh];rw[aD4 (show ¬an=bn by rw[<-hg,<-hh];exact h),aD4 (show ¬A<B by rw[<-hc,<-hd];omega)]
 rw[hc]at pA
 rw[hd]at pB
 have hlen:(bE (A-B)).length<=1000000:=by
  have:(bE (A-B)).length<=81:=eO (by
   rw[show(81:Nat)=1+80 from rfl,aGH];generalize(10:Nat)^80=P at *;omega)
  omega
 let M:=max a.s b.s
 let L:=nD 1 a.l++[(12,Value.int .i64 a.s)]++nD 2 b.l++[(20,Value.int .i64 b.s)]++[(200,Value.int .i64 M),(204,Value.int .i64 ((M-a.s:Nat):Int)),(208,Value.int .i64 ((M-b.s:Nat):Int))]++nD 5 (aZ a.l (M-a.s))++nD 6 (aZ b.l (M-b.s))++nD 7 (bE (A-B))++O7 9 r
 have hA:dW (bU w L) (.val (.bool an)) 1 (.at_ 12) a:=⟨⟨by decide,rfl⟩,by rw[hg];exact .val _,.atm rfl⟩
 have hB:dW (bU w L) (.val (.bool bn)) 2 (.at_ 20) b:=⟨⟨by decide,rfl⟩,by rw[hh];exact .val _,.atm rfl⟩
 have h5:cG (bU w L) 5 (aZ a.l (M-a.s)):=⟨by decide,rfl⟩
 have h6:cG (bU w L) 6 (aZ b.l (M-b.s)):=⟨by decide,rfl⟩
 have h7:dW (bU w L) (.val (.bool an)) 7 (.at_ 200) ⟨an,bE (A-B),M⟩:=⟨⟨by decide,rfl⟩,.val _,.atm rfl⟩
 have h9:oN (bU w L) 9 r:=⟨⟨by decide,rfl⟩,rfl,rfl⟩
 have hM:∀x y:Int,x=a.s->y=b.s->(max x y)=(M:Int):=fun x y e1 e2=>by rw[e1,e2];omega
 have h:aK (bU w L) prog ⟨178,[dJ (.val (.bool an)) 1 (.at_ 12),dJ (.val (.bool bn)) 2 (.at_ 20)],.tup [dL 9,.val (.int .i64 0)]⟩:=by
  refine run_mk (by kernel_rfl) rfl (T:=mR [⟨.sub,.atom 200,.atom 12,.atom 204⟩,⟨.sub,.atom 200,.atom 20,.atom 208⟩] [] [⟨.atom 12,.atom 20,.atom 200⟩] []) (bD ?_ aH ?_ aH)
   (orc:=bT [⟨176,[dJ (.val (.bool an)) 1 (.at_ 12)],.val (.bool true)⟩,⟨176,[dJ (.val (.bool bn)) 2 (.at_ 20)],.val (.bool true)⟩,⟨42,[.ls 1,.at_ 204],.ls 5⟩,⟨42,[.ls 2,.at_ 208],.ls 6⟩,⟨41,[.ls 5,.ls 6],.val (.int .i64 1)⟩,⟨215,[.ls 5,.ls 6],.ls 7⟩,⟨21,[dJ (.val (.bool an)) 7 (.at_ 200)],dL 9⟩]) (bB ?_) ⟨hA.wf,hB.wf,trivial⟩ ⟨h9.g.wf,trivial,trivial⟩ (by rw[show bn=!an by cases an<;>cases bn<;>simp_all];cases an<;>kernel_rfl)
  ·exact aD (eT (x:=M) (y:=a.s) rfl rfl rfl (fO (by rw[wrap64 _ (by omega) (by omega)];omega))) (aD (eT (x:=M) (y:=b.s) rfl rfl rfl (fO (by rw[wrap64 _ (by omega) (by omega)];omega))) aH)
  ·exact aD ⟨a.s,b.s,rfl,rfl,by show some (Value.int .i64 ((max a.s b.s:Nat):Int))=_;congr 2;omega⟩ aH
  ·refine aD (rF hA da (by omega)) (aD (rF hB db (by omega)) (aD (oO hA.l rfl h5 (by omega) (by omega)) (aD (oO hB.l rfl h6 (by omega) (by omega)) ?_)));refine aD (ajL h5 h6 (.val _) (by rw[show num (aZ a.l (M-a.s))=A from hc,show num (aZ b.l (M-b.s))=B from hd];exact fE (by omega)) (cJ da _) (cJ db _) (by rw[bV];omega) (by rw[bV];omega)) (aD (aU [DA h5,DA h6] (ZJ h7.l) ?_) (aD (sN h7 h9.g hn (dK _) hlen (by show max a.s b.s<=1000;omega)) aH));rintro w _ ⟨v,_,rfl,hv,u,_,rfl,hu,rfl⟩;have:=wY v u _ _ w hv hu (cJ da _) (cJ db _) (by rw[bV];omega) (by rw[bV];omega) (by rw[show num (aZ a.l (M-a.s))=A from hc,show num (aZ b.l (M-b.s))=B from hd];omega);rw[show num (aZ a.l (M-a.s))=A from hc,show num (aZ b.l (M-b.s))=B from hd]at this;exact this.mono (by rintro e w' ⟨sl,rfl,ho,hb⟩;exact⟨_,rfl,⟨aC.of_own ho,eH ho (aD1 _)⟩,hb⟩)
 refine(h.2 w (bG _ _ _) [dv v a,dv u b] ⟨_,_,rfl,hA.inn ha (fun _ _=>trivial),_,_,rfl,hB.inn hb (fun _ _=>trivial),rfl⟩).mono ?_
 rintro e w' ⟨x,rfl,⟨ys,rfl,p,_,rfl,hp,q,_,rfl,hq,rfl⟩,hs⟩
 obtain⟨sl,rfl,hi,hf⟩:=h9.g.out2 hp
 exact⟨sl,by rw[show q=.int .i64 0 from hq],hi,hf,hs⟩
theorem TH (v u:Value)(a b:Dc)(w:World)(ha:aC w v a.l)(hb:aC w u b.l)(da:Dg a.l)(db:Dg b.l)(la:a.l.length<=40)(lb:b.l.length<=40)(sa:a.s<=40)(sb:b.s<=40)(h:a.neg≠b.neg)(ht:num (aZ b.l (max a.s b.s-b.s))=num (aZ a.l (max a.s b.s-a.s))):
  Calls prog 178 #[dv v a,dv u b] w fun e w'=>∃sl,e=.returned (.tuple #[dv sl (lK a b),.int .i64 0])/\aC w' sl (lK a b).l/\cW w.heap.size sl (lK a b).l/\Below w.heap.size w w':=by
 obtain⟨an,hg⟩:∃q,a.neg=q:=⟨_,rfl⟩
 obtain⟨bn,hh⟩:∃q,b.neg=q:=⟨_,rfl⟩
 have hj:max a.s b.s<=40:=by omega
 have hk:=gQ (cJ da (max a.s b.s-a.s))
 have hl:=gQ (cJ db (max a.s b.s-b.s))
 have pA:num (aZ a.l (max a.s b.s-a.s))<10^80:=aEL hk (aEY (by omega) (by rw[bV];omega))
 have pB:num (aZ b.l (max a.s b.s-b.s))<10^80:=aEL hl (aEY (by omega) (by rw[bV];omega))
 obtain⟨A,hc⟩:∃A,num (aZ a.l (max a.s b.s-a.s))=A:=⟨_,rfl⟩
 obtain⟨B,hd⟩:∃B,num (aZ b.l (max a.s b.s-b.s))=B:=⟨_,rfl⟩
 obtain⟨r,hr⟩:∃r,lK a b=r:=⟨_,rfl⟩
 rw[hr]
 have hn:aL ⟨an,bE (A-B),max a.s b.s⟩=r:=by
  rw[<-hr];unfold lK;rw[hc,hd,hg,hh];rw[aD4 (show ¬an=bn by rw[<-hg,<-hh];exact h),aD4 (show ¬A<B by rw[<-hc,<-hd];omega)]
 rw[hc]at pA
 rw[hd]at pB
 have hlen:(bE (A-B)).length<=1000000:=by
  have:(bE (A-B)).length<=81:=eO (by
   rw[show(81:Nat)=1+80 from rfl,aGH];generalize(10:Nat)^80=P at *;omega)
  omega
 let M:=max a.s b.s
 let L:=nD 1 a.l++[(12,Value.int .i64 a.s)]++nD 2 b.l++[(20,Value.int .i64 b.s)]++[(200,Value.int .i64 M),(204,Value.int .i64 ((M-a.s:Nat):Int)),(208,Value.int .i64 ((M-b.s:Nat):Int))]++nD 5 (aZ a.l (M-a.s))++nD 6 (aZ b.l (M-b.s))++nD 7 (bE (A-B))++O7 9 r
 have hA:dW (bU w L) (.val (.bool an)) 1 (.at_ 12) a:=⟨⟨by decide,rfl⟩,by rw[hg];exact .val _,.atm rfl⟩
 have hB:dW (bU w L) (.val (.bool bn)) 2 (.at_ 20) b:=⟨⟨by decide,rfl⟩,by rw[hh];exact .val _,.atm rfl⟩
 have h5:cG (bU w L) 5 (aZ a.l (M-a.s)):=⟨by decide,rfl⟩
 have h6:cG (bU w L) 6 (aZ b.l (M-b.s)):=⟨by decide,rfl⟩
 have h7:dW (bU w L) (.val (.bool an)) 7 (.at_ 200) ⟨an,bE (A-B),M⟩:=⟨⟨by decide,rfl⟩,.val _,.atm rfl⟩
 have h9:oN (bU w L) 9 r:=⟨⟨by decide,rfl⟩,rfl,rfl⟩
 have hM:∀x y:Int,x=a.s->y=b.s->(max x y)=(M:Int):=fun x y e1 e2=>by rw[e1,e2];omega
 have h:aK (bU w L) prog ⟨178,[dJ (.val (.bool an)) 1 (.at_ 12),dJ (.val (.bool bn)) 2 (.at_ 20)],.tup [dL 9,.val (.int .i64 0)]⟩:=by
  refine run_mk (by kernel_rfl) rfl (T:=mR [⟨.sub,.atom 200,.atom 12,.atom 204⟩,⟨.sub,.atom 200,.atom 20,.atom 208⟩] [] [⟨.atom 12,.atom 20,.atom 200⟩] []) (bD ?_ aH ?_ aH)
   (orc:=bT [⟨176,[dJ (.val (.bool an)) 1 (.at_ 12)],.val (.bool true)⟩,⟨176,[dJ (.val (.bool bn)) 2 (.at_ 20)],.val (.bool true)⟩,⟨42,[.ls 1,.at_ 204],.ls 5⟩,⟨42,[.ls 2,.at_ 208],.ls 6⟩,⟨41,[.ls 5,.ls 6],.val (.int .i64 0)⟩,⟨215,[.ls 5,.ls 6],.ls 7⟩,⟨21,[dJ (.val (.bool an)) 7 (.at_ 200)],dL 9⟩]) (bB ?_) ⟨hA.wf,hB.wf,trivial⟩ ⟨h9.g.wf,trivial,trivial⟩ (by rw[show bn=!an by cases an<;>cases bn<;>simp_all];cases an<;>kernel_rfl)
  ·exact aD (eT (x:=M) (y:=a.s) rfl rfl rfl (fO (by rw[wrap64 _ (by omega) (by omega)];omega))) (aD (eT (x:=M) (y:=b.s) rfl rfl rfl (fO (by rw[wrap64 _ (by omega) (by omega)];omega))) aH)
  ·exact aD ⟨a.s,b.s,rfl,rfl,by show some (Value.int .i64 ((max a.s b.s:Nat):Int))=_;congr 2;omega⟩ aH
  ·refine aD (rF hA da (by omega)) (aD (rF hB db (by omega)) (aD (oO hA.l rfl h5 (by omega) (by omega)) (aD (oO hB.l rfl h6 (by omega) (by omega)) ?_)));refine aD (ajL h5 h6 (.val _) (by rw[show num (aZ a.l (M-a.s))=A from hc,show num (aZ b.l (M-b.s))=B from hd];exact(by rw[show A=B by omega];exact iG _)) (cJ da _) (cJ db _) (by rw[bV];omega) (by rw[bV];omega)) (aD (aU [DA h5,DA h6] (ZJ h7.l) ?_) (aD (sN h7 h9.g hn (dK _) hlen (by show max a.s b.s<=1000;omega)) aH));rintro w _ ⟨v,_,rfl,hv,u,_,rfl,hu,rfl⟩;have:=wY v u _ _ w hv hu (cJ da _) (cJ db _) (by rw[bV];omega) (by rw[bV];omega) (by rw[show num (aZ a.l (M-a.s))=A from hc,show num (aZ b.l (M-b.s))=B from hd];omega);rw[show num (aZ a.l (M-a.s))=A from hc,show num (aZ b.l (M-b.s))=B from hd]at this;exact this.mono (by rintro e w' ⟨sl,rfl,ho,hb⟩;exact⟨_,rfl,⟨aC.of_own ho,eH ho (aD1 _)⟩,hb⟩)
 refine(h.2 w (bG _ _ _) [dv v a,dv u b] ⟨_,_,rfl,hA.inn ha (fun _ _=>trivial),_,_,rfl,hB.inn hb (fun _ _=>trivial),rfl⟩).mono ?_
 rintro e w' ⟨x,rfl,⟨ys,rfl,p,_,rfl,hp,q,_,rfl,hq,rfl⟩,hs⟩
 obtain⟨sl,rfl,hi,hf⟩:=h9.g.out2 hp
 exact⟨sl,by rw[show q=.int .i64 0 from hq],hi,hf,hs⟩
theorem AR (v u:Value)(a b:Dc)(w:World)(ha:aC w v a.l)(hb:aC w u b.l)(da:Dg a.l)(db:Dg b.l)(la:a.l.length<=40)(lb:b.l.length<=40)(sa:a.s<=40)(sb:b.s<=40):
  Calls prog 178 #[dv v a,dv u b] w fun e w'=>∃sl,e=.returned (.tuple #[dv sl (lK a b),.int .i64 0])/\aC w' sl (lK a b).l/\cW w.heap.size sl (lK a b).l/\Below w.heap.size w w':=by
 by_cases h:a.neg=b.neg
 ·exact TE v u a b w ha hb da db la lb sa sb h
 ·rcases aGY (num (aZ a.l (max a.s b.s-a.s))) (num (aZ b.l (max a.s b.s-b.s)))with h2|h2|h2
  ·exact TF v u a b w ha hb da db la lb sa sb h h2
  ·exact TH v u a b w ha hb da db la lb sa sb h h2.symm
  ·exact TG v u a b w ha hb da db la lb sa sb h h2
end
section
open Go.RowKit Go.Sym Go.Proofs.Tryz
variable {G:Nat->Prop}{w:World}{v:Value}{l:List Int}
theorem adI (h:aC w v l)(hG:0<l.length->∀g,v.ownBlock=some g->G g):Rd G w v (ints l):=by
 obtain⟨A,c,rfl,h0,h1,h2⟩:=h;refine⟨A,c,by rw[aQ],by rw[aQ];exact h0,h1,fun hp=>?_⟩;rw[aQ]at hp;obtain⟨b,off,rfl,hc⟩:=h2 hp;refine⟨b,off,rfl,hG hp b (by simp[Value.ownBlock]),fun j hj=>?_⟩;rw[aQ]at hj;rw[hc j hj,mC l j hj]
section
variable {B:aE}{p q:eG}{k:Nat}{d:Dc}
theorem kM (hL:cG B k l){x:Value}(h:aC w x l)(hG:0<l.length->∀g,x.ownBlock=some g->G g):fG B G w (.ls k) x:=
 ⟨hL.1,by obtain⟨A,c,rfl,_⟩:=h;rfl,_,hL.2,adI h hG⟩
theorem dW.inn' (hD:dW B p k q d)(h:aC w v d.l)(hG:0<d.l.length->∀g,v.ownBlock=some g->G g):fG B G w (dJ p k q) (dv v d):=
 ⟨_,rfl,_,_,rfl,hD.n.inn rfl,_,_,rfl,kM hD.l h hG,_,_,rfl,hD.s.inn rfl,rfl⟩
def ao1 (h:dW B p k q d):Ans B:=⟨dJ p k q,fun N w x=>∃v,x=dv v d/\aC w v d.l/\cW N v d.l,h.wf,fun _ _ x hx=>by obtain⟨v,e,h1,h2⟩:=hx;rw[e];exact h.inn' h1 h2⟩
def JV (h:dW B p k q d):Ans B:=⟨.tup [dJ p k q,.val (.int .i64 0)],fun N w x=>∃v,x=.tuple #[dv v d,.int .i64 0]/\aC w v d.l/\cW N v d.l,⟨h.wf,trivial,trivial⟩,fun _ _ x hx=>by obtain⟨v,e,h1,h2⟩:=hx;rw[e];exact⟨_,rfl,_,_,rfl,h.inn' h1 h2,_,_,rfl,rfl,rfl⟩⟩
end
theorem adJ {a:Int}(h:a<0):0<(bE a.natAbs).length:=by
 rcases aFY (bE a.natAbs).length with e|e
 ·have:=eK a.natAbs;rw[aD8 e]at this;simp[num]at this;omega
 ·exact e
theorem TI (v:Value)(d:Dc)(K:Nat)(w:World)(ha:aC w v d.l)(da:Dg d.l)(hl:d.l.length<=40)(hs:d.s<=K)(hK:K<=40):
  Calls prog 216 #[dv v d,.int .i64 K] w fun e w'=>∃sl,e=.returned (dv sl (al K (nC K d)))/\aC w' sl (al K (nC K d)).l/\cW w.heap.size sl (al K (nC K d)).l/\Below w.heap.size w w':=by
 obtain⟨t,ht⟩:∃t,aL d=t:=⟨_,rfl⟩
 have dt:Dg t.l:=by rw[<-ht];exact iL d da
 have lt:t.l.length<=40:=by rw[<-ht];exact aEI (iD d) hl
 have st:t.s<=K:=by rw[<-ht];exact aEI (kD d) hs
 have hc:(⟨t.neg,bW (aZ t.l (K-t.s)),K⟩:Dc)=al K (nC K d):=by rw[<-uO K d da hs,<-ht];rfl
 obtain⟨r,hr⟩:∃r,al K (nC K d)=r:=⟨_,rfl⟩
 have hd:t.neg=true->0<(bW (aZ t.l (K-t.s))).length:=by
  intro h;have h1:(al K (nC K d)).neg=true:=by rw[<-hc];exact h
  have h2:nC K d<0:=by simpa [al]using h1
  have h3:=aEK Dc.l hc;simp only[al]at h3;rw[h3];exact adJ h2
 rw[hr]at hc⊢
 have rl:bW (aZ t.l (K-t.s))=r.l:=aEK Dc.l hc
 have rn:t.neg=r.neg:=(aEK Dc.neg hc:_)
 have rs:K=r.s:=aEK Dc.s hc
 rw[rl]at hd
 obtain⟨tn,hg⟩:∃q,t.neg=q:=⟨_,rfl⟩
 rw[hg]at hd rn
 let L:=O7 1 d++[(200,Value.int .i64 K)]++nD 3 t.l++[(28,Value.int .i64 t.s),(204,Value.int .i64 ((K-t.s:Nat):Int))]++nD 5 (aZ t.l (K-t.s))++nD 6 r.l++[(208,Value.int .i64 (ints r.l).toArray.size)]
 have hA:oN (bU w L) 1 d:=⟨⟨by decide,rfl⟩,rfl,rfl⟩
 have hT:dW (bU w L) (.val (.bool tn)) 3 (.at_ 28) t:=⟨⟨by decide,rfl⟩,by rw[hg];exact .val _,.atm rfl⟩
 have h5:cG (bU w L) 5 (aZ t.l (K-t.s)):=⟨by decide,rfl⟩
 have h6:cG (bU w L) 6 r.l:=⟨by decide,rfl⟩
 have hR:dW (bU w L) (.val (.bool tn)) 6 (.at_ 200) r:=⟨h6,by rw[<-rn];exact .val _,by rw[<-rs];exact .atm rfl⟩
 have h:aK (bU w L) prog ⟨216,[dL 1,.at_ 200],dJ (.val (.bool tn)) 6 (.at_ 200)⟩:=by
  refine run_mk (by kernel_rfl) rfl (T:=mR (⟨.sub,.atom 200,.atom 28,.atom 204⟩::if tn=true then [⟨.gtr,.atom 208,.lit (.int .i64 0),.lit (.bool true)⟩]else []) [] [] [⟨6,.atom 208⟩]) (bD (aD ?_ ?_) aH aH (aD ?_ aH))
   (orc:=bT [⟨21,[dL 1],dJ (.val (.bool tn)) 3 (.at_ 28)⟩,⟨42,[.ls 3,.at_ 204],.ls 5⟩,⟨40,[.ls 5],.ls 6⟩]) (bB ?_) ⟨hA.g.wf,⟨_,rfl⟩,trivial⟩ hR.wf (by cases tn<;>kernel_rfl)
  ·exact eT (x:=K) (y:=t.s) rfl rfl rfl (fO (by rw[wrap64 _ (by omega) (by omega)];omega))
  ·split
   ·next hh=>
    have:=hd hh;exact aD (eT (x:=((ints r.l).toArray.size:Int)) (y:=0) rfl rfl rfl (fP (by simp[aQ];exact this))) aH
   ·exact aH
  ·exact⟨_,rfl,rfl⟩
  ·refine aD (sN hA.g hT ht da (by omega) (by omega)) (aD (oO hT.l rfl h5 (by omega) (by omega)) (aD (aU [DA h5] (ZJ h6) ?_) aH));rintro w _ ⟨v,_,rfl,hv,rfl⟩;have:=gS v _ w hv (cJ dt _) (by rw[bV];omega);rw[rl]at this;exact this.mono (by rintro e w' ⟨sl,rfl,ho,hb⟩;exact⟨_,rfl,⟨aC.of_own ho,eH ho (aD1 _)⟩,hb⟩)
 refine(h.2 w (bG _ _ _) [dv v d,.int .i64 K] ⟨_,_,rfl,hA.g.inn ha (fun _ _=>trivial),_,_,rfl,⟨rfl,rfl⟩,rfl⟩).mono ?_
 rintro e w' ⟨x,rfl,hx,hb⟩
 obtain⟨sl,rfl,hi,hf⟩:=hR.out2 hx
 exact⟨sl,rfl,hi,hf,hb⟩
theorem ajM (K:Nat)(a:Int):aL (al K a)=cz K a:=rfl
theorem adK (v:Value)(d:Dc)(K m:Nat)(w:World)(ha:aC w v d.l)(da:Dg d.l)(hl:d.l.length<=40)(hs:d.s<=K)(hK:K<=40)(hm:m<=6)(hb:(nC K d).natAbs<10^40):
  Calls prog 179 #[dv v d,.int .i64 K,.int .i64 m] w fun e w'=>∃sl,e=.returned (.tuple #[dv sl (al K (nC K d)),.int .i64 0])/\aC w' sl (al K (nC K d)).l/\cW w.heap.size sl (al K (nC K d)).l/\Below w.heap.size w w':=by
 obtain⟨r,hr⟩:∃r,al K (nC K d)=r:=⟨_,rfl⟩
 have dr:Dg r.l:=by rw[<-hr];exact JS _ _
 have lr:r.l.length<=40:=by rw[<-hr];exact adG _ _ _ hb
 have sr:r.s=K:=by rw[<-hr];rfl
 have hc:jN (aL r) (aL d)=0:=by
  rw[<-hr,ajM,jY K d da hs,yL,iG]
 rw[hr]
 let L:=O7 1 d++[(200,Value.int .i64 K),(204,Value.int .i64 m)]++O7 3 r
 have hA:oN (bU w L) 1 d:=⟨⟨by decide,rfl⟩,rfl,rfl⟩
 have hR:oN (bU w L) 3 r:=⟨⟨by decide,rfl⟩,rfl,rfl⟩
 have h:aK (bU w L) prog ⟨179,[dL 1,.at_ 200,.at_ 204],.tup [dL 3,.val (.int .i64 0)]⟩:=by
  refine run_mk (by kernel_rfl) rfl (T:=mR [⟨.lss,.atom 204,.lit (.int .i64 0),.lit (.bool false)⟩,⟨.gtr,.atom 204,.lit (.int .i64 6),.lit (.bool false)⟩,⟨.lss,.atom 200,.lit (.int .i64 0),.lit (.bool false)⟩,⟨.gtr,.atom 200,.lit (.int .i64 1000),.lit (.bool false)⟩] [] [] []) (bD ?_ aH aH aH)
   (orc:=bT [⟨176,[dL 1],.val (.bool true)⟩,⟨216,[dL 1,.at_ 200],dL 3⟩,⟨22,[dL 3,dL 1],.val (.int .i64 0)⟩]) (bB ?_) ⟨hA.g.wf,⟨_,rfl⟩,⟨_,rfl⟩,trivial⟩ ⟨hR.g.wf,trivial,trivial⟩ (by kernel_rfl)
  ·exact aD (eT (x:=m) (y:=0) rfl rfl rfl (qZ (by simp))) (aD (eT (x:=m) (y:=6) rfl rfl rfl (fP (aEC (by omega)))) (aD (eT (x:=K) (y:=0) rfl rfl rfl (qZ (by simp))) (aD (eT (x:=K) (y:=1000) rfl rfl rfl (fP (aEC (by omega)))) aH)))
  ·refine aD (rF hA.g da (by omega)) (aD (aU [xC hA.g,rP (.atm (v:= .int .i64 K) rfl)] (ao1 hR.g) ?_) (aD (aU [xC hR.g,xC hA.g] (yO (.val (.int .i64 0)) rfl) ?_) aH))
   ·rintro w _ ⟨_,_,rfl,⟨v,rfl,hv⟩,_,_,rfl,rfl,rfl⟩;have:=TI v d K w hv da hl hs hK;rw[hr]at this;exact this.mono (by rintro e w' ⟨sl,rfl,hi,hf,hb⟩;exact⟨_,rfl,⟨_,rfl,hi,hf⟩,hb⟩)
   ·rintro w _ ⟨_,_,rfl,⟨v,rfl,hv⟩,_,_,rfl,⟨u,rfl,hu⟩,rfl⟩;have:=mB v u r d w hv hu dr da lr hl (by omega) (by omega);rw[hc]at this;exact this.mono (by rintro e w' ⟨rfl,hb⟩;exact⟨_,rfl,rfl,hb⟩)
 refine(h.2 w (bG _ _ _) [dv v d,.int .i64 K,.int .i64 m] ⟨_,_,rfl,hA.g.inn ha (fun _ _=>trivial),_,_,rfl,⟨rfl,rfl⟩,_,_,rfl,⟨rfl,rfl⟩,rfl⟩).mono ?_
 rintro e w' ⟨x,rfl,⟨ys,rfl,p,_,rfl,hp,q,_,rfl,hq,rfl⟩,hd⟩
 obtain⟨sl,rfl,hi,hf⟩:=hR.g.out2 hp
 exact⟨sl,by rw[show q=.int .i64 0 from hq],hi,hf,hd⟩
end
section
open Go.RowKit Go.Sym Go.Proofs.Tryz
variable {G:Nat->Prop}{w:World}{x:Value}{N:Nat}
theorem cS {B:aE}{i:Nat}{v:Value}(h:B.A i=some v)(h1:v.oneCell'=true):sv B (.atom i)=some v:=by simp[sv,h,h1]
def pG (p:eG)(k:Nat)(q:eG)(j:Nat):eG:= .agg [p,.ls k,q,.ls j]
def sF (k:Nat)(d:Dr):List (Nat×Value):=[(8*k,.bool d.neg),(8*k+4,.bool d.sep),(4*k+2,.agg (ints d.int).toArray),(4*k+6,.agg (ints d.frac).toArray)]
structure dQ (B:aE) (p:eG) (k:Nat) (q:eG) (j:Nat) (d:Dr):Prop where
 l:cG B k d.int
 r:cG B j d.frac
 n:NP B p (.bool d.neg)
 s:NP B q (.bool d.sep)
section
variable {B:aE}{p q:eG}{k j:Nat}{d:Dr}
theorem dQ.out (hD:dQ B p k q j d)(h:fG B G w (pG p k q j) x):∃vi vf,x=mT vi vf d/\aC w vi d.int/\aC w vf d.frac:=by
 obtain⟨ys,rfl,y0,r0,rfl,a0,y1,r1,rfl,a1,y2,r2,rfl,a2,y3,r3,rfl,a3,rfl⟩:=h;rw[hD.n.out a0,hD.s.out a2];exact⟨y1,y3,rfl,kL hD.l a1,kL hD.r a3⟩
theorem MD {k:Nat}{l:List Int}(hL:cG B k l)(a1:fG B (fun g=>N<=g) w (.ls k) x):cW N x l:=by
 intro hl;obtain⟨_,_,gh,h1,h2⟩:=a1;rw[hL.2]at h1;injection h1 with h1
 subst h1;exact VR h2 hl
theorem dQ.out2 (hD:dQ B p k q j d)(h:fG B (fun g=>N<=g) w (pG p k q j) x):∃vi vf,x=mT vi vf d/\aC w vi d.int/\aC w vf d.frac/\cW N vi d.int/\cW N vf d.frac:=by
 obtain⟨ys,rfl,y0,r0,rfl,a0,y1,r1,rfl,a1,y2,r2,rfl,a2,y3,r3,rfl,a3,rfl⟩:=h;rw[hD.n.out a0,hD.s.out a2];exact⟨y1,y3,rfl,kL hD.l a1,kL hD.r a3,MD hD.l a1,MD hD.r a3⟩
theorem dQ.inn (hD:dQ B p k q j d){vi vf:Value}(h1:aC w vi d.int)(h2:aC w vf d.frac)(g1:0<d.int.length->∀g,vi.ownBlock=some g->G g)(g2:0<d.frac.length->∀g,vf.ownBlock=some g->G g):fG B G w (pG p k q j) (mT vi vf d):=
 ⟨_,rfl,_,_,rfl,hD.n.inn rfl,_,_,rfl,kM hD.l h1 g1,_,_,rfl,hD.s.inn rfl,_,_,rfl,kM hD.r h2 g2,rfl⟩
theorem dQ.wf (hD:dQ B p k q j d):qC B (pG p k q j):=⟨hD.n.wf,jM hD.l,hD.s.wf,jM hD.r,trivial⟩
def ME (h:dQ B p k q j d):Arg B:=⟨pG p k q j,fun w x=>∃vi vf,x=mT vi vf d/\aC w vi d.int/\aC w vf d.frac,h.wf,fun _ _ _ hx=>h.out hx⟩
def TJ (h:dQ B p k q j d):Ans B:=⟨.tup [pG p k q j,.val (.int .i64 0)],fun N w x=>∃vi vf,x=.tuple #[mT vi vf d,.int .i64 0]/\aC w vi d.int/\aC w vf d.frac/\cW N vi d.int/\cW N vf d.frac,⟨h.wf,trivial,trivial⟩,fun _ _ x hx=>by obtain⟨v,u,e,h1,h2,h3,h4⟩:=hx;rw[e];exact⟨_,rfl,_,_,rfl,h.inn h1 h2 h3 h4,_,_,rfl,rfl,rfl⟩⟩
end
structure aDC (R:Rl):Prop where
 dlo:Dg R.lo.l
 dhi:Dg R.hi.l
 dst:Dg R.st.l
 llo:R.lo.l.length<=40
 lhi:R.hi.l.length<=40
 lst:R.st.l.length<=40
 slo:R.lo.s<=40
 shi:R.hi.s<=40
 sst:R.st.s<=40
 hsc:R.sc<=40
 hmo:R.mo<=6
 hlh:¬0<jN (aL R.lo) (aL R.hi)
structure aDD (B:aE) (R:Rl):Prop where
 lo:oN B 1 R.lo
 hi:oN B 2 R.hi
 st:oN B 3 R.st
 ic:B.A 4004=some (.int .i64 R.ic)
 fc:B.A 4008=some (.int .i64 R.fc)
 sc:B.A 4012=some (.int .i64 R.sc)
 mi:B.A 4016=some (.int .i64 R.mi)
 mf:B.A 4020=some (.int .i64 R.mf)
 mo:B.A 4024=some (.int .i64 R.mo)
 hy:B.A 4028=some (.int .i64 R.hy)
section
variable {B:aE}{R:Rl}
end
theorem PA (v v1 v2:Value)(d lo hi:Dc)(w:World)(ha:aC w v d.l)(hb:aC w v1 lo.l)(hc:aC w v2 hi.l)(da:Dg d.l)(db:Dg lo.l)(dc:Dg hi.l)(la:d.l.length<=40)(lb:lo.l.length<=40)(lc:hi.l.length<=40)(sa:d.s<=40)(sb:lo.s<=40)(sc:hi.s<=40)(hlh:¬0<jN (aL lo) (aL hi)):
  Calls prog 180 #[dv v d,dv v1 lo,dv v2 hi] w fun e w'=>∃sl,e=.returned (.tuple #[dv sl (iO d lo hi),.int .i64 0])/\aC w' sl (iO d lo hi).l/\cW w.heap.size sl (iO d lo hi).l/\Below w.heap.size w w':=by
 obtain⟨c1,hg⟩:∃c,jN (aL lo) (aL hi)=c:=⟨_,rfl⟩
 obtain⟨c2,hd⟩:∃c,jN (aL d) (aL lo)=c:=⟨_,rfl⟩
 obtain⟨c3,hh⟩:∃c,jN (aL d) (aL hi)=c:=⟨_,rfl⟩
 obtain⟨r,hr⟩:∃r,iO d lo hi=r:=⟨_,rfl⟩
 have hj:c2<0->aL lo=r:=fun h=>by rw[<-hr];unfold iO;rw[hd,aD6 h]
 have hk:¬c2<0->0<c3->aL hi=r:=fun h h'=>by rw[<-hr];unfold iO;rw[hd,hh,aD4 h,aD6 h']
 have hl:¬c2<0->¬0<c3->aL d=r:=fun h h'=>by rw[<-hr];unfold iO;rw[hd,hh,aD4 h,aD4 h']
 rw[hr]
 rw[hg]at hlh
 let L:=O7 1 d++O7 2 lo++O7 3 hi++O7 4 r++[(200,Value.int .i64 c1),(204,Value.int .i64 c2),(208,Value.int .i64 c3)]
 have hA:oN (bU w L) 1 d:=⟨⟨by decide,rfl⟩,rfl,rfl⟩
 have hL:oN (bU w L) 2 lo:=⟨⟨by decide,rfl⟩,rfl,rfl⟩
 have hH:oN (bU w L) 3 hi:=⟨⟨by decide,rfl⟩,rfl,rfl⟩
 have hR:oN (bU w L) 4 r:=⟨⟨by decide,rfl⟩,rfl,rfl⟩
 have cE:∀{k j i:Nat} {a b:Dc} {c:Int},oN (bU w L) k a->oN (bU w L) j b->(bU w L).A i=some (.int .i64 c)->jN (aL a) (aL b)=c->Dg a.l->Dg b.l->a.l.length<=40->b.l.length<=40->a.s<=40->b.s<=40->aK (bU w L) prog ⟨22,[dL k,dL j],.at_ i⟩:=by
  intro k j i a b c h1 h2 h3 h4 h5 h6 h7 h8 h9 hn;refine aU [xC h1.g,xC h2.g] (yO (.atm h3) rfl) ?_;rintro w _ ⟨_,_,rfl,⟨v,rfl,hv⟩,_,_,rfl,⟨u,rfl,hu⟩,rfl⟩;have:=mB v u a b w hv hu h5 h6 h7 h8 h9 hn;rw[h4]at this;exact this.mono (by rintro e w' ⟨rfl,hb⟩;exact⟨_,rfl,rfl,hb⟩)
 have bI:∀{op:BinOp} {i:Nat} {c:Int} {r:Bool},(bU w L).A i=some (.int .i64 c)->(∀t ox oy w,(do eqGuard op t ox oy (.int .i64 c) (.int .i64 0);binOp op t (.int .i64 c) (.int .i64 0)).run prog w=.ok (.bool r) w)->wT prog (bU w L) ⟨op,.atom i,.lit (.int .i64 0),.lit (.bool r)⟩:=fun h1 h2=>eT (y:=0) (cS h1 rfl) rfl rfl h2
 have h:aK (bU w L) prog ⟨180,[dL 1,dL 2,dL 3],.tup [dL 4,.val (.int .i64 0)]⟩:=by
  by_cases x2:c2<0
  ·refine run_mk (by kernel_rfl) rfl (T:=mR [⟨.gtr,.atom 200,.lit (.int .i64 0),.lit (.bool false)⟩,⟨.lss,.atom 204,.lit (.int .i64 0),.lit (.bool true)⟩] [] [] []) (bD ?_ aH aH aH)
    (orc:=bT [⟨176,[dL 1],.val (.bool true)⟩,⟨176,[dL 2],.val (.bool true)⟩,⟨176,[dL 3],.val (.bool true)⟩,⟨22,[dL 2,dL 3],.at_ 200⟩,⟨22,[dL 1,dL 2],.at_ 204⟩,⟨21,[dL 2],dL 4⟩]) (bB ?_) ⟨hA.g.wf,hL.g.wf,hH.g.wf,trivial⟩ ⟨hR.g.wf,trivial,trivial⟩ (by kernel_rfl)
   ·exact aD (bI (c:=c1) rfl (fP (aEC hlh))) (aD (bI (c:=c2) rfl (qZ (aE8 x2))) aH)
   ·exact aD (rF hA.g da (by omega)) (aD (rF hL.g db (by omega)) (aD (rF hH.g dc (by omega)) (aD (cE hL hH rfl hg db dc lb lc sb sc) (aD (cE hA hL rfl hd da db la lb sa sb) (aD (sN hL.g hR.g (hj x2) db (by omega) (by omega)) aH)))))
  ·by_cases x3:0<c3
   ·refine run_mk (by kernel_rfl) rfl (T:=mR [⟨.gtr,.atom 200,.lit (.int .i64 0),.lit (.bool false)⟩,⟨.lss,.atom 204,.lit (.int .i64 0),.lit (.bool false)⟩,⟨.gtr,.atom 208,.lit (.int .i64 0),.lit (.bool true)⟩] [] [] []) (bD ?_ aH aH aH)
     (orc:=bT [⟨176,[dL 1],.val (.bool true)⟩,⟨176,[dL 2],.val (.bool true)⟩,⟨176,[dL 3],.val (.bool true)⟩,⟨22,[dL 2,dL 3],.at_ 200⟩,⟨22,[dL 1,dL 2],.at_ 204⟩,⟨22,[dL 1,dL 3],.at_ 208⟩,⟨21,[dL 3],dL 4⟩]) (bB ?_) ⟨hA.g.wf,hL.g.wf,hH.g.wf,trivial⟩ ⟨hR.g.wf,trivial,trivial⟩ (by kernel_rfl)
    ·exact aD (bI (c:=c1) rfl (fP (aEC hlh))) (aD (bI (c:=c2) rfl (qZ (aEC x2))) (aD (bI (c:=c3) rfl (fP (aE8 x3))) aH))
    ·exact aD (rF hA.g da (by omega)) (aD (rF hL.g db (by omega)) (aD (rF hH.g dc (by omega)) (aD (cE hL hH rfl hg db dc lb lc sb sc) (aD (cE hA hL rfl hd da db la lb sa sb) (aD (cE hA hH rfl hh da dc la lc sa sc) (aD (sN hH.g hR.g (hk x2 x3) dc (by omega) (by omega)) aH))))))
   ·refine run_mk (by kernel_rfl) rfl (T:=mR [⟨.gtr,.atom 200,.lit (.int .i64 0),.lit (.bool false)⟩,⟨.lss,.atom 204,.lit (.int .i64 0),.lit (.bool false)⟩,⟨.gtr,.atom 208,.lit (.int .i64 0),.lit (.bool false)⟩] [] [] []) (bD ?_ aH aH aH)
     (orc:=bT [⟨176,[dL 1],.val (.bool true)⟩,⟨176,[dL 2],.val (.bool true)⟩,⟨176,[dL 3],.val (.bool true)⟩,⟨22,[dL 2,dL 3],.at_ 200⟩,⟨22,[dL 1,dL 2],.at_ 204⟩,⟨22,[dL 1,dL 3],.at_ 208⟩,⟨21,[dL 1],dL 4⟩]) (bB ?_) ⟨hA.g.wf,hL.g.wf,hH.g.wf,trivial⟩ ⟨hR.g.wf,trivial,trivial⟩ (by kernel_rfl)
    ·exact aD (bI (c:=c1) rfl (fP (aEC hlh))) (aD (bI (c:=c2) rfl (qZ (aEC x2))) (aD (bI (c:=c3) rfl (fP (aEC x3))) aH))
    ·exact aD (rF hA.g da (by omega)) (aD (rF hL.g db (by omega)) (aD (rF hH.g dc (by omega)) (aD (cE hL hH rfl hg db dc lb lc sb sc) (aD (cE hA hL rfl hd da db la lb sa sb) (aD (cE hA hH rfl hh da dc la lc sa sc) (aD (sN hA.g hR.g (hl x2 x3) da (by omega) (by omega)) aH))))))
 refine(h.2 w (bG _ _ _) [dv v d,dv v1 lo,dv v2 hi] ⟨_,_,rfl,hA.g.inn ha (fun _ _=>trivial),_,_,rfl,hL.g.inn hb (fun _ _=>trivial),_,_,rfl,hH.g.inn hc (fun _ _=>trivial),rfl⟩).mono ?_
 rintro e w' ⟨x,rfl,⟨ys,rfl,p,_,rfl,hp,q,_,rfl,hq,rfl⟩,ho⟩
 obtain⟨sl,rfl,hi,hf⟩:=hR.g.out2 hp
 exact⟨sl,by rw[show q=.int .i64 0 from hq],hi,hf,ho⟩
end
section
open Go.RowKit Go.Sym Go.Proofs.Tryz
set_option maxRecDepth 100000 in
theorem QM (v:Value)(a:List Int)(m:Nat)(w:World)(ha:aC w v a)(da:Dg a)(la:a.length<=100)(h1:1<=m)(hm:m<=100):
  Calls prog 402 #[v,.int .i64 (-(m:Int))] w fun e w'=>∃v',e=.returned (.tuple #[v',.int .i64 0])/\w'.ownsRow w.heap.size 3 1 v' (a.take (a.length-m)).length (ints (a.take (a.length-m)))/\Below w.heap.size w w':=by
 have hb:=rC _ a w ha da
 obtain⟨A,c,rfl⟩:=ha.form
 obtain⟨k,hk⟩:∃k,a.length-m=k:=⟨_,rfl⟩
 obtain⟨n,hn⟩:∃n,a.length=n:=⟨_,rfl⟩
 have hd:k<=c:=by
  obtain⟨A',c',he,h0,_,_⟩:=ha;injection he with _ _ e3
  omega
 have hc:=jI _ _ w (ha.take_ k (by omega)) (by simp;omega)
 have hl:(a.take k).length=k:=by simp;omega
 rw[hn]at hk la hb
 rw[hn,hk]
 obtain⟨z,hz⟩:∃z:Int,-(m:Int)=z:=⟨_,rfl⟩
 rw[hz]
 have HM:=aHL hb
 have HC:=aHL hc
 have hf:decide (z<0)=true:=aE8 (by omega)
 have hg:decide ((1000:Int)<z)=false:=aEC (by omega)
 have hh:decide (z< -1000)=false:=aEC (by omega)
 obtain⟨y,hy⟩:∃y:Int,(n:Int)+z=y:=⟨_,rfl⟩
 have hi:IntKind.i64.wrap ((n:Int)+z)=y:=by rw[hy];exact aR _ (by omega) (by omega)
 have hj:max y 0=(k:Int):=by omega
 obtain⟨R,hR⟩:∃R,a.take k=R:=⟨_,rfl⟩
 rw[hR]at HC hl⊢
 rw[hl]at HC⊢
 clear hb hc ha hy hz hR hl da
 go_enter func402,ntmps402
 go_wp2_with(first
  |(go_at_call 290;refine HM.out.mono ?_;rintro e w' ⟨rfl,rfl⟩)
  |(go_at_call 278;refine HC.out.mono ?_;rintro e w4 ⟨v4,rfl,o4,b4⟩))
 go_ret2
 exact⟨_,rfl,o4,b4⟩
theorem afR (v:Value)(l:List Int)(w:World)(h:aC w v l)(hd:Dg l):
  Calls prog 539 #[v] w fun e w'=>e=.returned (.bool (decide (bZ l 0%2=1)))/\w=w':=by
 have hf:=ET v l 0 w h (by omega)
 have h0:=jX hd 0
 obtain⟨x,hx⟩:∃x,bZ l 0=x:=⟨_,rfl⟩
 rw[hx]at hf h0⊢
 obtain⟨q,hq⟩:∃q,x%2=q:=⟨_,rfl⟩
 have hm:x.tmod 2=q:=by rw[aFC h0.1];exact hq
 have hw:IntKind.i64.wrap q=q:=aR _ (by omega) (by omega)
 rw[hq]
 have HF:=aHL hf
 clear hf h hx hq
 go_enter func539,ntmps539
 go_wp2_with(go_at_call 534;refine HF.out.mono ?_;rintro e w' ⟨rfl,rfl⟩)
 go_ret
 exact⟨jQ (by first|rfl|simp),rfl⟩
def awB (oa:Bool)(half:Int):Bool:=if half=0 then oa else decide (0<half)
theorem afS (oa:Bool)(half:Int)(w:World)(h:half= -1∨half=0∨half=1):
  Calls prog 538 #[.int .i64 6,.bool false,.bool oa,.int .i64 half] w fun e w'=>e=.returned (.bool (awB oa half))/\Below w.heap.size w w':=by
 have h':aK (bU w []) prog ⟨538,[.val (.int .i64 6),.val (.bool false),.val (.bool oa),.val (.int .i64 half)],.val (.bool (awB oa half))⟩:=by
  refine run_mk (by kernel_rfl) rfl (T:=mR [] [] [] []) (bD aH aH aH aH) (orc:=bT []) (bB aH) ⟨trivial,trivial,trivial,trivial,trivial⟩ trivial ?_;rcases h with rfl|rfl|rfl<;>cases oa<;>kernel_rfl
 refine(h'.2 w (bG _ _ _) [.int .i64 6,.bool false,.bool oa,.int .i64 half] ⟨_,_,rfl,rfl,_,_,rfl,rfl,_,_,rfl,rfl,_,_,rfl,rfl,rfl⟩).mono ?_
 rintro e w' ⟨x,rfl,hx,hb⟩
 exact⟨by rw[show x=.bool (awB oa half)from hx],hb⟩
def anS:Value:= .agg #[.bool false,.slice none 0 0,.int .i64 0]
theorem QN (v:Value)(d:Dc)(K:Nat)(w:World)(ha:aC w v d.l)(da:Dg d.l)(hl:d.l.length<=40)(hs:d.s<=40)(hc:K<(aL d).s):
  Calls prog 537 #[dv v d,.int .i64 K] w fun e w'=>e=.returned (.tuple #[anS,.int .i64 3])/\Below w.heap.size w w':=by
 obtain⟨t,ht⟩:∃t,aL d=t:=⟨_,rfl⟩
 rw[ht]at hc
 let L:=O7 1 d++[(200,Value.int .i64 K)]++O7 3 t
 have hA:oN (bU w L) 1 d:=⟨⟨by decide,rfl⟩,rfl,rfl⟩
 have hT:oN (bU w L) 3 t:=⟨⟨by decide,rfl⟩,rfl,rfl⟩
 have h':aK (bU w L) prog ⟨537,[dL 1,.at_ 200],.tup [.agg [.val (.bool false),.val (.slice none 0 0),.val (.int .i64 0)],.val (.int .i64 3)]⟩:=by
  refine run_mk (by kernel_rfl) rfl (T:=mR [⟨.lss,.atom 200,.atom 28,.lit (.bool true)⟩] [] [] []) (bD (aD ?_ aH) aH aH aH)
   (orc:=bT [⟨250,[dL 1],.val (.bool true)⟩,⟨253,[dL 1],dL 3⟩]) (bB ?_) ⟨hA.g.wf,⟨_,rfl⟩,trivial⟩ ⟨⟨trivial,trivial,trivial,trivial⟩,trivial,trivial⟩ (by kernel_rfl)
  ·exact eT (x:=(K:Int)) (y:=t.s) rfl rfl rfl (qZ (aE8 (by omega)))
  ·refine aD (aU [xC hA.g] (yO (.val (.bool true)) rfl) ?_) (aD (aU [xC hA.g] (deR hT.g) ?_) aH)
   ·rintro w _ ⟨_,_,rfl,⟨v,rfl,hv⟩,rfl⟩;exact(iN v d w hv da (by omega)).mono (by rintro e w' ⟨rfl,hb⟩;exact⟨_,rfl,rfl,hb⟩)
   ·rintro w _ ⟨_,_,rfl,⟨v,rfl,hv⟩,rfl⟩;have:=eX v d w hv (by omega) (by omega);rw[ht]at this;exact this.mono (by rintro e w' ⟨sl,rfl,hi,hf,hb⟩;exact⟨_,rfl,⟨_,rfl,hi,hf⟩,hb⟩)
 refine(h'.2 w (bG _ _ _) [dv v d,.int .i64 K] ⟨_,_,rfl,hA.g.inn ha (fun _ _=>trivial),_,_,rfl,⟨rfl,rfl⟩,rfl⟩).mono ?_
 rintro e w' ⟨x,rfl,⟨ys,rfl,y,_,rfl,⟨zs,rfl,z0,_,rfl,a0,z1,_,rfl,a1,z2,_,rfl,a2,rfl⟩,q,_,rfl,hq,rfl⟩,hb⟩
 exact⟨by rw[show z0=_ from a0,show z1=_ from a1,show z2=_ from a2,show q=_ from hq];rfl,hb⟩
end
section
open Go.RowKit Go.Sym Go.Proofs.Tryz
variable {l:List Int}
def upB (e v:Nat):Bool:=decide (10^e<2*(v%10^e)) || (decide (2*(v%10^e)=10^e)&&decide (v/10^e%2=1))
def fH (e v:Nat):Nat:=v/10^e+(if upB e v=true then 1 else 0)
theorem GI (h:Dg l)(m:Nat):num (l.take (l.length-m))=num l/10^m/\num (l.drop (l.length-m))=num l%10^m:=by
 have e:=kK (l.take (l.length-m)) (l.drop (l.length-m));rw[aFD]at e;by_cases hm:m<=l.length
 ·have hl:(l.drop (l.length-m)).length=m:=by simp;omega
  rw[hl]at e;have hb:=gQ (h.drop (l.length-m));rw[hl]at hb;generalize num (l.take (l.length-m))=a at *;generalize num (l.drop (l.length-m))=b at *;generalize 10^m=p at *
  have h1:num l/p=a:=by
   refine Nat.div_eq_of_lt_le ?_ ?_
   ·rw[e];exact Nat.le_add_right _ _
   ·rw[e,Nat.succ_mul];omega
  refine⟨h1.symm,?_⟩;have h2:=Nat.div_add_mod (num l) p;rw[h1,aF0]at h2;omega
 ·have h0:l.length-m=0:=by omega
  have hb:=gQ h;have hp:(10:Nat)^l.length<=10^m:=aEY (by omega) (by omega);rw[h0,aG7,List.drop_zero,Nat.div_eq_of_lt (by omega),Nat.mod_eq_of_lt (by omega)];exact⟨rfl,rfl⟩
theorem afT (h:Dg l):(bZ l 0%2=1)↔num l%2=1:=by
 rcases aGD l with rfl|⟨r,x,rfl⟩
 ·simp[bZ,mA]
 ·rw[aGE]at h⊢;have hx:=h x (by simp);have e:bZ (r++[x]) 0=x:=by simp[bZ]
  rw[e,tP];omega
theorem afU (m:Nat):num (5::List.replicate m 0)=5*10^m:=by
 rw[jW,AJ];simp
theorem av5 (h:Dg l)(m:Nat):awB (decide (bZ (l.take (l.length-(m+1))) 0%2=1)) (eS (num (l.drop (l.length-(m+1))):Nat) (num (5::List.replicate m 0):Nat))=upB (m+1) (num l):=by
 obtain⟨h1,h2⟩:=GI h (m+1);have h3:=afT (h.take (l.length-(m+1)));rw[h1]at h3;have e5:10^(m+1)=2*(5*10^m):=by rw[aGC];omega
 rw[afU,h2];unfold awB upB;rw[e5]at h3⊢;have hp:decide (bZ (l.take (l.length-(m+1))) 0%2=1)=decide (num l/(2*(5*10^m))%2=1):=by rw[decide_eq_decide];exact h3
 rw[hp];generalize num l/(2*(5*10^m))=q;generalize num l%(2*(5*10^m))=r;generalize 5*10^m=t;rcases aGY r t with ha|heq|hb
 ·rw[eU (by omega),aD4 (by omega)];have a1:¬2*t<2*r:=by omega
  have a2:¬2*r=2*t:=by omega
  simp[a1,a2]
 ·subst heq;rw[iG,aD6 rfl];simp
 ·rw[fE (by omega),aD4 (by omega)];have a1:2*t<2*r:=by omega
  simp[a1]
theorem ap5 (e k v:Nat):fH (e+k) (v*10^k)=fH e v:=by
 have hp:=rE k;have h1:v*10^k/10^(e+k)=v/10^e:=by rw[aGH,Nat.mul_div_mul_right _ _ hp]
 have h2:v*10^k%10^(e+k)=v%10^e*10^k:=by rw[aGH,Nat.mul_mod_mul_right]
 unfold fH;rw[h1];congr 1
 have:upB (e+k) (v*10^k)=upB e v:=by
  unfold upB;rw[h1,h2,aGH]
  have a1:decide (10^e*10^k<2*(v%10^e*10^k))=decide (10^e<2*(v%10^e)):=by
   rw[decide_eq_decide,<-aFU];exact Nat.mul_lt_mul_right hp
  have a2:decide (2*(v%10^e*10^k)=10^e*10^k)=decide (2*(v%10^e)=10^e):=by
   rw[decide_eq_decide,<-aFU];constructor
   ·exact aHG hp
   ·intro h;rw[h]
  rw[a1,a2]
 rw[this]
end
end Go.Proofs.YtoeiaflkdcbkdaaGreatDoor
