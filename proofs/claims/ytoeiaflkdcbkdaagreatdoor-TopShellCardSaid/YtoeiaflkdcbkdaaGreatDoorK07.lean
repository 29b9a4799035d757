/- TopShell, part 7 of 36. -/
import Derived.Test.YtoeiaflkdcbkdaaGreatDoorK06
set_option maxHeartbeats 16000000
set_option linter.unusedVariables false
set_option linter.unusedSimpArgs false
namespace Go.Proofs.YtoeiaflkdcbkdaaGreatDoor
open Go.RowKit Go.Sym Go.Proofs.Tryz
section
section
variable {P:Program}(w:World)
theorem zL {ops:Array Oper}{o:Oper}{a:Act}{K:Act->World->Prop}{Q:Exit->Act->World->Prop}{E:Prop}(hd:o.guard=none)(s x:Operand)(t xt:TypeId)
  (ho:o.op=.call {callee:= .builtin .append,args:=#[s,x],argTypes:=#[t,xt]})
  (base:Nat) (e:TypeId) (i:TypeInfo) (ht:P.underlying t=some (.slice e)) (hf:P.underlying xt=some (.int .i64)) (hi:P.info? e=some i) (hz:i.zero=some (.int .i64 0)) (ha:i.size=1) (hg:i.bytes=8)
  (v:Value) (n:Nat) (xs:List Value) (hs:a.eval s=v) (hc:w.ownsRow base e 1 v n xs) (m:Nat) (hx:a.eval x=.int .i64 m) (hh:n+m<=1000000) (hb:base<=w.heap.size)
  (h:∀v' w',w'.ownsRow base e 1 v' (n+m) (xs++List.replicate m (.int .i64 0))->w.grownBy w' v.ownBlock->K (a.put o.dst v') w'):
  if Region.wanted o (yielded ops a.tmps)=true then Oper.wp P o a w K Q else E:=by
 have hw:Region.wanted o (yielded ops a.tmps)=true:=by simp[Region.wanted,hd]
 rw[aD6 hw]
 obtain⟨v',w',hr,h2,h3⟩:=mG (P:=P) w base t xt o.type e i ht hf hi hz ha hg v n xs hc m hh hb
 unfold Oper.wp execOp
 simp only[ho,resolve,invoke,builtin,aH2,aH3,aH1,aGP,aFB,aGS,hs,hx,hr]
 exact h v' w' h2 h3
end
theorem aaM (d:Dc)(h:0<(aL d).s):0<(aL d).l.length:=by
 unfold aL at h⊢;split
 ·next hh=>rw[aD6 hh]at h;simp at h
 ·next hh=>exact List.length_pos_iff.2 hh
theorem afV (w:World)(e:TypeId)(x:Value)(B:Nat)(hB:B<=w.heap.size):(w.alloc (Obj.cells #[x] e)).ownsRow B e 1 (.slice (some ⟨w.heap.size,0,none⟩) 1 1) 1 [x]:=
 ⟨rfl,.inr ⟨w.heap.size,1,#[x],rfl,hB,aHO w _,aD1 _,by unfold maxLen;omega,rfl,rfl⟩⟩
theorem afW (K m s:Nat)(hK:K<=40)(hs:s<=40)(ha:s=K+(m+1)):decide ((K:Int)<0)=false/\decide ((1000:Int)<(K:Int))=false/\IntKind.i64.wrap ((s:Int)-(K:Int))=((m+1:Nat):Int)/\IntKind.i64.wrap (-((m+1:Nat):Int))= -((m+1:Nat):Int)/\IntKind.i64.wrap (((m+1:Nat):Int)-1)=(m:Int)/\m<=40:=by
 refine⟨aEC (by omega),aEC (by omega),?_,?_,?_,by omega⟩
 ·rw[aR _ (by omega) (by omega)];omega
 ·rw[aR _ (by omega) (by omega)]
 ·rw[aR _ (by omega) (by omega)];omega
set_option maxRecDepth 100000 in
theorem M6 (v:Value)(d:Dc)(K m:Nat)(w:World)(ha:aC w v d.l)(da:Dg d.l)(hl:d.l.length<=39)(hs:d.s<=40)(hK:K<=40)(hn:(aL d).neg=false)(hx:(aL d).s=K+(m+1)):
  Calls prog 529 #[dv v d,.int .i64 K,.int .i64 6] w fun e w'=>∃sl,e=.returned (.tuple #[dv sl (al K (fH (m+1) (num (aL d).l))),.int .i64 0])/\aC w' sl (al K (fH (m+1) (num (aL d).l))).l/\dC w.heap.size sl/\Below w.heap.size w w':=by
 obtain⟨W2,hO,h3,z1,z2,hh⟩:=AN w (.bool d.neg) v (.int .i64 d.s) (.bool false) (.slice none 0 0) (.int .i64 0)
 have HM:=aHL (iN v d W2 (ha.below hh (aD1 _)) da (by omega))
 have HN:=aHL (fun W=>O0 6 W (by omega))
 have HA:=aHL (fun W (hB:Below W2.heap.size W2 W)=>QN v d K W ((ha.below hh (aD1 _)).below hB (aD1 _)) da (by omega) hs (by omega))
 have HT:=fun W (hB:Below W2.heap.size W2 W)=>eX v d W ((ha.below hh (aD1 _)).below hB (aD1 _)) (by omega) (by omega)
 have dt:=iL d da
 have lt:=iD d
 have st:=kD d
 obtain⟨t,ht⟩:∃t,aL d=t:=⟨_,rfl⟩
 rw[ht]at HT hn hx dt lt st⊢
 have Hp:=aHL HT
 obtain⟨kept,hb⟩:∃q,t.l.take (t.l.length-(m+1))=q:=⟨_,rfl⟩
 obtain⟨rest,hg⟩:∃q,t.l.drop (t.l.length-(m+1))=q:=⟨_,rfl⟩
 obtain⟨hD,hP⟩:=GI dt (m+1)
 have hz:=av5 dt m
 rw[hb,hg]at hz
 rw[hb]at hD
 rw[hg]at hP
 have dk:Dg kept:=by rw[<-hb];exact dt.take _
 have dr:Dg rest:=by rw[<-hg];exact dt.drop _
 have lk:kept.length<=38:=by rw[<-hb];simp;omega
 have lr:rest.length<=100:=by rw[<-hg];simp;omega
 obtain⟨R,hR⟩:∃R,al K (fH (m+1) (num t.l))=R:=⟨_,rfl⟩
 rw[hR]
 obtain⟨ub,hE⟩:∃ub,upB (m+1) (num t.l)=ub:=⟨_,rfl⟩
 rw[hE]at hz
 have ho:∀l:List Int,Dg l->num l=fH (m+1) (num t.l)->lV ⟨false,l,K⟩ K=R:=fun l hd e=>by
  rw[uO K ⟨false,l,K⟩ hd (aD1 _),<-hR];congr 1;simp[nC,e]
 have hQ:fH (m+1) (num t.l)=num kept+(if ub=true then 1 else 0):=by unfold fH;rw[hE,hD]
 have HDT:=aHL dt
 have Hb:=aHL dk
 have Hq:=aHL dr
 have Hn:=aHL (fun W V (i:aC W V t.l)=>by
  have:=QM V t.l (m+1) W i dt (by omega) (by omega) (by omega);rw[hb]at this;exact this)
 have hA:=aaM d (by rw[ht];omega)
 rw[ht]at hA
 have hS:∀W A n c,aC W (.slice A n c) t.l->∃b o,A=some ⟨b,o,none⟩/\aC W (.slice (some ⟨b,o+kept.length,none⟩) (n-kept.length) (c-kept.length)) rest/\kept.length<n/\n<=c/\c<=9223372036854775807/\b<W.heap.size:=fun W A n c i=>by
  have hl:=i.len;have h4:kept.length=t.l.length-(m+1):=by rw[<-hb];simp
  have hF:=i.drop_ kept.length (by omega);obtain⟨A',c',e,h0,h1,h2⟩:=i;injection e with e1 e2 e3
  subst e1 e2 e3;obtain⟨b,o,rfl,hc⟩:=h2 hA;rw[aD4 (by omega)]at hF;refine⟨b,o,rfl,?_,by omega,h0,h1,aHQ W _ (hc 0 hA)⟩;rw[<-hg,<-h4];have hG:(⟨b,o,none⟩:Addr).add kept.length=⟨b,o+kept.length,none⟩:=by unfold Addr.add;split<;>simp_all
  rw[aFH,hG]at hF;exact hF
 obtain⟨hg1,hg2,h5,h6,h7,h8⟩:=afW K m t.s hK (by omega) hx
 have Hr:=aHL hO
 have HZ:=aHL (fun W (hB:Below W2.heap.size W2 W)=>(z1.below hB (by omega)).bx)
 have Z1:=aHL (fun W (hB:Below W2.heap.size W2 W)=>(z1.below hB (by omega)))
 have Z2:=aHL (fun W (hB:Below W2.heap.size W2 W)=>z2.below hB (by omega))
 have Hs:=aHL hh
 have Ht:=aHL hS
 have Hg:=aHL hz
 have HF:=aHL ho
 have Hh:=aHL hQ
 have q0:=z1.c0
 have q1:=z1.c1
 have q2:=z1.c2
 obtain⟨q,hq⟩:∃q,m+1=q:=⟨_,rfl⟩
 rw[hq]at h5 h6 h7 Hn HF Hh
 have HQ:=aHL hq
 have HGE:=aHL hx
 obtain⟨na,l,s⟩:=d
 obtain⟨tn,ta,tb⟩:=t
 obtain⟨Rn,Rl',Rs⟩:=R
 simp only[dv,anS]at *
 subst hn
 clear hO z1 z2 hh ha da ht hS hz ho hQ hb hg hD hP hR hE st hA HT hq hx dt dk dr lt
 go_enter func529,ntmps529
 go_wp2_with fail
 rw[Hr.out]
 go_wp2_with fail
 refine HM.out.mono ?_
 rintro e w3 ⟨rfl,b3⟩
 clear q0 q1 q2
 go_wp2_with fail
 refine(HN.out w3).mono ?_
 rintro e w4 ⟨str,rfl,hT,hs2,bj⟩
 have b4:=b3.trans (bj.mono b3.size)
 have Z:=HZ.out _ b4
 have c0:=Z.c0
 have c1:=Z.c1
 have c2:=Z.c2
 have hp:str.toList.isEmpty=false:=by
  rw[ByteArray.toList_eq]
  cases h:str.data.toList with
  |nil=>exact absurd (show str.data.size=0 by rw[<-aFE,h];rfl) hT
  |cons a r=>rfl
 have hH:(str.toList ==[])=false:=by
  cases h:str.toList with
  |nil=>rw[h]at hp;cases hp
  |cons a r=>rfl
 clear Z b3 bj
 go_wp2_with fail
 refine(HA.out _ b4).mono ?_
 rintro e w5 ⟨rfl,bk⟩
 have b5:=b4.trans (bk.mono b4.size)
 have hs5:=b5.size
 have hs4:=b4.size
 have b6:=b5.alloc hs5 (Obj.cells #[.bool false,.slice none 0 0,.int .i64 0] 274)
 have hs6:(w5.alloc (Obj.cells #[.bool false,.slice none 0 0,.int .i64 0] 274)).heap.size=w5.heap.size+1:=by simp
 have Z6:=HZ.out _ b6
 have c0:=Z6.c0
 have c1:=Z6.c1
 have c2:=Z6.c2
 have cf:=Z6.fz
 clear hT hs2 hp hH b4 bk Z6
 go_wp2_with fail
 refine(Hp.out _ b6).mono ?_
 rintro e w7 ⟨v7,rfl,i7,f7,b7'⟩
 obtain⟨A7,c7,rfl⟩:=i7.form
 have b7:=b6.trans (b7'.mono b6.size)
 have hs7:=b7.size
 have Z7:=Z1.out _ b7
 obtain⟨W8,hV,z8,y8,i8,b8,s8⟩:∃W8,((w7.setCell ⟨w.heap.size,0,none⟩ (.bool false)).setCell ⟨w.heap.size,1,none⟩ (.slice A7 ta.length c7)).setCell ⟨w.heap.size,2,none⟩ (.int .i64 tb)=W8/\cO W8 w.heap.size (.bool false) (.slice A7 ta.length c7) (.int .i64 tb)/\cO W8 (w.heap.size+1) (.bool false) (.slice none 0 0) (.int .i64 0)/\aC W8 (.slice A7 ta.length c7) ta/\Below w.heap.size w W8/\W8.heap.size=w7.heap.size:=
  ⟨_,rfl,Z7.setAll _ _ _,((((Z2.out _ b7).far (p:=⟨w.heap.size,0,none⟩) (by show w.heap.size+1≠w.heap.size;omega) _).far (p:=⟨w.heap.size,1,none⟩) (by show w.heap.size+1≠w.heap.size;omega) _).far (p:=⟨w.heap.size,2,none⟩) (by show w.heap.size+1≠w.heap.size;omega) _),i7.set3 f7 (by rw[hs6];omega) _ _ _,Below.set3 (Hs.out.trans (b7.mono (by omega))) (aD1 _) _ _ _,by simp⟩
 have HW8:=aHL hV
 have e0:=z8.c0
 have e1:=z8.c1
 have e2:=z8.c2
 have g0:=Z7.c0
 have g1:=Z7.c1
 have g2:=Z7.c2
 have gf:=Z7.fz
 clear c0 c1 c2 cf Z7 hV
 go_wp2_with fail
 rw[HW8.out]
 refine(Hn.out _ _ i8).mono ?_
 rintro e w9 ⟨v9,rfl,o9,b9⟩
 have i9:=aC.of_own o9
 obtain⟨A9,c9,rfl⟩:=bJ o9
 have z9:cO w9 w.heap.size (.bool false) (.slice A7 ta.length c7) (.int .i64 tb):=z8.below b9 (by omega)
 have ib:=i8.below b9 (aD1 _)
 obtain⟨b0,o0,rfl,ir,hkn,hnc,hc7,hb0⟩:=Ht.out w9 A7 _ c7 ib
 obtain⟨tn,hI⟩:∃n,ta.length=n:=⟨_,rfl⟩
 obtain⟨kn,hW⟩:∃n,kept.length=n:=⟨_,rfl⟩
 rw[hI,hW]at ir hkn
 rw[hI]at hnc
 have hs9:=b9.size
 have x1:=z9.c1
 rw[hI]at x1
 have Ho:=aHL z9
 have HY9:=aHL (y8.below b9 (show w.heap.size+1<W8.heap.size by omega))
 have HIR:=aHL ir
 have Hi:=aHL i9
 have HB9:Hid (Below w.heap.size w w9):=b8.trans (b9.mono (by omega))
 have h9:w.heap.size<w9.heap.size:=by omega
 rw[hW]at Hi lk⊢
 obtain⟨i0,hi,hz0,hp,hH⟩:=aHT dI
 have bx:Below w9.heap.size w9 ((w9.alloc (Obj.cells #[.int .i64 5] 3)).drew):=by
  have:=(Below.refl w9.heap.size w9).alloc (aD1 _) (Obj.cells #[.int .i64 5] 3);exact⟨this.os,this.tape,this.output,this.size,this.block⟩
 have HBX:=aHL bx
 have HO:Hid (((w9.alloc (Obj.cells #[.int .i64 5] 3)).drew).ownsRow w9.heap.size 3 1 (.slice (some ⟨w9.heap.size,0,none⟩) 1 1) 1 [.int .i64 5]):=afV w9 _ _ _ (aD1 _)
 have hi1:(0:Int)<=(kn:Int):=Int.natCast_nonneg _
 have hi2:(kn:Int)<=(tn:Int):=by omega
 have hi3:(tn:Int)<=(c7:Int):=by omega
 have hi4:(kn:Int)<=(c7:Int):=by omega
 have hi5:kn<=tn:=by omega
 have hi6:kn<=c7:=by omega
 have hne:¬(c7=kn):=by omega
 have hne':¬(c7-kn=0):=by omega
 obtain⟨hf,hJ⟩:∃q,eS (num rest:Nat) (num (5::List.replicate m 0):Nat)=q:=⟨_,rfl⟩
 have hL:=MC (num rest:Nat) (num (5::List.replicate m 0):Nat)
 rw[hJ]at hL Hg
 have HHF:=aHL hJ
 have HIN:=aHL hL
 obtain⟨od,hM⟩:∃q,decide (bZ kept 0%2=1)=q:=⟨_,rfl⟩
 rw[hM]at Hg
 have HOD:=aHL hM
 clear g0 g1 g2 gf e0 e1 e2 bx ir i9 ib z9 hJ hL hM
 go_wp2_with fail
 go_region_held3 (fun w'=>w'.cell? ⟨w.heap.size,1,none⟩=some (.slice (some ⟨b0,o0,none⟩) tn c7))
  (first
    |go_keep
    |(rw[bf.cell (p:=⟨w.heap.size,1,none⟩) h9];assumption)
    |(rw[bd.cell (p:=⟨w.heap.size,1,none⟩) h9];assumption))
  (first
    |(refine zL _ (by rfl) _ _ _ _ (by rfl) w9.heap.size 3 i0 underlying22 underlying3 hi hz0 hp hH (.slice (some ⟨w9.heap.size,0,none⟩) 1 1) 1 [.int .i64 5] (by rfl) HO.out m (by rfl) (by omega) (by simp) ?_
      intro v11 we ob g11
      have bf:Below w9.heap.size w9 we:=HBX.out.grown g11 (by simp) (fun j hj=>by simp[Value.ownBlock]at hj;omega)
      clear g11)
    |(go_at_call 367
      refine(E3 _ _ rest (5::List.replicate m 0) we (HIR.out.below bf (aD1 _)) (aC.of_own (l:=5::List.replicate m 0) (by simpa [ints,Nat.add_comm]using ob)) Hq.out (Dg.cons (by omega) (by omega) (Dg.replicate m)) (by omega) (by simp;omega)).mono ?_
      rintro e wb ⟨rfl,bg⟩
      rw[HHF.out]
      have bd:Below w9.heap.size w9 wb:=bf.trans (bg.mono bf.size)
      clear bg))
 have z12:=Ho.out.below bd h9
 have y0:=z12.c0
 have HZ12:=aHL z12
 have hs12:=bd.size
 have Hc:=aHL (afR (.slice A9 kn c9) kept (wb.drew) (show aC wb.drew (.slice A9 kn c9) kept from Hi.out.below (w':=wb) bd (aD1 _)) Hb.out)
 rw[HOD.out]at Hc
 clear z12 x1
 go_wp2_with fail
 go_region_held3 (fun w'=>w'.cell? ⟨w.heap.size,0,none⟩=some (.bool false))
  (first
    |go_keep
    |(rw[bc.cell (p:=⟨w.heap.size,0,none⟩) (by show w.heap.size<wb.heap.size;omega)];assumption))
  (first
    |(go_at_call 539
      refine Hc.out.mono ?_
      rintro e w13 ⟨rfl,rfl⟩)
    |(go_at_call 538
      refine(afS od hf _ HIN.out).mono ?_
      rintro e wa ⟨rfl,bc⟩
      rw[Hg.out]))
 have hr:=bc.size
 have hX:wb.heap.size<=wa.heap.size:=hr
 have be:Below w9.heap.size w9 wa:=bd.trans ⟨bc.os,bc.tape,bc.output,bc.size,fun k hk=>bc.block k (by show k<wb.heap.size;omega)⟩
 have HBE:=aHL be
 have za:=Ho.out.below be h9
 have ya:=HY9.out.below be (by omega)
 have ic:=Hi.out.below be (aD1 _)
 have u0:=za.c0
 have HY:=aHL ya
 have Hd:=aHL ic
 have v0:=ya.c0
 have v1:=ya.c1
 have v2:=ya.c2
 have vf:=ya.fz
 have Bb:Hid (Below w.heap.size w wa):=HB9.out.trans (be.mono (by omega))
 clear za ya ic bc be bd y0 hr bf ob
 cases ub with
 |false=>
  go_wp2_with fail
  refine(sE (.slice A9 kn c9) ⟨false,kept,K⟩ K wa Hd.out Hb.out (by show kept.length<=40;omega) hK hK (kD _)).mono ?_
  rintro e w15 ⟨v15,rfl,ia,f15,ba⟩
  rw[HF.out kept Hb.out (by rw[Hh.out];simp)]at ia⊢
  simp only[dv]
  obtain⟨A15,c15,rfl⟩:=ia.form
  have hN:=ba.size
  have Ya:=HY.out.below ba (by omega)
  have p0:=Ya.c0
  have p1:=Ya.c1
  have p2:=Ya.c2
  have pf:=Ya.fz
  have Ba:Hid (Below w.heap.size w w15):=Bb.out.trans (ba.mono (by omega))
  have Ia:=aHL (And.intro ia f15)
  have Ha:=aHL Ya
  clear u0 v0 v1 v2 vf ia f15 ba Ya
  go_wp2_with fail
  refine aHP (aW (by rfl) _ _ (w.heap.size+1) _ _ _ _ _ rfl rfl (Ha.out.setAll _ _ _) underlying274 rfl (by kernel_rfl)) rfl ?_
  exact⟨_,rfl,Ia.out.1.set3 Ia.out.2 (by omega) _ _ _,fun j hj=>by have:=Ia.out.2 j hj;omega,Below.set3 Ba.out (by omega) _ _ _⟩
 |true=>
  obtain⟨Wa,hv,s15,i1,i2,d1,d2,ba⟩:∃Wa,(wa.alloc (Obj.cells #[.int .i64 1] 3)).alloc (Obj.cells #[.slice A9 kn c9,.slice (some ⟨wa.heap.size,0,none⟩) 1 1] 22)=Wa/\Wa.heap.size=wa.heap.size+2/\aC Wa (.slice A9 kn c9) kept/\aC Wa (.slice (some ⟨wa.heap.size,0,none⟩) 1 1) [1]/\
    Wa.cell? ⟨wa.heap.size+1,0,none⟩=some (.slice A9 kn c9)/\Wa.cell? ⟨wa.heap.size+1,1,none⟩=some (.slice (some ⟨wa.heap.size,0,none⟩) 1 1)/\Below wa.heap.size wa Wa:=by
   refine⟨_,rfl,by simp,(Hd.out.alloc _).alloc _,(E1 wa 3 [1] 1 rfl (by omega)).alloc _,?_,?_,((Below.refl _ wa).alloc (aD1 _) _).alloc (by simp) _⟩
   ·have:=aHM _ (wa.heap.size+1) 0 _ _ _ (show((wa.alloc (Obj.cells #[.int .i64 1] 3)).alloc (Obj.cells #[.slice A9 kn c9,.slice (some ⟨wa.heap.size,0,none⟩) 1 1] 22)).heap[wa.heap.size+1]?=_ by have:=aHO (wa.alloc (Obj.cells #[.int .i64 1] 3)) (Obj.cells #[.slice A9 kn c9,.slice (some ⟨wa.heap.size,0,none⟩) 1 1] 22);simpa using this);rw[this];rfl
   ·have:=aHM _ (wa.heap.size+1) 1 _ _ _ (show((wa.alloc (Obj.cells #[.int .i64 1] 3)).alloc (Obj.cells #[.slice A9 kn c9,.slice (some ⟨wa.heap.size,0,none⟩) 1 1] 22)).heap[wa.heap.size+1]?=_ by have:=aHO (wa.alloc (Obj.cells #[.int .i64 1] 3)) (Obj.cells #[.slice A9 kn c9,.slice (some ⟨wa.heap.size,0,none⟩) 1 1] 22);simpa using this);rw[this];rfl
  have Hj:=aHL hv
  have hlen:(bE (num kept+1)).length<=40:=by
   refine eO ?_;have h1:=gQ Hb.out;have h2:10^kept.length<=10^39:=aEY (by omega) (by omega);rw[show(40:Nat)=39+1 from rfl,aGC];generalize(10:Nat)^39=P at *;omega
  have HS:=aHL (adD (.slice A9 kn c9) (.slice (some ⟨wa.heap.size,0,none⟩) 1 1) kept [1] (wa.heap.size+1) Wa i1 i2 Hb.out (Dg.one (by omega) (by omega)) (by omega) (by simp) d1 d2)
  rw[show num [1]=1 from rfl]at HS
  have Hk:=aHL ba
  have HL:=aHL hlen
  clear i1 i2 d1 d2 ba hv hlen
  go_wp2_with fail
  rw[Hj.out]
  refine HS.out.mono ?_
  rintro e wc ⟨v16,rfl,oa,bh⟩
  have i16:=aC.of_own oa
  have hs16:=bh.size
  obtain⟨A16,c16,rfl⟩:=bJ oa
  have bb:Below wa.heap.size wa wc:=Hk.out.trans (bh.mono (by omega))
  have He:=aHL i16
  have u1:wc.cell? ⟨w.heap.size,0,none⟩=some (.bool false):=(bb.cell (p:=⟨w.heap.size,0,none⟩) (by show w.heap.size<wa.heap.size;omega)).trans u0
  have Hl:=aHL (HY.out.below bb (by omega))
  have B16:Hid (Below w.heap.size w wc):=Bb.out.trans (bb.mono (by omega))
  clear u0 v0 v1 v2 vf oa bh bb i16
  obtain⟨ds,hC⟩:∃q,bE (num kept+1)=q:=⟨_,rfl⟩
  have db:Dg ds:=by rw[<-hC];exact dK _
  have nb:num ds=num kept+1:=by rw[<-hC];exact eK _
  rw[hC]at He HL⊢
  obtain⟨dn,hY⟩:∃q,ds.length=q:=⟨_,rfl⟩
  have HDN:=aHL hY
  have Hm:=aHL nb
  have Hf:=aHL db
  clear hC db nb hY
  go_wp2_with fail
  refine(sE _ ⟨false,ds,K⟩ K wc He.out Hf.out (by show ds.length<=40;exact HL.out) hK hK (kD _)).mono ?_
  rintro e w17 ⟨v15,rfl,ia,f15,ba⟩
  rw[HF.out ds Hf.out (by rw[Hh.out,Hm.out];simp)]at ia⊢
  simp only[dv]
  obtain⟨A15,c15,rfl⟩:=ia.form
  have hN:=ba.size
  have Ya:=Hl.out.below ba (by omega)
  have p0:=Ya.c0
  have p1:=Ya.c1
  have p2:=Ya.c2
  have pf:=Ya.fz
  have Ba:Hid (Below w.heap.size w w17):=B16.out.trans (ba.mono (by omega))
  have Ia:=aHL (And.intro ia f15)
  have Ha:=aHL Ya
  clear u1 ia f15 ba Ya
  go_wp2_with fail
  refine aHP (aW (by rfl) _ _ (w.heap.size+1) _ _ _ _ _ rfl rfl (Ha.out.setAll _ _ _) underlying274 rfl (by kernel_rfl)) rfl ?_
  exact⟨_,rfl,Ia.out.1.set3 Ia.out.2 (by omega) _ _ _,fun j hj=>by have:=Ia.out.2 j hj;omega,Below.set3 Ba.out (by omega) _ _ _⟩
end
end Go.Proofs.YtoeiaflkdcbkdaaGreatDoor
namespace Go.Proofs.YtoeiaflkdcbkdaaGreatDoor
open Go.RowKit Go.Proofs.Tryz
section
section
variable {w w':World}{t g:Nat}{a b c d:Value}
theorem iX.set0 (h:iX w t g a b c d)(v:Value):iX (w.setCell ⟨g,0,none⟩ v) t g v b c d:=eA w g 0 v _ _ _ h
theorem iX.set1 (h:iX w t g a b c d)(v:Value):iX (w.setCell ⟨g,1,none⟩ v) t g a v c d:=eA w g 1 v _ _ _ h
theorem iX.set2 (h:iX w t g a b c d)(v:Value):iX (w.setCell ⟨g,2,none⟩ v) t g a b v d:=eA w g 2 v _ _ _ h
theorem iX.set3 (h:iX w t g a b c d)(v:Value):iX (w.setCell ⟨g,3,none⟩ v) t g a b c v:=eA w g 3 v _ _ _ h
theorem iX.setAll (h:iX w t g a b c d)(x y z u:Value):iX ((((w.setCell ⟨g,0,none⟩ x).setCell ⟨g,1,none⟩ y).setCell ⟨g,2,none⟩ z).setCell ⟨g,3,none⟩ u) t g x y z u:=(((h.set0 _).set1 _).set2 _).set3 _
end
theorem uP {w w':World}{row:Option Nat}(hg:w.grownBy w' row){g:Nat}(hb:g<w.heap.size)(ha:∀k,row=some k->g<k):w'.heap[g]?=w.heap[g]?:=
 hg.block g hb (by first|(intro e;have:=ha g e;omega)|(intro e;have:=ha g e.symm;omega))
set_option maxRecDepth 100000 in
theorem TK (v:Value)(d:Dc)(m k:Nat)(w:World)(ha:aC w v d.l)(da:Dg d.l)(la:d.l.length<=100)(hs:d.s<=100)(hm:m<=64)(hk:k<=64):
  Calls prog 113 #[dv v d,.int .i64 m,.int .i64 k] w fun e w'=>∃vi vf,e=.returned (.tuple #[mT vi vf (iP d m k),.int .i64 0])/\aC w' vi (iP d m k).int/\aC w' vf (iP d m k).frac/\dC w.heap.size vi/\dC w.heap.size vf/\Below w.heap.size w w':=by
 obtain⟨i0,hi,hK,hL,hM⟩:=aHT dI
 have dt:=iL d da
 have lt:=iD d
 have st:=kD d
 obtain⟨D,hD⟩:∃D,iP d m k=D:=⟨_,rfl⟩
 rw[hD]
 unfold iP frI frF at hD
 obtain⟨t,ht⟩:∃t,aL d=t:=⟨_,rfl⟩
 rw[ht]at dt lt st hD
 have lw:(eP t).length<=200:=by unfold eP;have:=q9 ((wideL t.l t.s).take ((wideL t.l t.s).length-t.s));simp[kR]at this⊢;omega
 have lr:(mH t).length<=200:=by unfold mH;simp[kR];omega
 obtain⟨W2,h3,s2,z1,z2,hN⟩:∃W2,(w.alloc (Obj.cells #[.bool d.neg,v,.int .i64 d.s] 33)).alloc (Obj.cells #[.bool false,.slice none 0 0,.bool false,.slice none 0 0] 39)=W2/\W2.heap.size=w.heap.size+2/\
   qO W2 w.heap.size (.bool d.neg) v (.int .i64 d.s)/\iX W2 39 (w.heap.size+1) (.bool false) (.slice none 0 0) (.bool false) (.slice none 0 0)/\Below w.heap.size w W2:=by
  refine⟨_,rfl,by simp,(qO.new w _ _ _).keep (aHR _ _ (by simp)),?_,((Below.refl _ w).alloc (aD1 _) _).alloc (by simp) _⟩
  have:=iX.new (w.alloc (Obj.cells #[.bool d.neg,v,.int .i64 d.s] 33)) 39 (.bool false) (.slice none 0 0) (.bool false) (.slice none 0 0)
  simpa using this
 have hr:=JU v d W2 (ha.below hN (aD1 _)) da (by omega)
 have hR:=fun W (hB:Below W2.heap.size W2 W)=>xA v d W ((ha.below hN (aD1 _)).below hB (aD1 _)) da (by omega) (by omega)
 rw[ht]at hR
 have hO:=fun W X (i:aC W X t.l)=>O9 X t W i dt (by omega) (by omega)
 obtain⟨a,h4⟩:∃a,eP t=a:=⟨_,rfl⟩
 obtain⟨b,h5⟩:∃b,mH t=b:=⟨_,rfl⟩
 rw[h4]at hO hD lw
 rw[h5]at hO hD lr
 obtain⟨A0,c0,rfl⟩:=ha.form
 obtain⟨dn,dl,ds⟩:=d
 obtain⟨tn,tl,ts⟩:=t
 simp only[dv,mT]at *
 have HW:=aHL h3
 have HM:=aHL hr
 have HT:=aHL hR
 have HP:=aHL hO
 have HDD:=aHL hD
 have HZ:=aHL (fun W (hB:Below W2.heap.size W2 W)=>And.intro (z1.below hB (by omega)) (z2.below hB (by omega)))
 have HB:=aHL hN
 have q0:=z1.c0
 have q1:=z1.c1
 have q2:=z1.c2
 obtain⟨na,hS⟩:∃n,a.length=n:=⟨_,rfl⟩
 obtain⟨nb,hT⟩:∃n,b.length=n:=⟨_,rfl⟩
 have Hc:=aHL hS
 have Ha:=aHL hT
 rw[hS]at lw
 rw[hT]at lr
 clear h3 hr hR hO hD z1 z2 hN ha da dt lt st ht h4 h5 hS hT
 have g1:¬((m:Int)<0):=by omega
 have g2:¬((64:Int)<(m:Int)):=by omega
 have g3:¬((k:Int)<0):=by omega
 have g4:¬((64:Int)<(k:Int)):=by omega
 go_enter func113,ntmps113
 go_wp2_with fail
 rw[HW.out]
 go_wp2_with fail
 refine HM.out.mono ?_
 rintro e w3 ⟨rfl,b3⟩
 have Z3:=(HZ.out _ b3).1.bx
 have p0:=Z3.c0
 have p1:=Z3.c1
 have p2:=Z3.c2
 clear q0 q1 q2 Z3
 go_wp2_with fail
 refine(HT.out w3 b3).mono ?_
 rintro e w4 ⟨v4,rfl,i4,f4,bc⟩
 obtain⟨A4,c4,rfl⟩:=i4.form
 have b4:=b3.trans (bc.mono b3.size)
 have hs4:=b4.size
 clear p0 p1 p2 bc b3
 obtain⟨W5,hW5,k5,i5,B5,S5⟩:∃W5,w4.alloc (Obj.cells #[.bool tn,.slice A4 tl.length c4,.int .i64 ts] 33)=W5/\qO W5 w4.heap.size (.bool tn) (.slice A4 tl.length c4) (.int .i64 ts)/\
   aC W5 (.slice A4 tl.length c4) tl/\Below W2.heap.size W2 W5/\W5.heap.size=w4.heap.size+1:=
  ⟨_,rfl,qO.new _ _ _ _,i4.alloc _,b4.alloc hs4 _,by simp⟩
 have q0:=k5.c0
 have q1:=k5.c1
 have q2:=k5.c2
 have He:=aHL k5
 clear k5 i4 f4 b4
 go_wp2_with fail
 refine(HP.out W5 _ i5).mono ?_
 rintro e w6 ⟨v1,v2,rfl,ia,ib,fa,fb,bb⟩
 obtain⟨Aa,ca,rfl⟩:∃A c,v1=.slice A na c:=by obtain⟨A,c,h⟩:=ia.form;exact⟨A,c,by rw[h,Hc.out]⟩
 obtain⟨Ab,cb,rfl⟩:∃A c,v2=.slice A nb c:=by obtain⟨A,c,h⟩:=ib.form;exact⟨A,c,by rw[h,Ha.out]⟩
 have B6:=B5.trans (bb.mono B5.size)
 have hs6:=B6.size
 have K6:=He.out.below bb (by omega)
 clear q0 q1 q2
 have q0:=K6.c0
 have HIa:=aHL (fun W (hB:Below w6.heap.size w6 W)=>ia.below hB (aD1 _))
 have HIb:=aHL (fun W (hB:Below w6.heap.size w6 W)=>ib.below hB (aD1 _))
 obtain⟨W7,h6,k7,B7,S7⟩:∃W7,w6.alloc (Obj.cells #[.bool tn,.slice none 0 0,.bool false,.slice none 0 0] 39)=W7/\iX W7 39 w6.heap.size (.bool tn) (.slice none 0 0) (.bool false) (.slice none 0 0)/\
   Below w6.heap.size w6 W7/\W7.heap.size=w6.heap.size+1:=
  ⟨_,rfl,iX.new _ _ _ _ _ _,(Below.refl _ w6).alloc (aD1 _) _,by simp⟩
 clear ia ib fa fb bb K6 He i5 B5
 have HK7:=aHL k7
 have HB7:=aHL B7
 have HW7:=aHL h6
 clear k7 B7 h6
 go_wp2_with fail
 rw[HW7.out]
 clear q0
 go_loopw [13] (fun n wr=>∃(kk z:Nat) (pv:Value),n=.int .i64 kk/\kk<=300/\z<=64/\Aside (kk=na+z/\(z=0∨kk<=m))/\
  Aside (iX wr 39 w6.heap.size (.bool tn) pv (.bool false) (.slice none 0 0)/\wr.ownsRow W7.heap.size 3 1 pv z (ints (List.replicate z 0))/\Below w6.heap.size w6 wr/\W7.heap.size<=wr.heap.size)) (fun n _=>m-(intOf n).toNat)
 case atStart=>exact⟨na,0,_,rfl,by omega,by omega,⟨rfl,.inl rfl⟩,HK7.out,aHN _ _ _ _,HB7.out,aD1 _⟩
 case round=>
  obtain⟨kk,z,pv,rfl,hkk,hz,HK,HA⟩:=hrel
  have r1:=HA.out.1.c1
  have r3:=HA.out.1.c3
  by_cases hlt:kk<m
  ·clear r3
   go_wp2_with(first
    |(at_builtin
      refine aHU _ rfl _ _ 22 rfl W7.heap.size 3 i0 (.int .i64 0) 1 8 underlying22 hi hK hL hM rfl (by decide) pv z (ints (List.replicate z 0)) (by simp[Act.eval,Act.put]) (HA.out.2.1.alloc _) ⟨_,0,none⟩ 1 1 [.int .i64 0] rfl rfl (aHZ _ _ _) (fun x hx=>by simp at hx;subst hx;rfl) (by unfold maxLen;omega) (by omega) (by have:=HA.out.2.2.2;simp;omega) ?_
      intro v8 w8 hg hb hv
      have hh:w6.heap.size<wr.heap.size:=by have:=HA.out.2.2.2;omega
      have X8:Aside (iX w8 39 w6.heap.size (.bool tn) pv (.bool false) (.slice none 0 0)/\w8.ownsRow W7.heap.size 3 1 v8 (z+1) (ints (List.replicate (z+1) 0))/\Below w6.heap.size w6 w8/\W7.heap.size<=w8.heap.size):=by
       refine⟨(HA.out.1.keep (aHR _ _ hh)).keep (uP hb (by simp;omega) (fun q hq=>by have:=(HA.out.2.1.lt q hq).1;omega)),by rw[aG1,aS];exact hg,?_,?_⟩
       ·exact(HA.out.2.2.1.alloc (by omega) _).grown hb (by simp;omega) (fun q hq=>by have:=(HA.out.2.1.lt q hq).1;omega)
       ·have:=hb.size;simp at this;have:=HA.out.2.2.2;omega
      obtain⟨A8,c8,rfl⟩:=bJ X8.out.2.1
      have e1:=X8.out.1.c1
      have ef:=X8.out.1.fz
      clear hg hb hv r1))
   go_roundw
   case rel=>
    refine⟨kk+1,z+1,_,by go_num,by omega,by have:=HK.out;omega,⟨by have:=HK.out;omega,.inr (by omega)⟩,X8.out.1.set1 _,aHS X8.out.2.1 (by show w6.heap.size<_;omega) _,X8.out.2.2.1.setCell (p:=⟨w6.heap.size,1,none⟩) (aD1 _) _,by have:=X8.out.2.2.2;simpa using this⟩
   case measure=>simp[intOf];omega
  ·have hV:=aHL (show z=m-na by have:=HK.out;omega);obtain⟨Li,hW⟩:∃L,List.replicate z 0++a=L:=⟨_,rfl⟩;obtain⟨ni,hP⟩:∃n,Li.length=n:=⟨_,rfl⟩;have Hf:=aHL hW;have Hb:=aHL hP;have hnz:Hid (z+a.length=ni):=by show _=_;rw[<-hP,<-hW];simp
   have hia:=aHL (HIa.out _ HA.out.2.2.1);clear hW hP r3
   go_wp2_with(first
    |(at_builtin
      refine aM _ rfl _ _ 22 rfl W7.heap.size 3 i0 underlying22 hi hK hL hM pv z (ints (List.replicate z 0)) (by simp[Act.eval,Act.put]) HA.out.2.1 (.slice Aa na ca) a (by simp[Act.eval,Act.put]) hia.out (by have:=Hc.out;omega) HA.out.2.2.2 ?_
      intro v8 w8 hg hb
      have hh:w6.heap.size<wr.heap.size:=by have:=HA.out.2.2.2;omega
      have X8:Aside (iX w8 39 w6.heap.size (.bool tn) pv (.bool false) (.slice none 0 0)/\w8.ownsRow W7.heap.size 3 1 v8 ni (ints Li)/\Below w6.heap.size w6 w8/\W7.heap.size<=w8.heap.size):=by
       refine⟨HA.out.1.keep (uP hb hh (fun q hq=>by have:=(HA.out.2.1.lt q hq).1;omega)),by rw[<-hnz.out,<-Hf.out,aS];exact hg,?_,?_⟩
       ·exact HA.out.2.2.1.grown hb (by omega) (fun q hq=>by have:=(HA.out.2.1.lt q hq).1;omega)
       ·have:=hb.size;have:=HA.out.2.2.2;omega
      obtain⟨A8,c8,rfl⟩:=bJ X8.out.2.1
      have e1:=X8.out.1.c1
      have e3:=X8.out.1.c3
      have ef:=X8.out.1.fz
      clear hg hb r1)
    |(at_builtin
      obtain⟨W9,h7,X9⟩:∃W9,w8.setCell ⟨w6.heap.size,1,none⟩ (.slice A8 ni c8)=W9/\Aside (iX W9 39 w6.heap.size (.bool tn) (.slice A8 ni c8) (.bool false) (.slice none 0 0)/\W9.ownsRow W7.heap.size 3 1 (.slice A8 ni c8) ni (ints Li)/\Below w6.heap.size w6 W9/\W7.heap.size<=W9.heap.size):=
       ⟨_,rfl,X8.out.1.set1 _,aHS X8.out.2.1 (by show w6.heap.size<_;omega) _,X8.out.2.2.1.setCell (p:=⟨w6.heap.size,1,none⟩) (aD1 _) _,by have:=X8.out.2.2.2;simpa using this⟩
      rw[h7]
      have hib:=aHL (HIb.out _ X9.out.2.2.1)
      have hb9:Hid (0+b.length<=1000000):=by show _<=_;have:=Ha.out;omega
      refine aM _ rfl _ _ 22 rfl W9.heap.size 3 i0 underlying22 hi hK hL hM (.slice none 0 0) 0 [] (by simp[Act.eval,Act.put]) (aHN _ _ _ _) (.slice Ab nb cb) b (by simp[Act.eval,Act.put]) hib.out hb9.out (aD1 _) ?_
      intro v10 wa hl hc
      have Xa:Aside (iX wa 39 w6.heap.size (.bool tn) (.slice A8 ni c8) (.bool false) (.slice none 0 0)/\wa.ownsRow W7.heap.size 3 1 (.slice A8 ni c8) ni (ints Li)/\Below w6.heap.size w6 wa/\W9.heap.size<=wa.heap.size/\
        wa.ownsRow W9.heap.size 3 1 v10 nb (ints b)/\(∀q,(Value.slice A8 ni c8).ownBlock=some q->q<W9.heap.size)/\W7.heap.size<=W9.heap.size):=by
       refine⟨X9.out.1.keep (uP hc X9.out.1.lt (fun q hq=>by simp[Value.ownBlock]at hq)),X9.out.2.1.kept hc (by cases h:(Value.slice A8 ni c8).ownBlock<;>simp[Value.ownBlock]),?_,hc.size,?_,fun q hq=>(X9.out.2.1.lt q hq).2,X9.out.2.2.2⟩
       ·exact X9.out.2.2.1.grown hc (by have:=X9.out.2.2.2;omega) (fun q hq=>by simp[Value.ownBlock]at hq)
       ·have:=hl;rw[<-Ha.out];simpa using this
      obtain⟨A10,c10,rfl⟩:=bJ Xa.out.2.2.2.2.1
      have e1:=Xa.out.1.c1
      have e3':=Xa.out.1.c3
      have ef':=Xa.out.1.fz
      clear hl hc h7))
   obtain⟨N9,h8⟩:∃N,W9.heap.size=N:=⟨_,rfl⟩;rw[h8]at Xa
   obtain⟨Wb,hA,X11⟩:∃Wb,wa.setCell ⟨w6.heap.size,3,none⟩ (.slice A10 nb c10)=Wb/\Aside (iX Wb 39 w6.heap.size (.bool tn) (.slice A8 ni c8) (.bool false) (.slice A10 nb c10)/\Wb.ownsRow W7.heap.size 3 1 (.slice A8 ni c8) ni (ints Li)/\Below w6.heap.size w6 Wb/\N9<=Wb.heap.size/\
     Wb.ownsRow N9 3 1 (.slice A10 nb c10) nb (ints (b++List.replicate 0 0))):=
    ⟨_,rfl,Xa.out.1.set3 _,aHS Xa.out.2.1 (by show w6.heap.size<_;omega) _,Xa.out.2.2.1.setCell (p:=⟨w6.heap.size,3,none⟩) (aD1 _) _,by have:=Xa.out.2.2.2.1;simpa using this,by
      have:=aHS Xa.out.2.2.2.2.1 (a:=⟨w6.heap.size,3,none⟩) (by show w6.heap.size<_;have:=Xa.out.2.2.2.2.2.2;omega) (.slice A10 nb c10);simpa using this⟩
   have HLT:=aHL Xa.out.2.2.2.2.2.1;have h79:=Xa.out.2.2.2.2.2.2;rw[hA];clear hA e1 e3' ef' h8
   go_loopw [] (fun wr=>∃(z2 nf cf:Nat) (Af:Option Addr),nf<=300/\Aside (nf=nb+z2/\(z2=0∨nf<=k))/\Aside (iX wr 39 w6.heap.size (.bool tn) (.slice A8 ni c8) (.bool false) (.slice Af nf cf)/\wr.ownsRow W7.heap.size 3 1 (.slice A8 ni c8) ni (ints Li)/\Below w6.heap.size w6 wr/\N9<=wr.heap.size/\
    wr.ownsRow N9 3 1 (.slice Af nf cf) nf (ints (b++List.replicate z2 0)))) (fun wr=>match wr.cell? ⟨w6.heap.size,3,none⟩with|some (.slice _ n _)=>k-n|_=>0)
   case atStart=>exact⟨0,nb,c10,A10,by omega,⟨by omega,.inl rfl⟩,X11.out⟩
   case round=>
    obtain⟨z2,nf,cf,Af,hnf,Hd,HC⟩:=hrel
    have r1:=HC.out.1.c1
    have r2:=HC.out.1.c2
    have r3:=HC.out.1.c3
    by_cases hX:nf<k
    ·clear r1 r2
     go_wp2_with(first
      |(at_builtin
        refine aHU _ rfl _ _ 22 rfl N9 3 i0 (.int .i64 0) 1 8 underlying22 hi hK hL hM rfl (by decide) (.slice Af nf cf) nf (ints (b++List.replicate z2 0)) (by simp[Act.eval,Act.put]) (HC.out.2.2.2.2.alloc _) ⟨_,0,none⟩ 1 1 [.int .i64 0] rfl rfl (aHZ _ _ _) (fun x hx=>by simp at hx;subst hx;rfl) (by unfold maxLen;omega) (by omega) (by have:=HC.out.2.2.2.1;simp;omega) ?_
        intro v12 wb ho hd hp
        have hh:w6.heap.size<wr.heap.size:=by have:=HC.out.2.2.2.1;omega
        have Xb:Aside (iX wb 39 w6.heap.size (.bool tn) (.slice A8 ni c8) (.bool false) (.slice Af nf cf)/\wb.ownsRow W7.heap.size 3 1 (.slice A8 ni c8) ni (ints Li)/\Below w6.heap.size w6 wb/\N9<=wb.heap.size/\
          wb.ownsRow N9 3 1 v12 (nf+1) (ints (b++List.replicate (z2+1) 0))):=by
         refine⟨(HC.out.1.keep (aHR _ _ hh)).keep (uP hd (by simp;omega) (fun q hq=>by have:=(HC.out.2.2.2.2.lt q hq).1;omega)),(HC.out.2.1.alloc _).kept hd ?_,?_,?_,by rw[aG1,<-aEF,aS];exact ho⟩
         ·by_cases hn:(Value.slice A8 ni c8).ownBlock=none
          ·exact .inl hn
          ·refine .inr (fun e=>?_);obtain⟨q,hq⟩:=Option.ne_none_iff_exists'.1 hn;have h1:=HLT.out q hq;have h2:=(HC.out.2.2.2.2.lt q (by rw[<-e];exact hq)).1;omega
         ·exact(HC.out.2.2.1.alloc (by omega) _).grown hd (by simp;omega) (fun q hq=>by have:=(HC.out.2.2.2.2.lt q hq).1;omega)
         ·have:=hd.size;simp at this;have:=HC.out.2.2.2.1;omega
        obtain⟨Ac,c12,rfl⟩:=bJ Xb.out.2.2.2.2
        have e3:=Xb.out.1.c3
        have ef:=Xb.out.1.fz
        clear ho hd hp))
     go_roundw
     case rel=>
      exact⟨z2+1,nf+1,c12,Ac,by omega,⟨by have:=Hd.out;omega,.inr (by omega)⟩,Xb.out.1.set3 _,aHS Xb.out.2.1 (by show w6.heap.size<_;omega) _,Xb.out.2.2.1.setCell (p:=⟨w6.heap.size,3,none⟩) (aD1 _) _,by have:=Xb.out.2.2.2.1;simpa using this,aHS Xb.out.2.2.2.2 (by show w6.heap.size<_;omega) _⟩
     case measure=>
      have q1:=(Xb.out.1.set3 (.slice Ac (nf+1) c12)).c3
      simp[q1,r3];omega
    ·have hz3:=aHL (show z2=k-nb by have:=Hd.out;omega);obtain⟨F,hF⟩:∃F,b++List.replicate z2 0=F:=⟨_,rfl⟩;have hC:Hid (F.length=nf):=by show _=_;rw[<-hF];simp;have:=Ha.out;have:=Hd.out;omega
     have Hg:Hid (D=⟨tn,if Li=[]/\F=[]then [0]else Li,decide (0<nf),F⟩):=by
      show _=_;rw[<-HDD.out,<-hC.out,<-hF,<-Hf.out,hV.out,hz3.out,Hc.out,Ha.out]
     rw[hF]at HC;have HLl:=Hb;have ba:=(HZ.out wr (B6.trans (HC.out.2.2.1.mono B6.size))).2;have y0:=ba.c0;have y1:=ba.c1;have y2:=ba.c2;have y3:=ba.c3;have yf:=ba.fz;have HY:=aHL ba;have r0:=HC.out.1.c0;have rf:=HC.out.1.fz;have h9:w.heap.size+1<w6.heap.size:=by omega
     have hge2:k<=nf:=by omega
     clear hF ba hX;have hs11:=HC.out.2.2.2.1
     have fin:Hid (∀Wa,iX Wa 39 (w.heap.size+1) (.bool false) (.slice none 0 0) (.bool false) (.slice none 0 0)->Below w6.heap.size w6 Wa->Wa.ownsRow N9 3 1 (.slice Af nf cf) nf (ints F)->∀vi I,aC Wa vi I->dC W7.heap.size vi->∀x0 x2,
       aC ((((Wa.setCell ⟨w.heap.size+1,0,none⟩ x0).setCell ⟨w.heap.size+1,1,none⟩ vi).setCell ⟨w.heap.size+1,2,none⟩ x2).setCell ⟨w.heap.size+1,3,none⟩ (.slice Af nf cf)) vi I/\
       aC ((((Wa.setCell ⟨w.heap.size+1,0,none⟩ x0).setCell ⟨w.heap.size+1,1,none⟩ vi).setCell ⟨w.heap.size+1,2,none⟩ x2).setCell ⟨w.heap.size+1,3,none⟩ (.slice Af nf cf)) (.slice Af nf cf) F/\
       dC w.heap.size vi/\dC w.heap.size (.slice Af nf cf)/\Below w.heap.size w ((((Wa.setCell ⟨w.heap.size+1,0,none⟩ x0).setCell ⟨w.heap.size+1,1,none⟩ vi).setCell ⟨w.heap.size+1,2,none⟩ x2).setCell ⟨w.heap.size+1,3,none⟩ (.slice Af nf cf))):=by
      intro Wa hb13 hY hE vi I hI hIf x0 x2
      have hIF:aC Wa (.slice Af nf cf) F:=aC.of_own (by rw[hC.out];exact hE)
      have hFF:dC N9 (.slice Af nf cf):=fun q hq=>(hE.lt q hq).1
      exact⟨hI.set4 hIf (by omega) _ _ _ _,hIF.set4 hFF (by omega) _ _ _ _,fun q hq=>by have:=hIf q hq;omega,fun q hq=>by have:=hFF q hq;omega,Below.set4 ((HB.out.trans ((B6.trans (hY.mono B6.size)).mono (by omega)))) (by omega) _ _ _ _⟩
     have cc:Hid (∀x,iX (wr.setCell ⟨w6.heap.size,2,none⟩ x) 39 (w.heap.size+1) (.bool false) (.slice none 0 0) (.bool false) (.slice none 0 0)/\Below w6.heap.size w6 (wr.setCell ⟨w6.heap.size,2,none⟩ x)/\(wr.setCell ⟨w6.heap.size,2,none⟩ x).ownsRow N9 3 1 (.slice Af nf cf) nf (ints F)/\aC (wr.setCell ⟨w6.heap.size,2,none⟩ x) (.slice A8 ni c8) Li/\dC W7.heap.size (.slice A8 ni c8)):=fun x=>
      ⟨HY.out.keep (Below.heap_setCell wr ⟨w6.heap.size,2,none⟩ x _ (by show _≠w6.heap.size;omega)),HC.out.2.2.1.setCell (p:=⟨w6.heap.size,2,none⟩) (aD1 _) _,aHS HC.out.2.2.2.2 (by show w6.heap.size<_;omega) _,by
        have:=aHS HC.out.2.1 (a:=⟨w6.heap.size,2,none⟩) (by show w6.heap.size<_;omega) x;rw[<-Hb.out]at this;rw[<-Hb.out];exact aC.of_own this,fun q hq=>(HC.out.2.1.lt q hq).1⟩
     have HD1:Hid (¬(ni=0/\nf=0)->D=⟨tn,Li,decide (0<nf),F⟩):=fun h=>by
      rw[Hg.out,aD4 (fun e=>h ⟨by rw[<-Hb.out,e.1];rfl,by rw[<-hC.out,e.2];rfl⟩)]
     have HD0:Hid (ni=0/\nf=0->D=⟨tn,[0],decide (0<nf),F⟩):=fun h=>by
      rw[Hg.out,aD6 ⟨aD8 (Hb.out.trans h.1),aD8 (hC.out.trans h.2)⟩]
     rcases aFY ni with hG|hP
     ·rcases aFY nf with hH|h0
      ·have hJ:=aHL (HD0.out ⟨hG,hH⟩)
       obtain⟨Wa,hW13,Ka⟩:∃Wa,(wr.setCell ⟨w6.heap.size,2,none⟩ (.bool false)).alloc (Obj.cells #[.int .i64 0] 3)=Wa/\Aside (iX Wa 39 w6.heap.size (.bool tn) (.slice A8 ni c8) (.bool false) (.slice Af nf cf)/\
         iX Wa 39 (w.heap.size+1) (.bool false) (.slice none 0 0) (.bool false) (.slice none 0 0)/\aC Wa (.slice (some ⟨wr.heap.size,0,none⟩) 1 1) [0]/\aC Wa (.slice Af nf cf) F/\Below w6.heap.size w6 Wa/\w6.heap.size<wr.heap.size/\dC (w6.heap.size+1) (.slice Af nf cf)):=by
        obtain⟨k1,k2,k3,k4,k5⟩:=cc.out (.bool false)
        have hQ:(wr.setCell ⟨w6.heap.size,2,none⟩ (.bool false)).heap.size=wr.heap.size:=by simp
        have hh:w6.heap.size<wr.heap.size:=by omega
        refine⟨_,rfl,(HC.out.1.set2 _).keep (aHR _ _ (by rw[hQ];exact hh)),k1.keep (aHR _ _ (by rw[hQ];omega)),⟨_,_,rfl,by decide,by decide,fun _=>⟨_,_,rfl,fun j hj=>?_⟩⟩,?_,k2.alloc (by rw[hQ];omega) _,hh,fun q hq=>by have:=(k3.lt q hq).1;omega⟩
        ·obtain rfl:j=0:=by simpa using hj
         rw[aHM _ wr.heap.size 0 _ _ _ (by rw[<-hQ];exact aHO _ _)];rfl
        ·exact(aC.of_own (l:=F) (by rw[hC.out];exact k3)).alloc _
       have r0':=Ka.out.1.c0;have r1':=Ka.out.1.c1;have r2':=Ka.out.1.c2;have r3':=Ka.out.1.c3;have rf':=Ka.out.1.fz;have y0':=Ka.out.2.1.c0;have y1':=Ka.out.2.1.c1;have y2':=Ka.out.2.1.c2;have y3':=Ka.out.2.1.c3;have yf':=Ka.out.2.1.fz;go_wp2_with fail
       subst hH;refine aHP (aW (by rfl) _ _ (w.heap.size+1) _ _ _ _ _ rfl rfl (iX.setAll (Ka.out.2.1.keep (Below.heap_setCell Wa ⟨w6.heap.size,1,none⟩ (.slice (some ⟨wr.heap.size,0,none⟩) 1 1) _ (by show _≠w6.heap.size;omega))) (.bool tn) (.slice (some ⟨wr.heap.size,0,none⟩) 1 1) (.bool false) (.slice Af 0 cf)) underlying39 rfl (by kernel_rfl)) rfl ?_;have f1:dC (w6.heap.size+1) (.slice (some ⟨wr.heap.size,0,none⟩) 1 1):=fun q hq=>(show wr.heap.size=q by simpa [Value.ownBlock]using hq) ▸ Ka.out.2.2.2.2.2.1
       have f2:=Ka.out.2.2.2.2.2.2;rw[hJ.out]
       exact⟨.slice (some ⟨wr.heap.size,0,none⟩) 1 1,.slice Af 0 cf,rfl,(Ka.out.2.2.1.far f1 (p:=⟨w6.heap.size,1,none⟩) (by show w6.heap.size<_;omega) _).set4 f1 (by omega) _ _ _ _,(Ka.out.2.2.2.1.far f2 (p:=⟨w6.heap.size,1,none⟩) (by show w6.heap.size<_;omega) _).set4 f2 (by omega) _ _ _ _,
        fun q hq=>by have:=f1 q hq;omega,fun q hq=>by have:=f2 q hq;omega,Below.set4 (HB.out.trans ((B6.trans ((Ka.out.2.2.2.2.1.setCell (p:=⟨w6.heap.size,1,none⟩) (aD1 _) _).mono B6.size)).mono (by omega))) (by omega) _ _ _ _⟩
      ·have hJ:=aHL (HD1.out (by omega));subst hG;go_wp2_with fail
       refine aHP (aW (by rfl) _ _ (w.heap.size+1) _ _ _ _ _ rfl rfl (iX.setAll (cc.out (.bool true)).1 (.bool tn) _ (.bool true) (.slice Af nf cf)) underlying39 rfl (by kernel_rfl)) rfl ?_;have c13:=cc.out (.bool true);have hf:=fin.out _ c13.1 c13.2.1 c13.2.2.1 _ _ c13.2.2.2.1 c13.2.2.2.2 (.bool tn) (.bool true);rw[hJ.out,aE8 h0];exact⟨.slice A8 0 c8,.slice Af nf cf,rfl,hf⟩
     ·have hJ:=aHL (HD1.out (by omega));go_wp2_with fail
      refine aHP (aW (by rfl) _ _ (w.heap.size+1) _ _ _ _ _ rfl rfl (iX.setAll (cc.out (.bool (decide (0<nf)))).1 (.bool tn) _ (.bool (decide (0<nf))) (.slice Af nf cf)) underlying39 rfl (by kernel_rfl)) rfl ?_;have c13:=cc.out (.bool (decide (0<nf)));have hf:=fin.out _ c13.1 c13.2.1 c13.2.2.1 _ _ c13.2.2.2.1 c13.2.2.2.2 (.bool tn) (.bool (decide (0<nf)));rw[hJ.out];exact⟨.slice A8 ni c8,.slice Af nf cf,rfl,hf⟩
end
section
open Go.RowKit Go.Sym Go.Proofs.Tryz
theorem AX (vi vf:Value)(d:Dr)(w:World)(h:qF w vi vf d):
  Calls prog 34 #[mT vi vf d] w fun e w'=>e=.returned (.bool true)/\Below w.heap.size w w':=by
 obtain⟨s,hs⟩:∃q,d.sep=q:=⟨_,rfl⟩
 have hz:s=false->(ints d.frac).toArray.size=0:=fun e=>by
  have:=h.sp;rw[hs,e]at this;have:d.frac=[]:=by simpa using this
  simp[this,ints]
 let L:=nD 1 d.int++nD 2 d.frac++[(200,Value.bool d.neg)]
 have hA:dQ (bU w L) (.at_ 200) 1 (.val (.bool s)) 2 d:=⟨⟨by decide,rfl⟩,⟨by decide,rfl⟩,.atm rfl,by rw[hs];exact .val _⟩
 have h':aK (bU w L) prog ⟨34,[pG (.at_ 200) 1 (.val (.bool s)) 2],.val (.bool true)⟩:=by
  refine run_mk (by kernel_rfl) rfl (T:=mR [] [] [] (if s=false then [⟨2,.lit (.int .i64 0)⟩]else [])) (bD aH aH aH ?_)
   (orc:=bT [⟨59,[.ls 1],.val (.bool true)⟩,⟨59,[.ls 2],.val (.bool true)⟩]) (bB ?_) ⟨hA.wf,trivial⟩ trivial (by cases s<;>kernel_rfl)
  ·split
   ·next hh=>exact aD ⟨_,hA.r.2,by rw[hz hh];rfl⟩ aH
   ·exact aH
  ·refine aD (aU [DA hA.l] (yO (.val (.bool true)) rfl) ?_) (aD (aU [DA hA.r] (yO (.val (.bool true)) rfl) ?_) aH)
   ·rintro w _ ⟨v,_,rfl,hv,rfl⟩;exact(AP v _ w hv h.di).mono (by rintro e w' ⟨rfl,rfl⟩;exact⟨_,rfl,rfl,Below.refl _ _⟩)
   ·rintro w _ ⟨v,_,rfl,hv,rfl⟩;exact(AP v _ w hv h.df).mono (by rintro e w' ⟨rfl,rfl⟩;exact⟨_,rfl,rfl,Below.refl _ _⟩)
 refine(h'.2 w (bG _ _ _) [mT vi vf d] ⟨_,_,rfl,hA.inn h.ii h.jf (fun _ _ _=>trivial) (fun _ _ _=>trivial),rfl⟩).mono ?_
 rintro e w' ⟨x,rfl,hx,hb⟩
 exact⟨by rw[show x=.bool true from hx],hb⟩
theorem VU {B:aE}{k:Nat}{d:Dr}(hk:k<1023)(h1:B.A (8*k)=some (.bool d.neg))(h2:B.A (8*k+4)=some (.bool d.sep))(h3:B.A (gid k)=some (.agg (ints d.int).toArray))(h4:B.A (gid (k+1))=some (.agg (ints d.frac).toArray)):
 dQ B (.at_ (8*k)) k (.at_ (8*k+4)) (k+1) d:=⟨⟨by omega,h3⟩,⟨by omega,h4⟩,.atm h1,.atm h2⟩
def eE (d:Dr):Dc:=aL ⟨d.neg,d.int++d.frac,d.frac.length⟩
theorem FB (vi vf:Value)(d:Dr)(w:World)(h:qF w vi vf d):
  Calls prog 309 #[mT vi vf d] w fun e w'=>e=.returned (.int .i64 (aJ d).length)/\Below w.heap.size w w':=by
 let L:=sF 4 d++nD 6 (aJ d)++[(200,Value.int .i64 (ints (aJ d)).toArray.size)]
 have hA:dQ (bU w L) (.at_ 32) 4 (.at_ 36) 5 d:=VU (k:=4) (by decide) rfl rfl rfl rfl
 have h6:cG (bU w L) 6 (aJ d):=⟨by decide,rfl⟩
 have h':aK (bU w L) prog ⟨309,[pG (.at_ 32) 4 (.at_ 36) 5],.at_ 200⟩:=by
  refine run_mk (by kernel_rfl) rfl (T:=mR [] [] [] [⟨6,.atom 200⟩]) (bD aH aH aH (aD ⟨_,rfl,rfl⟩ aH))
   (orc:=bT [⟨379,[pG (.at_ 32) 4 (.at_ 36) 5],.ls 6⟩]) (bB ?_) ⟨hA.wf,trivial⟩ ⟨_,rfl⟩ (by kernel_rfl)
  refine aD (aU [ME hA] (ZJ h6) ?_) aH;rintro w _ ⟨_,_,rfl,⟨vi,vf,rfl,h1,h2⟩,rfl⟩;exact(JW vi vf d w ⟨h1,h2,h.di,h.df,h.li,h.lf,h.sp⟩).mono (by rintro e w' ⟨sl,rfl,ho,hb⟩;exact⟨_,rfl,⟨aC.of_own ho,eH ho (aD1 _)⟩,hb⟩)
 refine(h'.2 w (bG _ _ _) [mT vi vf d] ⟨_,_,rfl,hA.inn h.ii h.jf (fun _ _ _=>trivial) (fun _ _ _=>trivial),rfl⟩).mono ?_
 rintro e w' ⟨x,rfl,hx,hb⟩
 have e1:=(NP.atm (B:=bU w L) (v:= .int .i64 (ints (aJ d)).toArray.size) rfl).out hx
 exact⟨by rw[e1];simp[aQ],hb⟩
end
section
open Go.RowKit Go.Sym Go.Proofs.Tryz
variable {w W:World}{vi vf x:Value}{d:Dr}{G:Nat->Prop}
def oQ (vi vf:Value)(d:Dr)(c:Nat):Value:= .agg #[.bool d.neg,vi,.bool d.sep,vf,.int .i64 c,.int .i64 c]
structure sV (w:World) (vi vf:Value) (d:Dr) (c:Nat):Prop where
 ok:qF w vi vf d
 le:c<=(aJ d).length
 ng:d.neg=false
theorem sV.mk2 {w':World}{va vb:Value}{c:Nat}(h:sV w vi vf d c)(h1:aC w' va d.int)(h2:aC w' vb d.frac):sV w' va vb d c:=
 ⟨⟨h1,h2,h.ok.di,h.ok.df,h.ok.li,h.ok.lf,h.ok.sp⟩,h.le,h.ng⟩
def sW (p:eG)(k:Nat)(q:eG)(j:Nat)(c:eG):eG:= .agg [p,.ls k,q,.ls j,c,c]
section
variable {B:aE}{p q cp:eG}{k j:Nat}{d:Dr}{c:Nat}
theorem adO (h:dQ B p k q j d)(hc:NP B cp (.int .i64 c))(hx:fG B G w (sW p k q j cp) x):∃vi vf,x=oQ vi vf d c/\fG B G w (.ls k) vi/\fG B G w (.ls j) vf:=by
 obtain⟨ys,rfl,y0,_,rfl,a0,y1,_,rfl,a1,y2,_,rfl,a2,y3,_,rfl,a3,y4,_,rfl,a4,y5,_,rfl,a5,rfl⟩:=hx;rw[h.n.out a0,h.s.out a2,hc.out a4,hc.out a5];exact⟨y1,y3,rfl,a1,a3⟩
theorem adP (h:dQ B p k q j d)(hc:NP B cp (.int .i64 c))(h1:fG B G w (.ls k) vi)(h2:fG B G w (.ls j) vf):fG B G w (sW p k q j cp) (oQ vi vf d c):=
 ⟨_,rfl,_,_,rfl,h.n.inn rfl,_,_,rfl,h1,_,_,rfl,h.s.inn rfl,_,_,rfl,h2,_,_,rfl,hc.inn rfl,_,_,rfl,hc.inn rfl,rfl⟩
theorem iR (h:dQ B p k q j d)(hc:NP B cp (.int .i64 c)):qC B (sW p k q j cp):=⟨h.n.wf,jM h.l,h.s.wf,jM h.r,hc.wf,hc.wf,trivial⟩
def NS (h:dQ B p k q j d)(hc:NP B cp (.int .i64 c)):Arg B:=⟨sW p k q j cp,fun w x=>∃vi vf,x=oQ vi vf d c/\aC w vi d.int/\aC w vf d.frac,iR h hc,fun _ _ _ hx=>by
 obtain⟨vi,vf,e,h1,h2⟩:=adO h hc hx;exact⟨vi,vf,e,kL h.l h1,kL h.r h2⟩⟩
def stR (h:dQ B p k q j d)(hc:NP B cp (.int .i64 c)):Ans B:=⟨.tup [sW p k q j cp,.val (.int .i64 0)],fun N w x=>∃vi vf,x=.tuple #[oQ vi vf d c,.int .i64 0]/\aC w vi d.int/\aC w vf d.frac/\cW N vi d.int/\cW N vf d.frac,⟨iR h hc,trivial,trivial⟩,fun N w x hx=>by
 obtain⟨vi,vf,e,h1,h2,f1,f2⟩:=hx;rw[e];exact⟨_,rfl,_,_,rfl,adP h hc (kM h.l h1 f1) (kM h.r h2 f2),_,_,rfl,rfl,rfl⟩⟩
theorem oR {w:World}(h:dQ B p k q j d)(hc:NP B cp (.int .i64 c))(hs:sV W vi vf d c):fG B (fun _=>True) W (sW p k q j cp) (oQ vi vf d c):=
 adP h hc (kM h.l hs.ok.ii (fun _ _ _=>trivial)) (kM h.r hs.ok.jf (fun _ _ _=>trivial))
theorem AY {N:Nat}(h:dQ B p k q j d)(hc:NP B cp (.int .i64 c))(hx:fG B (fun g=>N<=g) W (.tup [sW p k q j cp,.val (.int .i64 0)]) x):
  ∃vi vf,x=.tuple #[oQ vi vf d c,.int .i64 0]/\aC W vi d.int/\aC W vf d.frac/\cW N vi d.int/\cW N vf d.frac:=by
 obtain⟨ys,rfl,y,_,rfl,h1,z,_,rfl,h2,rfl⟩:=hx
 obtain⟨vi,vf,rfl,a1,a2⟩:=adO h hc h1
 exact⟨vi,vf,by rw[show z=.int .i64 0 from h2],kL h.l a1,kL h.r a2,MD h.l a1,MD h.r a2⟩
end
theorem fQ {B:aE}{k:Nat}(hk:k<1023)(hn:d.neg=false)(h2:B.A (8*k+4)=some (.bool d.sep))(h3:B.A (gid k)=some (.agg (ints d.int).toArray))(h4:B.A (gid (k+1))=some (.agg (ints d.frac).toArray)):
 dQ B (.val (.bool false)) k (.at_ (8*k+4)) (k+1) d:=⟨⟨by omega,h3⟩,⟨by omega,h4⟩,by rw[hn];exact .val _,.atm h2⟩
theorem sH (vi vf:Value)(d:Dr)(c:Nat)(w:World)(h:sV w vi vf d c):
  Calls prog 245 #[oQ vi vf d c] w fun e w'=>e=.returned (.bool true)/\Below w.heap.size w w':=by
 have hl:=h.le
 let L:=sF 4 d++[(200,Value.int .i64 (aJ d).length),(204,Value.int .i64 c)]
 have hA:dQ (bU w L) (.val (.bool false)) 4 (.at_ 36) 5 d:=fQ (k:=4) (by decide) h.ng rfl rfl rfl
 have hC:NP (bU w L) (.at_ 204) (.int .i64 c):= .atm rfl
 have h':aK (bU w L) prog ⟨245,[sW (.val (.bool false)) 4 (.at_ 36) 5 (.at_ 204)],.val (.bool true)⟩:=by
  refine run_mk (by kernel_rfl) rfl (T:=mR [⟨.geq,.atom 204,.lit (.int .i64 0),.lit (.bool true)⟩,⟨.leq,.atom 204,.atom 200,.lit (.bool true)⟩] [] [] []) (bD (aD ?_ (aD ?_ aH)) aH aH aH)
   (orc:=bT [⟨279,[pG (.val (.bool false)) 4 (.at_ 36) 5],.val (.bool true)⟩,⟨309,[pG (.val (.bool false)) 4 (.at_ 36) 5],.at_ 200⟩]) (bB ?_) ⟨iR hA hC,trivial⟩ trivial (by kernel_rfl)
  ·exact eT (x:=(c:Int)) (y:=0) rfl rfl rfl (EN (by simp))
  ·exact eT (x:=(c:Int)) (y:=((aJ d).length:Int)) rfl rfl rfl (tO (by simpa using hl))
  ·refine aD (aU [ME hA] (yO (.val (.bool true)) rfl) ?_) (aD (aU [ME hA] (yO (.atm (v:= .int .i64 (aJ d).length) rfl) rfl) ?_) aH)
   ·rintro w _ ⟨_,_,rfl,⟨vi,vf,rfl,h1,h2⟩,rfl⟩;exact(AO vi vf d w (h.mk2 h1 h2).ok).mono (by rintro e w' ⟨rfl,hb⟩;exact⟨_,rfl,rfl,hb⟩)
   ·rintro w _ ⟨_,_,rfl,⟨vi,vf,rfl,h1,h2⟩,rfl⟩;exact(FB vi vf d w (h.mk2 h1 h2).ok).mono (by rintro e w' ⟨rfl,hb⟩;exact⟨_,rfl,rfl,hb⟩)
 refine(h'.2 w (bG _ _ _) [oQ vi vf d c] ⟨_,_,rfl,oR (w:=w) hA hC h,rfl⟩).mono ?_
 rintro e w' ⟨x,rfl,hx,hb⟩
 exact⟨by rw[show x=.bool true from hx],hb⟩
theorem pU (vi vf:Value)(d:Dr)(c:Nat)(w:World)(h:sV w vi vf d c):
  Calls prog 205 #[oQ vi vf d c] w fun e w'=>e=.returned (.tuple #[.int .i64 c,.int .i64 c])/\Below w.heap.size w w':=by
 let L:=sF 4 d++[(204,Value.int .i64 c)]
 have hA:dQ (bU w L) (.val (.bool false)) 4 (.at_ 36) 5 d:=fQ (k:=4) (by decide) h.ng rfl rfl rfl
 have hC:NP (bU w L) (.at_ 204) (.int .i64 c):= .atm rfl
 have h':aK (bU w L) prog ⟨205,[sW (.val (.bool false)) 4 (.at_ 36) 5 (.at_ 204)],.tup [.at_ 204,.at_ 204]⟩:=by
  refine run_mk (by kernel_rfl) rfl (T:=tbM (mR [] [] [⟨.atom 204,.atom 204,.atom 204⟩] []) [⟨.atom 204,.atom 204,.atom 204⟩]) (EM (bD aH aH (aD ⟨c,c,rfl,rfl,by simp;rfl⟩ aH) aH) (aD ⟨c,c,rfl,rfl,by simp;rfl⟩ aH))
   (orc:=bT [⟨245,[sW (.val (.bool false)) 4 (.at_ 36) 5 (.at_ 204)],.val (.bool true)⟩]) (bB ?_) ⟨iR hA hC,trivial⟩ ⟨⟨_,rfl⟩,⟨_,rfl⟩,trivial⟩ (by kernel_rfl)
  refine aD (aU [NS hA hC] (yO (.val (.bool true)) rfl) ?_) aH;rintro w _ ⟨_,_,rfl,⟨vi,vf,rfl,h1,h2⟩,rfl⟩;exact(sH vi vf d c w (h.mk2 h1 h2)).mono (by rintro e w' ⟨rfl,hb⟩;exact⟨_,rfl,rfl,hb⟩)
 refine(h'.2 w (bG _ _ _) [oQ vi vf d c] ⟨_,_,rfl,oR (w:=w) hA hC h,rfl⟩).mono ?_
 rintro e w' ⟨x,rfl,⟨ys,rfl,y,_,rfl,a1,z,_,rfl,a2,rfl⟩,hb⟩
 rw[hC.out a1,hC.out a2]
 exact⟨rfl,hb⟩
def fZ (d:Dr)(m k:Nat):Bool:=decide (d.int.length<=m)&&decide (d.frac.length<=k)
theorem xD (vi vf:Value)(d:Dr)(m k:Nat)(w:World)(h1:aC w vi d.int)(h2:aC w vf d.frac):
  Calls prog 246 #[mT vi vf d,.int .i64 m,.int .i64 k] w fun e w'=>e=.returned (.bool (fZ d m k))/\Below w.heap.size w w':=by
 unfold fZ
 obtain⟨b1,ha⟩:∃b,decide (d.int.length<=m)=b:=⟨_,rfl⟩
 obtain⟨b2,hc⟩:∃b,decide (d.frac.length<=k)=b:=⟨_,rfl⟩
 rw[ha,hc]
 let L:=sF 4 d++[(200,Value.int .i64 (ints d.int).toArray.size),(204,Value.int .i64 (ints d.frac).toArray.size),(208,Value.int .i64 m),(212,Value.int .i64 k)]
 have hA:dQ (bU w L) (.at_ 32) 4 (.at_ 36) 5 d:=VU (k:=4) (by decide) rfl rfl rfl rfl
 have h':aK (bU w L) prog ⟨246,[pG (.at_ 32) 4 (.at_ 36) 5,.at_ 208,.at_ 212],.val (.bool (b1&&b2))⟩:=by
  refine run_mk (by kernel_rfl) rfl (T:=mR [⟨.leq,.atom 200,.atom 208,.lit (.bool b1)⟩,⟨.leq,.atom 204,.atom 212,.lit (.bool b2)⟩] [] [] [⟨4,.atom 200⟩,⟨5,.atom 204⟩]) (bD ?_ aH aH (aD ⟨_,rfl,rfl⟩ (aD ⟨_,rfl,rfl⟩ aH)))
   (orc:=bT []) (bB aH) ⟨hA.wf,⟨_,rfl⟩,⟨_,rfl⟩,trivial⟩ trivial (by cases b1<;>cases b2<;>kernel_rfl)
  exact aD (eT (x:=((ints d.int).toArray.size:Int)) (y:=m) rfl rfl rfl (tO (by rw[<-ha];simp[aQ]))) (aD (eT (x:=((ints d.frac).toArray.size:Int)) (y:=k) rfl rfl rfl (tO (by rw[<-hc];simp[aQ]))) aH)
 refine(h'.2 w (bG _ _ _) [mT vi vf d,.int .i64 m,.int .i64 k] ⟨_,_,rfl,hA.inn h1 h2 (fun _ _ _=>trivial) (fun _ _ _=>trivial),_,_,rfl,⟨rfl,rfl⟩,_,_,rfl,⟨rfl,rfl⟩,rfl⟩).mono ?_
 rintro e w' ⟨x,rfl,hx,hb⟩
 exact⟨by rw[show x=.bool (b1&&b2)from hx],hb⟩
end
section
open Go.RowKit Go.Sym Go.Proofs.Tryz
variable {B:aE}{G:Nat->Prop}{w:World}{x:Value}
def xE (ic fc:Nat)(sg:Bool):Value:= .agg #[.int .i64 ic,.int .i64 fc,.bool sg]
def xF:Value:= .agg #[.bool false,.slice none 0 0,.bool false,.slice none 0 0,.int .i64 0,.int .i64 0]
def BZ:eG:= .agg [.val (.bool false),.val (.slice none 0 0),.val (.bool false),.val (.slice none 0 0),.val (.int .i64 0),.val (.int .i64 0)]
theorem adQ (hx:fG B G w BZ x):x=xF:=by
 obtain⟨ys,rfl,y0,_,rfl,a0,y1,_,rfl,a1,y2,_,rfl,a2,y3,_,rfl,a3,y4,_,rfl,a4,y5,_,rfl,a5,rfl⟩:=hx;rw[show y0=_ from a0,show y1=_ from a1,show y2=_ from a2,show y3=_ from a3,show y4=_ from a4,show y5=_ from a5];rfl
theorem adR:fG B G w BZ xF:=⟨_,rfl,_,_,rfl,rfl,_,_,rfl,rfl,_,_,rfl,rfl,_,_,rfl,rfl,_,_,rfl,rfl,_,_,rfl,rfl,rfl⟩
theorem iH:qC B BZ:=⟨trivial,trivial,trivial,trivial,trivial,trivial,trivial⟩
def noR (e:Int):Ans B:=⟨.tup [BZ,.val (.int .i64 e)],fun _ _ x=>x=.tuple #[xF,.int .i64 e],⟨iH,trivial,trivial⟩,fun _ _ x hx=>by
 rw[hx];exact⟨_,rfl,_,_,rfl,adR,_,_,rfl,rfl,rfl⟩⟩
theorem tU {W:World}{e:Int}(hx:fG B G W (.tup [BZ,.val (.int .i64 e)]) x):x=.tuple #[xF,.int .i64 e]:=by
 obtain⟨ys,rfl,y,_,rfl,h1,z,_,rfl,h2,rfl⟩:=hx;rw[adQ h1,show z=.int .i64 e from h2]
def lX (d:Dr)(c:Nat)(al:List Int):List Int:=(aJ d).take c++al++(aJ d).drop c
def oS (N:Nat)(W:World)(d:Dr)(c ic fc:Nat)(al:List Int)(x:Value):Prop:=
 if fZ (aN false (lX d c al)) ic fc=true then ∃vi vf,x=.tuple #[oQ vi vf (aN false (lX d c al)) (c+al.length),.int .i64 0]/\aC W vi (aN false (lX d c al)).int/\aC W vf (aN false (lX d c al)).frac/\
     cW N vi (aN false (lX d c al)).int/\cW N vf (aN false (lX d c al)).frac
 else x=.tuple #[xF,.int .i64 4]
def oT (b:Bool):eG:=match b with
 |true=> .tup [sW (.val (.bool false)) 8 (.at_ 68) 9 (.at_ 224),.val (.int .i64 0)]
 |false=> .tup [BZ,.val (.int .i64 4)]
theorem fD (n:Bool)(l:List Int):(aN n l).neg=n:=by unfold aN;split<;>rfl
theorem PF (vi vf va:Value)(d:Dr)(c ic fc:Nat)(sg:Bool)(al:List Int)(w:World)(h:sV w vi vf d c)(hv:aC w va al)(ha:At al)(la:al.length<=100)(h1:oP (lX d c al)):
  Calls prog 481 #[oQ vi vf d c,xE ic fc sg,va] w fun e w'=>∃x,e=.returned x/\oS w.heap.size w' d c ic fc al x/\Below w.heap.size w w':=by
 unfold oS
 have hl:=dM d h.ok.li h.ok.lf
 have hle:=h.le
 obtain⟨D,hD⟩:∃D,aN false (lX d c al)=D:=⟨_,rfl⟩
 have hc:D.neg=false:=by rw[<-hD];exact fD _ _
 rw[hD]
 obtain⟨b,hb⟩:∃b,fZ D ic fc=b:=⟨_,rfl⟩
 rw[hb]
 let L:=sF 4 d++nD 6 al++sF 8 D++[(204,Value.int .i64 c),(208,Value.int .i64 ic),(212,Value.int .i64 fc),(216,Value.bool sg),(220,Value.int .i64 (ints al).toArray.size),(224,Value.int .i64 ((c+al.length:Nat):Int))]
 have hA:dQ (bU w L) (.val (.bool false)) 4 (.at_ 36) 5 d:=fQ (k:=4) (by decide) h.ng rfl rfl rfl
 have hE:dQ (bU w L) (.val (.bool false)) 8 (.at_ 68) 9 D:=fQ (k:=8) (by decide) hc rfl rfl rfl
 have hC:NP (bU w L) (.at_ 204) (.int .i64 c):= .atm rfl
 have hF:NP (bU w L) (.at_ 224) (.int .i64 ((c+al.length:Nat):Int)):= .atm rfl
 have h6:cG (bU w L) 6 al:=⟨by decide,rfl⟩
 have hd:qC (bU w L) (oT b):=by
  cases b
  ·exact⟨iH,trivial,trivial⟩
  ·exact⟨iR hE hF,trivial,trivial⟩
 have h':aK (bU w L) prog ⟨481,[sW (.val (.bool false)) 4 (.at_ 36) 5 (.at_ 204),.agg [.at_ 208,.at_ 212,.at_ 216],.ls 6],oT b⟩:=by
  refine run_mk (by kernel_rfl) rfl (T:=mR [⟨.add,.atom 204,.atom 220,.atom 224⟩] [] [] [⟨6,.atom 220⟩]) (bD (aD ?_ aH) aH aH (aD ⟨_,rfl,rfl⟩ aH))
   (orc:=bT [⟨245,[sW (.val (.bool false)) 4 (.at_ 36) 5 (.at_ 204)],.val (.bool true)⟩,⟨205,[sW (.val (.bool false)) 4 (.at_ 36) 5 (.at_ 204)],.tup [.at_ 204,.at_ 204]⟩,
     ⟨486,[pG (.val (.bool false)) 4 (.at_ 36) 5,.at_ 204,.at_ 204,.ls 6],.tup [pG (.val (.bool false)) 8 (.at_ 68) 9,.val (.int .i64 0)]⟩,⟨246,[pG (.val (.bool false)) 8 (.at_ 68) 9,.at_ 208,.at_ 212],.val (.bool b)⟩]) (bB ?_)
   ⟨iR hA hC,⟨⟨_,rfl⟩,⟨_,rfl⟩,⟨_,rfl⟩,trivial⟩,jM h6,trivial⟩ hd (by cases b<;>kernel_rfl)
  ·exact eT (x:=(c:Int)) (y:=((ints al).toArray.size:Int)) rfl rfl rfl (OQ (by simp[aQ];rw[aR _ (by omega) (by omega)]))
  ·refine aD (aU [NS hA hC] (yO (.val (.bool true)) rfl) ?_) (aD (aU [NS hA hC] ⟨.tup [.at_ 204,.at_ 204],fun _ _ x=>x=.tuple #[.int .i64 c,.int .i64 c],⟨⟨_,rfl⟩,⟨_,rfl⟩,trivial⟩,fun _ _ x hx=>by rw[hx];exact⟨_,rfl,_,_,rfl,hC.inn rfl,_,_,rfl,hC.inn rfl,rfl⟩⟩ ?_)
    (aD (aU [ME hA,rP hC,rP hC,DA h6] (TJ hE) ?_) (aD (aU [ME hE,rP (.atm (v:= .int .i64 ic) rfl),rP (.atm (v:= .int .i64 fc) rfl)] (yO (.val (.bool b)) rfl) ?_) aH)))
   ·rintro w _ ⟨_,_,rfl,⟨vi,vf,rfl,h1,h2⟩,rfl⟩;exact(sH vi vf d c w (h.mk2 h1 h2)).mono (by rintro e w' ⟨rfl,hb⟩;exact⟨_,rfl,rfl,hb⟩)
   ·rintro w _ ⟨_,_,rfl,⟨vi,vf,rfl,h1,h2⟩,rfl⟩;exact(pU vi vf d c w (h.mk2 h1 h2)).mono (by rintro e w' ⟨rfl,hb⟩;exact⟨_,rfl,rfl,hb⟩)
   ·rintro w _ ⟨_,_,rfl,⟨vi,vf,rfl,k1,k2⟩,_,_,rfl,rfl,_,_,rfl,rfl,va,_,rfl,kv,rfl⟩;have:=FA vi vf va d c c al w (h.mk2 k1 k2).ok kv ha la (aD1 _) hle h1;rw[h.ng]at this;rw[show aN false ((aJ d).take c++al++(aJ d).drop c)=D from hD]at this;exact this.mono (by rintro e w' ⟨vi,vf,rfl,i1,i2,f1,f2,hb⟩;exact⟨_,rfl,⟨_,_,rfl,i1,i2,fun _=>f1,fun _=>f2⟩,hb⟩)
   ·rintro w _ ⟨_,_,rfl,⟨vi,vf,rfl,k1,k2⟩,_,_,rfl,rfl,_,_,rfl,rfl,rfl⟩;have:=xD vi vf D ic fc w k1 k2;rw[hb]at this;exact this.mono (by rintro e w' ⟨rfl,hb⟩;exact⟨_,rfl,rfl,hb⟩)
 refine(h'.2 w (bG _ _ _) [oQ vi vf d c,xE ic fc sg,va] ⟨_,_,rfl,oR (w:=w) hA hC h,_,_,rfl,⟨_,rfl,_,_,rfl,⟨rfl,rfl⟩,_,_,rfl,⟨rfl,rfl⟩,_,_,rfl,⟨rfl,rfl⟩,rfl⟩,_,_,rfl,kM h6 hv (fun _ _ _=>trivial),rfl⟩).mono ?_
 rintro e w' ⟨x,rfl,hx,hf⟩
 refine⟨x,rfl,?_,hf⟩
 cases b
 ·rw[aD4 (by decide)];exact tU hx
 ·rw[aD6 rfl];exact AY hE hF hx
def PH (va:Value):Value:= .agg #[.bool false,va]
end
section
open Go.RowKit Go.Sym Go.Proofs.Tryz
theorem PI (vi vf va:Value)(d:Dr)(c ic fc:Nat)(sg:Bool)(al:List Int)(w:World)(h:sV w vi vf d c)(hv:aC w va al)(ha:At al)(la:al.length<=100)(h1:oP (lX d c al)):
  Calls prog 477 #[oQ vi vf d c,xE ic fc sg,PH va] w fun e w'=>∃x,e=.returned x/\oS w.heap.size w' d c ic fc al x/\Below w.heap.size w w':=by
 have hc:=fun vi vf va w (h:sV w vi vf d c) (hv:aC w va al)=>PF vi vf va d c ic fc sg al w h hv ha la h1
 unfold oS at hc⊢
 obtain⟨D,hD⟩:∃D,aN false (lX d c al)=D:=⟨_,rfl⟩
 have hg:D.neg=false:=by rw[<-hD];exact fD _ _
 rw[hD]at hc⊢
 obtain⟨b,hb⟩:∃b,fZ D ic fc=b:=⟨_,rfl⟩
 rw[hb]at hc⊢
 obtain⟨b1,hh⟩:∃b,decide ((0:Int)<((aJ d).length:Int))=b:=⟨_,rfl⟩
 obtain⟨b2,hi⟩:∃b,((c:Int) ==0)=b:=⟨_,rfl⟩
 obtain⟨b3,hj⟩:∃b,((c:Int) ==((aJ d).length:Int))=b:=⟨_,rfl⟩
 let L:=sF 4 d++nD 6 al++sF 8 D++[(200,Value.int .i64 (aJ d).length),(204,Value.int .i64 c),(208,Value.int .i64 ic),(212,Value.int .i64 fc),(216,Value.bool sg),(224,Value.int .i64 ((c+al.length:Nat):Int))]
 have hA:dQ (bU w L) (.val (.bool false)) 4 (.at_ 36) 5 d:=fQ (k:=4) (by decide) h.ng rfl rfl rfl
 have hE:dQ (bU w L) (.val (.bool false)) 8 (.at_ 68) 9 D:=fQ (k:=8) (by decide) hg rfl rfl rfl
 have hC:NP (bU w L) (.at_ 204) (.int .i64 c):= .atm rfl
 have hF:NP (bU w L) (.at_ 224) (.int .i64 ((c+al.length:Nat):Int)):= .atm rfl
 have h6:cG (bU w L) 6 al:=⟨by decide,rfl⟩
 have hd:qC (bU w L) (oT b):=by
  cases b
  ·exact⟨iH,trivial,trivial⟩
  ·exact⟨iR hE hF,trivial,trivial⟩
 have hf:∀(w:World) (x:Value),fG (bU w L) (fun _=>True) w (.agg [.at_ 208,.at_ 212,.at_ 216]) x->True:=fun _ _ _=>trivial
 have h':aK (bU w L) prog ⟨477,[sW (.val (.bool false)) 4 (.at_ 36) 5 (.at_ 204),.agg [.at_ 208,.at_ 212,.at_ 216],.agg [.val (.bool false),.ls 6]],oT b⟩:=by
  refine run_mk (by kernel_rfl) rfl (T:=mR [⟨.gtr,.atom 200,.lit (.int .i64 0),.lit (.bool b1)⟩,⟨.eql,.atom 204,.lit (.int .i64 0),.lit (.bool b2)⟩,⟨.eql,.atom 204,.atom 200,.lit (.bool b3)⟩] [] [] []) (bD (aD ?_ (aD ?_ (aD ?_ aH))) aH aH aH)
   (orc:=bT [⟨481,[sW (.val (.bool false)) 4 (.at_ 36) 5 (.at_ 204),.agg [.at_ 208,.at_ 212,.at_ 216],.ls 6],oT b⟩,⟨205,[sW (.val (.bool false)) 4 (.at_ 36) 5 (.at_ 204)],.tup [.at_ 204,.at_ 204]⟩,
     ⟨309,[pG (.val (.bool false)) 4 (.at_ 36) 5],.at_ 200⟩]) (bB ?_)
   ⟨iR hA hC,⟨⟨_,rfl⟩,⟨_,rfl⟩,⟨_,rfl⟩,trivial⟩,⟨trivial,jM h6,trivial⟩,trivial⟩ hd (by cases b<;>cases b1<;>cases b2<;>cases b3<;>kernel_rfl)
  ·exact eT (x:=((aJ d).length:Int)) (y:=0) rfl rfl rfl (fP hh)
  ·exact eT (x:=(c:Int)) (y:=0) rfl rfl rfl (lA hi)
  ·exact eT (x:=(c:Int)) (y:=((aJ d).length:Int)) rfl rfl rfl (lA hj)
  ·refine aD (aU [NS hA hC,⟨.agg [.at_ 208,.at_ 212,.at_ 216],fun _ x=>x=xE ic fc sg,⟨⟨_,rfl⟩,⟨_,rfl⟩,⟨_,rfl⟩,trivial⟩,fun _ _ x hx=>by
     obtain⟨ys,rfl,y0,_,rfl,a0,y1,_,rfl,a1,y2,_,rfl,a2,rfl⟩:=hx;rw[(NP.atm (B:=bU w L) (v:= .int .i64 ic) rfl).out a0,(NP.atm (B:=bU w L) (v:= .int .i64 fc) rfl).out a1,(NP.atm (B:=bU w L) (v:= .bool sg) rfl).out a2];rfl⟩,DA h6] ⟨oT b,fun N w x=>if b=true then ∃vi vf,x=.tuple #[oQ vi vf D (c+al.length),.int .i64 0]/\aC w vi D.int/\aC w vf D.frac/\cW N vi D.int/\cW N vf D.frac else x=.tuple #[xF,.int .i64 4],hd,fun N w x hx=>by
     cases b
     ·exact(noR (B:=bU w L) 4).inn N w x hx
     ·exact(stR hE hF).inn N w x hx⟩ ?_) (aD (aU [NS hA hC] ⟨.tup [.at_ 204,.at_ 204],fun _ _ x=>x=.tuple #[.int .i64 c,.int .i64 c],⟨⟨_,rfl⟩,⟨_,rfl⟩,trivial⟩,fun _ _ x hx=>by rw[hx];exact⟨_,rfl,_,_,rfl,hC.inn rfl,_,_,rfl,hC.inn rfl,rfl⟩⟩ ?_)
    (aD (aU [ME hA] (yO (.atm (v:= .int .i64 (aJ d).length) rfl) rfl) ?_) aH))
   ·rintro w _ ⟨_,_,rfl,⟨vi,vf,rfl,k1,k2⟩,_,_,rfl,rfl,va,_,rfl,kv,rfl⟩;exact hc vi vf va w (h.mk2 k1 k2) kv
   ·rintro w _ ⟨_,_,rfl,⟨vi,vf,rfl,h1,h2⟩,rfl⟩;exact(pU vi vf d c w (h.mk2 h1 h2)).mono (by rintro e w' ⟨rfl,hb⟩;exact⟨_,rfl,rfl,hb⟩)
   ·rintro w _ ⟨_,_,rfl,⟨vi,vf,rfl,h1,h2⟩,rfl⟩;exact(FB vi vf d w (h.mk2 h1 h2).ok).mono (by rintro e w' ⟨rfl,hb⟩;exact⟨_,rfl,rfl,hb⟩)
 refine(h'.2 w (bG _ _ _) [oQ vi vf d c,xE ic fc sg,PH va] ⟨_,_,rfl,oR (w:=w) hA hC h,_,_,rfl,⟨_,rfl,_,_,rfl,⟨rfl,rfl⟩,_,_,rfl,⟨rfl,rfl⟩,_,_,rfl,⟨rfl,rfl⟩,rfl⟩,_,_,rfl,⟨_,rfl,_,_,rfl,rfl,_,_,rfl,kM h6 hv (fun _ _ _=>trivial),rfl⟩,rfl⟩).mono ?_
 rintro e w' ⟨x,rfl,hx,hk⟩
 refine⟨x,rfl,?_,hk⟩
 cases b
 ·rw[aD4 (by decide)];exact tU hx
 ·rw[aD6 rfl];exact AY hE hF hx
end
section
open Go.RowKit Go.Sym Go.Proofs.Tryz
def pH (d:Dr)(c:Nat):List Int:=(aJ d).take (c-1)++[]++(aJ d).drop c
def AZ (N:Nat)(W:World)(d:Dr)(c ic fc:Nat)(x:Value):Prop:=
 if c=0 then x=.tuple #[xF,.int .i64 7]
 else if fZ (aN false (pH d c)) ic fc=true then ∃vi vf,x=.tuple #[oQ vi vf (aN false (pH d c)) (c-1),.int .i64 0]/\aC W vi (aN false (pH d c)).int/\aC W vf (aN false (pH d c)).frac/\
  cW N vi (aN false (pH d c)).int/\cW N vf (aN false (pH d c)).frac
 else x=.tuple #[xF,.int .i64 4]
def FC (z b:Bool):eG:=match z,b with
 |true,_=> .tup [BZ,.val (.int .i64 7)]
 |false,true=> .tup [sW (.val (.bool false)) 8 (.at_ 68) 9 (.at_ 232),.val (.int .i64 0)]
 |false,false=> .tup [BZ,.val (.int .i64 4)]
theorem TM (vi vf:Value)(d:Dr)(c ic fc:Nat)(sg:Bool)(w:World)(h:sV w vi vf d c)(h1:oP (pH d c)):
  Calls prog 502 #[oQ vi vf d c,xE ic fc sg,.int .i64 0] w fun e w'=>∃x,e=.returned x/\AZ w.heap.size w' d c ic fc x/\Below w.heap.size w w':=by
 unfold AZ
 have hl:=dM d h.ok.li h.ok.lf
 have hle:=h.le
 obtain⟨D,hD⟩:∃D,aN false (pH d c)=D:=⟨_,rfl⟩
 have ha:D.neg=false:=by rw[<-hD];exact fD _ _
 rw[hD]
 obtain⟨b,hb⟩:∃b,fZ D ic fc=b:=⟨_,rfl⟩
 rw[hb]
 obtain⟨z,hz⟩:∃z,decide (c=0)=z:=⟨_,rfl⟩
 let L:=sF 4 d++sF 8 D++[(204,Value.int .i64 c),(208,Value.int .i64 ic),(212,Value.int .i64 fc),(216,Value.bool sg),(228,Value.int .i64 ((c:Int)-1)),(232,Value.int .i64 ((c-1:Nat):Int))]
 have hA:dQ (bU w L) (.val (.bool false)) 4 (.at_ 36) 5 d:=fQ (k:=4) (by decide) h.ng rfl rfl rfl
 have hE:dQ (bU w L) (.val (.bool false)) 8 (.at_ 68) 9 D:=fQ (k:=8) (by decide) ha rfl rfl rfl
 have hC:NP (bU w L) (.at_ 204) (.int .i64 c):= .atm rfl
 have hF:NP (bU w L) (.at_ 232) (.int .i64 ((c-1:Nat):Int)):= .atm rfl
 have hc:qC (bU w L) (FC z b):=by
  cases z
  ·cases b
   ·exact⟨iH,trivial,trivial⟩
   ·exact⟨iR hE hF,trivial,trivial⟩
  ·exact⟨iH,trivial,trivial⟩
 have h':aK (bU w L) prog ⟨502,[sW (.val (.bool false)) 4 (.at_ 36) 5 (.at_ 204),.agg [.at_ 208,.at_ 212,.at_ 216],.val (.int .i64 0)],FC z b⟩:=by
  refine run_mk (by kernel_rfl) rfl (T:=tbM (mR [⟨.eql,.atom 204,.atom 204,.lit (.bool true)⟩,⟨.sub,.atom 204,.lit (.int .i64 1),.atom 228⟩,⟨.eql,.atom 232,.atom 204,.lit (.bool z)⟩] [] [⟨.atom 228,.lit (.int .i64 0),.atom 232⟩,⟨.atom 232,.atom 204,.atom 204⟩] []) [⟨.atom 232,.atom 204,.atom 232⟩])
   (EM (bD (aD ?_ (aD ?_ (aD ?_ aH))) aH (aD ⟨(c:Int)-1,0,rfl,rfl,?_⟩ (aD ⟨((c-1:Nat):Int),(c:Int),rfl,rfl,?_⟩ aH)) aH) (aD ⟨((c-1:Nat):Int),(c:Int),rfl,rfl,?_⟩ aH))
   (orc:=bT [⟨245,[sW (.val (.bool false)) 4 (.at_ 36) 5 (.at_ 204)],.val (.bool true)⟩,⟨205,[sW (.val (.bool false)) 4 (.at_ 36) 5 (.at_ 204)],.tup [.at_ 204,.at_ 204]⟩,
     ⟨486,[pG (.val (.bool false)) 4 (.at_ 36) 5,.at_ 232,.at_ 204,.val (.slice none 0 0)],.tup [pG (.val (.bool false)) 8 (.at_ 68) 9,.val (.int .i64 0)]⟩,⟨246,[pG (.val (.bool false)) 8 (.at_ 68) 9,.at_ 208,.at_ 212],.val (.bool b)⟩]) (bB ?_)
   ⟨iR hA hC,⟨⟨_,rfl⟩,⟨_,rfl⟩,⟨_,rfl⟩,trivial⟩,trivial,trivial⟩ hc (by cases z<;>cases b<;>kernel_rfl)
  ·exact eT (x:=(c:Int)) (y:=(c:Int)) rfl rfl rfl (lA (by simp))
  ·exact eT (x:=(c:Int)) (y:=1) rfl rfl rfl (fO (by rw[aR _ (by omega) (by omega)]))
  ·exact eT (x:=((c-1:Nat):Int)) (y:=(c:Int)) rfl rfl rfl (lA (by
    rw[<-hz];by_cases h0:c=0
    ·subst h0;rfl
    ·rw[aEC h0];simp only[aFS,ne_eq];omega))
  ·show some (Value.int .i64 ((c-1:Nat):Int))=some (.int .i64 (max ((c:Int)-1) 0));congr 2;omega
  ·show some (Value.int .i64 (c:Int))=some (.int .i64 (max ((c-1:Nat):Int) (c:Int)));congr 2;omega
  ·show some (Value.int .i64 ((c-1:Nat):Int))=some (.int .i64 (min ((c-1:Nat):Int) (c:Int)));congr 2;omega
  ·refine aD (aU [NS hA hC] (yO (.val (.bool true)) rfl) ?_) (aD (aU [NS hA hC] ⟨.tup [.at_ 204,.at_ 204],fun _ _ x=>x=.tuple #[.int .i64 c,.int .i64 c],⟨⟨_,rfl⟩,⟨_,rfl⟩,trivial⟩,fun _ _ x hx=>by rw[hx];exact⟨_,rfl,_,_,rfl,hC.inn rfl,_,_,rfl,hC.inn rfl,rfl⟩⟩ ?_)
    (aD (aU [ME hA,rP hF,rP hC,rP (.val (.slice none 0 0))] (TJ hE) ?_) (aD (aU [ME hE,rP (.atm (v:= .int .i64 ic) rfl),rP (.atm (v:= .int .i64 fc) rfl)] (yO (.val (.bool b)) rfl) ?_) aH)))
   ·rintro w _ ⟨_,_,rfl,⟨vi,vf,rfl,h1,h2⟩,rfl⟩;exact(sH vi vf d c w (h.mk2 h1 h2)).mono (by rintro e w' ⟨rfl,hb⟩;exact⟨_,rfl,rfl,hb⟩)
   ·rintro w _ ⟨_,_,rfl,⟨vi,vf,rfl,h1,h2⟩,rfl⟩;exact(pU vi vf d c w (h.mk2 h1 h2)).mono (by rintro e w' ⟨rfl,hb⟩;exact⟨_,rfl,rfl,hb⟩)
   ·rintro w _ ⟨_,_,rfl,⟨vi,vf,rfl,k1,k2⟩,_,_,rfl,rfl,_,_,rfl,rfl,_,_,rfl,rfl,rfl⟩;have:=FA vi vf (.slice none 0 0) d (c-1) c [] w (h.mk2 k1 k2).ok (aC.nil_ _ _ _ (by omega)) (fun x hx=>by cases hx) (by simp) (by omega) hle h1;rw[h.ng]at this;rw[show aN false ((aJ d).take (c-1)++[]++(aJ d).drop c)=D from hD]at this;exact this.mono (by rintro e w' ⟨vi,vf,rfl,i1,i2,f1,f2,hb⟩;exact⟨_,rfl,⟨_,_,rfl,i1,i2,fun _=>f1,fun _=>f2⟩,hb⟩)
   ·rintro w _ ⟨_,_,rfl,⟨vi,vf,rfl,k1,k2⟩,_,_,rfl,rfl,_,_,rfl,rfl,rfl⟩;have:=xD vi vf D ic fc w k1 k2;rw[hb]at this;exact this.mono (by rintro e w' ⟨rfl,hb⟩;exact⟨_,rfl,rfl,hb⟩)
 refine(h'.2 w (bG _ _ _) [oQ vi vf d c,xE ic fc sg,.int .i64 0] ⟨_,_,rfl,oR (w:=w) hA hC h,_,_,rfl,⟨_,rfl,_,_,rfl,⟨rfl,rfl⟩,_,_,rfl,⟨rfl,rfl⟩,_,_,rfl,⟨rfl,rfl⟩,rfl⟩,_,_,rfl,rfl,rfl⟩).mono ?_
 rintro e w' ⟨x,rfl,hx,hd⟩
 refine⟨x,rfl,?_,hd⟩
 cases z
 ·rw[aD4 (by simpa using hz)]
  cases b
  ·rw[aD4 (by decide)];exact tU hx
  ·rw[aD6 rfl];exact AY hE hF hx
 ·rw[aD6 (by simpa using hz)];exact tU hx
end
end Go.Proofs.YtoeiaflkdcbkdaaGreatDoor
section
namespace Go.Sym
open Go Go.RowKit
variable {P:Program}
theorem ao4 {B:aE}(hf:∀i x,B.A i=some x->i%2≠1){call:bM}(hd:cH B P call){f:FuncId}{ps:List eG}{a:List AV}{c:Nat}(ha:eW 0 ps=(a,c)){r0:AV}
  (h:(match call f a {nc:=c}with
    |some (r,_)=>jV r r0
    |none=>false)=true) (w:World) (hu:eN B w) (xs:List Value) (hh:kW B (fun _=>True) w ps xs):
  Calls P f xs.toArray w fun e w'=>∃x,e=.returned x/\(∃ρ:Env,Has B ρ/\aT ρ a=some xs/\aO ρ r0=some x)/\Below w.heap.size w w':=by
 obtain⟨ρ1,a1,a2⟩:=yH (w:=w) ps 0 xs (Env.base B) hh (fun _ _ h=>h) (fun n ho _=>by
  cases hv:(Env.base B).atom n with
  |none=>rfl
  |some v=>exact absurd ho (hf n v hv))
 rw[ha]at a1 a2
 simp only at a1 a2
 split at h
 case h_2=>cases h
 rename_i r m' hr
 have hc:∀b,({nc:=c}:M).H.get b=none:=fun b=>rfl
 have hm:bK ρ1 {nc:=c} w:=⟨fun i _=>by rw[a1.blk];rfl,fun i _=>by rw[a1.cap];rfl,(fun b k hb=>by rw[hc]at hb;cases hb),(fun b _ k _ _ _ hb=>by rw[hc]at hb;cases hb),by show 0<=1000000;omega⟩
 have hg:∀g,¬dD ρ1 {nc:=c} g:=by
  rintro g ⟨b,k,q,hb,_⟩;rw[hc]at hb;cases hb
 have hk:eM B ρ1 {nc:=c} w:=⟨hu.size,hu.old,(fun g hl=>absurd hl (hg g)),(fun i x hi=>a1.le.a hi),(fun n v hn ho=>by
  rcases a1.new n v hn with hx|⟨_,_,h3,gh,h4,h5⟩
  ·exact absurd ho (hf n v hx)
  ·exact⟨h3,gh,h4,h5.mono fun g _ _=>⟨rfl,hg g⟩⟩),hf⟩
 refine(hd f a _ r m' hr ρ1 w xs.toArray hm hk (by simpa using a2)).mono ?_
 rintro e w' ⟨ρ',x,rfl,hx,S⟩
 rw[eF h]at hx
 exact⟨x,rfl,⟨ρ',fun i y hi=>S.le.a (a1.le.a hi),dN S.le _ a2,hx⟩,S.os,S.tape,S.output,S.size,fun k hj=>S.keep k hj (hg k)⟩
theorem MF {B:aE}{ρ:Env}(hA:Has B ρ){i:Nat}{v:Value}(h:B.A i=some v)(h1:v.oneCell'=true):aO ρ (.atom i)=some v:=by
 unfold aO;rw[hA i v h];exact aD6 h1
theorem VV {ρ:Env}{l:List AV}{x:Value}(h:aO ρ (.agg l)=some x):∃ys,x=.agg ys.toArray/\aT ρ l=some ys:=by
 unfold aO at h;split at h
 ·rename_i ys hy;injection h with h;exact⟨ys,h.symm,hy⟩
 ·cases h
theorem ajO {ρ:Env}{l:List AV}{x:Value}(h:aO ρ (.tup l)=some x):∃ys,x=.tuple ys.toArray/\aT ρ l=some ys:=by
 unfold aO at h;split at h
 ·rename_i ys hy;injection h with h;exact⟨ys,h.symm,hy⟩
 ·cases h
theorem FD {ρ:Env}{x:List Value}(h:aT ρ []=some x):x=[]:=by
 rw[aT]at h;injection h with h;exact h.symm
theorem VW {ρ:Env}{v x:Value}(h:aO ρ (.lit v)=some x):x=v:=by
 rw[aO]at h;injection h with h;exact h.symm
end Go.Sym
namespace Go.Proofs.YtoeiaflkdcbkdaaGreatDoor
open Go.RowKit Go.Sym
theorem ajP {B:aE}{w:World}{l:List (Nat×Value)}(hc:VK l=true)(hB:B=bU w l){orc:bM}{T:Tb}(hT:kY Tryz.prog B T)(ho:cH B Tryz.prog orc){f:Nat}{ps:List eG}{a:List AV}{c:Nat}(ha:eW 0 ps=(a,c)){r0:AV}
  (hb:(match dR B T orc f a {nc:=c}with
    |some (x,_)=>jV x r0
    |none=>false)=true) (w:World) (hu:eN B w) (xs:List Value) (hd:kW B (fun _=>True) w ps xs):
  Calls Tryz.prog f xs.toArray w fun e w'=>∃x,e=.returned x/\(∃ρ:Env,Has B ρ/\aT ρ a=some xs/\aO ρ r0=some x)/\Below w.heap.size w w':=
 ao4 (by rw[hB];exact qY hc) (bY hT ho) ha hb w hu xs hd
end Go.Proofs.YtoeiaflkdcbkdaaGreatDoor
end
namespace Go.Proofs.YtoeiaflkdcbkdaaGreatDoor
open Go.RowKit Go.Sym Go.Proofs.Tryz
section
variable {G G':Nat->Prop}{w w':World}{v x:Value}{l:List Int}{rc:Rc}{ρ0:Env}{B:aE}{k s j c n:Nat}{vs:List Value}{d:Dr}
structure Eg where
 d:Dr
 c:Nat
 beh:Option (List (Dr×Nat))
 ah:Option Nat
 run:Int
def MI:List PC:=[.p (.val (.bool true)),.p (.ls 1),.p (.val (.int .i64 2)),.p (.val (.bool false)),.p (.ls 2),.p (.val (.int .i64 2)),.p (.val (.bool false)),.p (.ls 3),.p (.val (.int .i64 0)),.p (.val (.bool true)),
 .p (.val (.int .i64 6)),.p (.val (.int .i64 4)),.p (.val (.int .i64 2)),.p (.val (.int .i64 1)),.p (.val (.int .i64 2)),.p (.val (.int .i64 6)),.p (.val (.int .i64 20))]
def sX (k s j c:Nat):List PC:=[.p (.val (.bool false)),.p (.ls k),.p (.at_ s),.p (.ls j),.p (.at_ c),.p (.at_ c)]
def iI:List PC:=[.p (.at_ 4100),.p (.at_ 4104),.p (.at_ 4108),.p (.at_ 4112),.p (.at_ 4116),.p (.at_ 4120),.p (.at_ 4124),.p (.at_ 4128)]
def kS:List PC:=sX 4 36 5 204
def ZN (i:Nat):List PC:=sX (20+2*i) (6000+16*i) (21+2*i) (6004+16*i)++iI
def jZ (i:Nat):Nat->List PC
 |0=>[]
 |n+1=>ZN i++jZ (i+1) n
def dH (i:Nat):Nat->List PC
 |0=>[]
 |n+1=> .p (.at_ (8000+4*i))::dH (i+1) n
def sI:List PC:=iI++[.p (.at_ 4200),.p (.at_ 4204),.p (.at_ 4208),.p (.at_ 4212),.p (.at_ 4216),.p (.at_ 4220),.p (.at_ 4224),.p (.at_ 4228),.p (.at_ 4232),.p (.at_ 4236),.ptr 0]
def B4 (st:List PC):List PC:= .p (.ls 7)::(MI++st)
def ZO (nb:Option Nat)(na:Option Nat):List IB:=
 [⟨232,[.ptr 1,.ptr 2],true⟩,⟨278,B4 kS,true⟩,
  ⟨320,[.p (.val (.int .i64 20)),(match nb with|some n=> .row 4 n 14 0|none=> .p (.val (.slice none 0 0))),(match na with|some a=> .row (match nb with|some _=>5|none=>4) a 14 1|none=> .p (.val (.slice none 0 0))),.p (.at_ 4004)],true⟩,
  ⟨131,sI,true⟩]++
 ((match nb with|some n=>[⟨264,jZ 0 n,false⟩]|none=>[])++(match na with|some a=>[⟨264,dH 0 (14*a),false⟩]|none=>[]))
def rowAt (m:M)(i:Nat):Nat:=match m.H.get 2 with
 |some (.cells _ cs _)=>(match cs[i]? with|some (.slc b _ _ _ _)=>b|_=>98+i)
 |_=>98+i
def adU (rb ra:Nat)(nb na:Option Nat)(run:eG):List PC:=[.p (.val (.int .i64 20)),(match nb with|some n=> .row rb n 14 0|none=> .p (.val (.slice none 0 0))),(match na with|some a=> .row ra a 14 1|none=> .p (.val (.slice none 0 0))),.p run]
def adV (st:List PC)(behP:Option (Nat×List PC))(na:Option Nat)(run:eG)(m:M):Bool:=
 let rb:=rowAt m 1
 let ra:=rowAt m 2
 dE m 0 232 [.ptr 1,.ptr 2]&&(dE m 1 278 (B4 st)&&(dE m 3 131 sI&&
 (dE m 2 320 (adU rb ra (behP.map (·.1)) na run)&&
 ((match behP with|some l=>dE m rb 264 l.2&&Nat.ble 4 rb|none=>true)&&((match na with|some a=>dE m ra 264 (List.replicate (14*a) .any)&&Nat.ble 4 ra|none=>true)&&!Nat.beq rb ra)))))
def jJ (G:Nat->Prop)(w:World)(v:Value)(l:List Int):Prop:=aC w v l/\(0<l.length->∀g,v.ownBlock=some g->G g)
theorem jJ.mono (h:jJ G w v l)(hG:∀b,G b->b<w.heap.size->w'.heap[b]?=w.heap[b]?/\G' b):jJ G' w' v l:=by
 obtain⟨⟨A,c,rfl,h0,h1,h2⟩,h3⟩:=h
 have hb:0<l.length->∃b off,A=some ⟨b,off,none⟩/\b<w.heap.size/\G b/\∀j,j<l.length->w.cell? ⟨b,off+j,none⟩=some (.int .i64 (l.getD j 0)):=fun hp=>by
  obtain⟨b,off,rfl,hc⟩:=h2 hp;exact⟨b,off,rfl,aHQ w _ (hc 0 hp),h3 hp b (by simp[Value.ownBlock]),hc⟩
 refine⟨⟨A,c,rfl,h0,h1,fun hp=>?_⟩,fun hp g hg=>?_⟩
 ·obtain⟨b,off,rfl,ha,hd,hc⟩:=hb hp;exact⟨b,off,rfl,fun j hj=>(aHW (a:=⟨b,off+j,none⟩) (hG b hd ha).1).trans (hc j hj)⟩
 ·obtain⟨b,off,rfl,ha,hd,hc⟩:=hb hp;have:b=g:=by simpa [Value.ownBlock]using hg
  subst this;exact(hG b hd ha).2
theorem jJ.one (h:jJ G w v l):v.oneCell'=true:=by
 obtain⟨⟨A,c,rfl,_⟩,_⟩:=h;rfl
section
variable {B:aE}{G:Nat->Prop}{w:World}{k:Nat}
theorem TN (hL:cG B k l)(h:jJ G w x l):fG B G w (.ls k) x:=kM hL h.1 h.2
theorem yT (hL:cG B k l)(h:fG B G w (.ls k) x):jJ G w x l:=by
 refine⟨kL hL h,fun hl g hg=>?_⟩;obtain⟨_,_,gh,h1,h2⟩:=h;rw[hL.2]at h1;injection h1 with h1
 subst h1;obtain⟨g',e,hG⟩:=O8 (l:=l) h2 hl;rw[hg]at e;injection e with e
 subst e;exact hG
end
def pV (d:Dr)(c:Nat)(vi vf:Value):List Value:=[.bool false,vi,.bool d.sep,vf,.int .i64 c,.int .i64 c]
def IA (G:Nat->Prop)(w:World)(rc:Rc):List (Dr×Nat)->List Value->Prop
 |[],vs=>vs=[]
 |s::l,vs=>∃vi vf r,vs=(pV s.1 s.2 vi vf++rc.l)++r/\jJ G w vi s.1.int/\jJ G w vf s.1.frac/\IA G w rc l r
theorem IA.mono (hG:∀b,G b->b<w.heap.size->w'.heap[b]?=w.heap[b]?/\G' b):∀{l:List (Dr×Nat)} {vs:List Value},IA G w rc l vs->IA G' w' rc l vs
 |[],_,h=>h
 |s::l,_,h=>by
  obtain⟨vi,vf,r,e,h1,h2,h3⟩:=h;exact⟨vi,vf,r,e,h1.mono hG,h2.mono hG,IA.mono hG h3⟩
theorem IA.one:∀{l:List (Dr×Nat)} {vs:List Value},IA G w rc l vs->∀v∈vs,v.oneCell'=true
 |[],_,h,v,hv=>by have:_=[]:=h;subst this;cases hv
 |s::l,_,h,v,hv=>by
  obtain⟨vi,vf,r,e,h1,h2,h3⟩:=h;subst e;rcases aEQ.1 hv with hv|hv
  ·simp only[pV,Rc.l,aEQ,aER,aFF,aGX]at hv;rcases hv with(rfl|rfl|rfl|rfl|rfl|rfl)|(rfl|rfl|rfl|rfl|rfl|rfl|rfl|rfl)<;>first|rfl|exact h1.one|exact h2.one
  ·exact IA.one h3 v hv
theorem IA.append:∀{l k:List (Dr×Nat)} {vs us:List Value},IA G w rc l vs->IA G w rc k us->IA G w rc (l++k) (vs++us)
 |[],_,_,_,h,h'=>by have:_=[]:=h;subst this;exact h'
 |s::l,_,_,_,h,h'=>by
  obtain⟨vi,vf,r,e,h1,h2,h3⟩:=h;subst e;exact⟨vi,vf,_,aEF _ _ _,h1,h2,IA.append h3 h'⟩
theorem nY:∀(n i:Nat),(jZ i n).length=n*14
 |0,_=>rfl
 |n+1,i=>by simp[jZ,ZN,sX,iI,nY n (i+1)];omega
theorem gK:∀(n i:Nat),(dH i n).length=n
 |0,_=>rfl
 |n+1,i=>by simp[dH,gK n (i+1)]
theorem iS:∀{a b:List PC} {x y:List Value},lY ρ0 B G w a x->lY ρ0 B G w b y->lY ρ0 B G w (a++b) (x++y)
 |[],_,_,_,h,k=>by have:_=[]:=h;subst this;exact k
 |_::_,_,_,_,h,k=>by
  obtain⟨y,r,rfl,h1,h2⟩:=h;exact⟨y,_,rfl,h1,iS h2 k⟩
theorem kA:∀{a b:List PC} {x:List Value},gT ρ0 B G w (a++b) x->∃y z,x=y++z/\y.length=a.length/\gT ρ0 B G w a y/\gT ρ0 B G w b z
 |[],_,x,h=>⟨[],x,rfl,rfl,trivial,h⟩
 |_::_,_,_,h=>by
  obtain⟨y,r,rfl,h1,h2⟩:=h;obtain⟨y',z,rfl,h3,h4,h5⟩:=kA h2;exact⟨y::y',z,rfl,by simp[h3],⟨y,y',rfl,h1,h4⟩,h5⟩
structure sP (B:aE) (rc:Rc):Prop where
 t:B.A 4100=some (sB rc.nm)/\B.A 4104=some (sB rc.pat)/\B.A 4108=some (sB rc.sys)/\B.A 4112=some (sB rc.dec)/\B.A 4116=some (sB rc.grp)/\B.A 4120=some (sB rc.mns)/\B.A 4124=some (sB rc.pct)/\B.A 4128=some (sB rc.cur)
structure pJ (B:aE) (k s j c:Nat) (d:Dr) (n:Nat):Prop where
 l:cG B k d.int
 r:cG B j d.frac
 s:B.A s=some (.bool d.sep)
 c:B.A c=some (.int .i64 n)
section
variable {ρ0:Env}{B:aE}{G:Nat->Prop}{w:World}
theorem CA {i:Nat}(h:B.A i=some v)(h1:v.oneCell'=true):fG B G w (.at_ i) v:=⟨h,h1⟩
theorem bF {i:Nat}(h:B.A i=some v)(hx:fG B G w (.at_ i) x):x=v:=by
 have:=hx.1;rw[h]at this;injection this with this
 exact this.symm
theorem cX {i:Nat}(h:B.A i=some v)(h1:v.oneCell'=true):IsC ρ0 B G w (.p (.at_ i)) v:=⟨h,h1⟩
theorem CB (hL:cG B k l)(h:jJ G w x l):IsC ρ0 B G w (.p (.ls k)) x:=TN hL h
theorem cP (v:Value):IsC ρ0 B G w (.p (.val v)) v:=rfl
theorem dX {i:Nat}(h:B.A i=some v)(hx:PJ ρ0 B G w (.p (.at_ i)) x):x=v:=bF h (show fG B G w (.at_ i) x from hx)
theorem PK (hL:cG B k l)(h:PJ ρ0 B G w (.p (.ls k)) x):jJ G w x l:=yT hL h
theorem aV (h:PJ ρ0 B G w (.p (.val v)) x):x=v:=h
theorem MJ (h:sP B rc):lY ρ0 B G w iI rc.l:=by
 obtain⟨h0,h1,h2,h3,h4,h5,h6,h7⟩:=h.t;exact⟨_,_,rfl,cX h0 rfl,_,_,rfl,cX h1 rfl,_,_,rfl,cX h2 rfl,_,_,rfl,cX h3 rfl,_,_,rfl,cX h4 rfl,_,_,rfl,cX h5 rfl,_,_,rfl,cX h6 rfl,_,_,rfl,cX h7 rfl,rfl⟩
theorem DB (h:sP B rc)(hv:gT ρ0 B G w iI vs):∃r,vs=rc.l++r:=by
 obtain⟨h0,h1,h2,h3,h4,h5,h6,h7⟩:=h.t;obtain⟨y0,_,rfl,a0,y1,_,rfl,a1,y2,_,rfl,a2,y3,_,rfl,a3,y4,_,rfl,a4,y5,_,rfl,a5,y6,_,rfl,a6,y7,r,rfl,a7,_⟩:=hv;refine⟨r,?_⟩;rw[dX h0 a0,dX h1 a1,dX h2 a2,dX h3 a3,dX h4 a4,dX h5 a5,dX h6 a6,dX h7 a7];rfl
theorem adW (h:pJ B k s j c d n){vi vf:Value}(h1:jJ G w vi d.int)(h2:jJ G w vf d.frac):lY ρ0 B G w (sX k s j c) (pV d n vi vf):=
 ⟨_,_,rfl,cP _,_,_,rfl,CB h.l h1,_,_,rfl,cX h.s rfl,_,_,rfl,CB h.r h2,_,_,rfl,cX h.c rfl,_,_,rfl,cX h.c rfl,rfl⟩
theorem yU (h:pJ B k s j c d n)(hv:gT ρ0 B G w (sX k s j c) vs):∃vi vf r,vs=pV d n vi vf++r/\jJ G w vi d.int/\jJ G w vf d.frac:=by
 obtain⟨y0,_,rfl,a0,y1,_,rfl,a1,y2,_,rfl,a2,y3,_,rfl,a3,y4,_,rfl,a4,y5,r,rfl,a5,_⟩:=hv;refine⟨y1,y3,r,?_,PK h.l a1,PK h.r a3⟩;rw[aV a0,dX h.s a2,dX h.c a4,dX h.c a5];rfl
theorem adX (hr:sP B rc):∀(l:List (Dr×Nat)) (i:Nat) (vs:List Value),(∀q s,l[q]?=some s->pJ B (20+2*(i+q)) (6000+16*(i+q)) (21+2*(i+q)) (6004+16*(i+q)) s.1 s.2)->IA G w rc l vs->lY ρ0 B G w (jZ i l.length) vs
 |[],_,_,_,h=>h
 |s::l,i,_,hs,h=>by
  obtain⟨vi,vf,r,rfl,h1,h2,h3⟩:=h;refine iS (iS (adW (hs 0 s rfl) h1 h2) (MJ hr)) (adX hr l (i+1) r (fun q s' hq=>?_) h3);have:=hs (q+1) s' hq;rwa[show i+(q+1)=i+1+q by omega]at this
theorem MK {rc:Rc}(hr:sP B rc):∀(l:List (Dr×Nat)) (i:Nat) (vs:List Value),(∀q s,l[q]?=some s->pJ B (20+2*(i+q)) (6000+16*(i+q)) (21+2*(i+q)) (6004+16*(i+q)) s.1 s.2)->gT ρ0 B G w (jZ i l.length) vs->vs.length=l.length*14->IA G w rc l vs
 |[],_,vs,_,_,hl=>aD8 (by simpa using hl)
 |s::l,i,vs,hs,h,hl=>by
  obtain⟨a,b,rfl,hb,h1,h2⟩:=kA (a:=ZN i) (b:=jZ (i+1) l.length) h;obtain⟨a1,a2,rfl,ha,k1,k2⟩:=kA (a:=sX (20+2*i) (6000+16*i) (21+2*i) (6004+16*i)) (b:=iI) h1;obtain⟨vi,vf,r1,e1,j1,j2⟩:=yU (hs 0 s rfl) k1;obtain⟨r2,e2⟩:=DB hr k2
  have z1:r1=[]:=by
   rw[e1]at ha;simp[pV,sX]at ha;exact ha
  have z2:r2=[]:=by
   rw[aD2,e2,ha]at hb;simp[Rc.l,sX,ZN,iI]at hb;exact aD8 (by omega)
  subst z1 z2;rw[aET]at e1 e2;refine⟨vi,vf,b,by rw[e1,e2],j1,j2,MK hr l (i+1) b (fun q s' hq=>?_) h2 ?_⟩
  ·have:=hs (q+1) s' hq;rwa[show i+(q+1)=i+1+q by omega]at this
  ·rw[aD2,hb]at hl;simp[ZN,sX,iI]at hl;omega
theorem oU:∀(l:List Value) (i:Nat),(∀q v,l[q]?=some v->B.A (8000+4*(i+q))=some v/\v.oneCell'=true)->lY ρ0 B G w (dH i l.length) l
 |[],_,_=>rfl
 |v::l,i,h=>⟨v,l,rfl,cX (h 0 v rfl).1 (h 0 v rfl).2,oU l (i+1) fun q u hq=>by
  have:=h (q+1) u hq;rwa[show i+(q+1)=i+1+q by omega]at this⟩
end
end
section
variable {sh ep:Nat}{s:Eg}
structure vH where
 fb:Nat
 hb:Nat
 gb:Nat
 ob:Nat
 zb:Nat
 kb:Nat
 ga:Nat
 oa:Nat
 za:Nat
 ka:Nat
 lp:Value
 v1:Value
 v2:Value
 v3:Value
 vi:Value
 vf:Value
 bs:List Value
 us:List Value
def vH.vb (x:vH):Option (List (Dr×Nat))->Value
 |none=> .slice none 0 0
 |some l=> .slice (some ⟨x.gb,x.ob,none⟩) l.length x.kb
def vH.va (x:vH):Option Nat->Value
 |none=> .slice none 0 0
 |some a=> .slice (some ⟨x.ga,x.oa,none⟩) a x.ka
def vI (v1 v2 v3:Value):List Value:=[.bool true,v1,.int .i64 2,.bool false,v2,.int .i64 2,.bool false,v3,.int .i64 0,.bool true,.int .i64 6,.int .i64 4,.int .i64 2,.int .i64 1,.int .i64 2,.int .i64 6,.int .i64 20]
def dS:List Int:=[9,9,9,9,9,9,9,9]
def lZ (rc:Rc)(cf:Nat->Value)(ep:Nat):List Value:=rc.l++[cf 0,cf 1,cf 2,cf 3,cf 4,cf 5,cf 6,cf 7,cf 8,cf 9,.pointer (some ⟨ep,0,none⟩)]
def vJ (lp v1 v2 v3:Value)(st:List Value):List Value:=lp::(vI v1 v2 v3++st)
def vH.live (x:vH)(sh ep:Nat)(s:Eg)(g:Nat):Prop:=g=ep∨g=x.fb∨g=x.hb∨g=sh∨(s.beh.isSome=true/\g=x.gb)∨(s.ah.isSome=true/\g=x.ga)
def vH.G (x:vH)(F:Nat->Prop)(sh ep:Nat)(s:Eg)(g:Nat):Prop:=F g/\¬x.live sh ep s g
structure xG (F:Nat->Prop) (w:World) (sh ep:Nat) (rc:Rc) (gh:Value) (cf:Nat->Value) (s:Eg) (x:vH):Prop where
 e0:w.heap[ep]?=some (.cells #[.pointer (some ⟨x.fb,0,none⟩),.pointer (some ⟨x.hb,0,none⟩)] 232 (0,0))
 e1:w.heap[x.fb]?=some (.cells (vJ x.lp x.v1 x.v2 x.v3 (pV s.d s.c x.vi x.vf)).toArray 278 (0,0))
 e2:w.heap[x.hb]?=some (.cells #[.int .i64 20,x.vb s.beh,x.va s.ah,.int .i64 s.run] 320 (0,0))
 e3:w.heap[sh]?=some (.cells (lZ rc cf ep).toArray 131 (0,0))
 rb:∀l,s.beh=some l->∃arr,w.heap[x.gb]?=some (.cells arr 264 (0,0))/\arr.size=x.zb/\(l.length<=x.kb/\x.kb<=9223372036854775807)/\x.ob+x.kb*14<=x.zb/\IA (x.G F sh ep s) w rc l x.bs/\∀j,j<l.length*14->arr[x.ob+j]?=x.bs[j]?
 ra:∀a,s.ah=some a->∃arr,w.heap[x.ga]?=some (.cells arr 264 (0,0))/\arr.size=x.za/\(a<=x.ka/\x.ka<=9223372036854775807)/\x.oa+x.ka*14<=x.za/\x.us.length=14*a/\(∀v∈x.us,v.oneCell'=true)/\∀j,j<14*a->arr[x.oa+j]?=x.us[j]?
 l1:jJ (x.G F sh ep s) w x.v1 dS
 l2:jJ (x.G F sh ep s) w x.v2 dS
 l3:jJ (x.G F sh ep s) w x.v3 [1]
 li:jJ (x.G F sh ep s) w x.vi s.d.int
 lf:jJ (x.G F sh ep s) w x.vf s.d.frac
 lp:x.lp.oneCell'=true/\Sp (x.G F sh ep s) w x.lp gh
 n1:ep≠x.fb/\ep≠x.hb/\ep≠sh/\x.fb≠x.hb/\x.fb≠sh/\x.hb≠sh
 n2:s.beh.isSome=true->x.gb≠ep/\x.gb≠x.fb/\x.gb≠x.hb/\x.gb≠sh
 n3:s.ah.isSome=true->x.ga≠ep/\x.ga≠x.fb/\x.ga≠x.hb/\x.ga≠sh
 n4:s.beh.isSome=true->s.ah.isSome=true->x.gb≠x.ga
 inF:∀g,x.live sh ep s g->F g
 lt:∀g,F g->g<w.heap.size
 c1:∀j,j<10->(cf j).oneCell'=true
 lo:∀g,F g->3<=g
 l0:3<=w.heap.size
def ajS (rc:Rc)(gh:Value)(cf:Nat->Value)(s:Eg):List (Nat×Value):=[(6,.agg (ints dS).toArray),(10,.agg (ints dS).toArray),(14,.agg (ints [1]).toArray),(18,.agg (ints s.d.int).toArray),(22,.agg (ints s.d.frac).toArray),(36,.bool s.d.sep),(204,.int .i64 s.c),(30,gh),(4004,.int .i64 s.run),
 (4100,sB rc.nm),(4104,sB rc.pat),(4108,sB rc.sys),(4112,sB rc.dec),(4116,sB rc.grp),(4120,sB rc.mns),(4124,sB rc.pct),(4128,sB rc.cur),
 (4200,cf 0),(4204,cf 1),(4208,cf 2),(4212,cf 3),(4216,cf 4),(4220,cf 5),(4224,cf 6),(4228,cf 7),(4232,cf 8),(4236,cf 9)]
def FE (l:List (Dr×Nat))(i:Nat):Option Value:=
 if 6000<=i then(match l[(i-6000)/16]? with
  |some q=>if(i-6000)%16=0 then some (.bool q.1.sep)else if(i-6000)%16=4 then some (.int .i64 q.2)else none
  |none=>none)
 else if 82<=i then(match l[(i-82)/8]? with
  |some q=>if(i-82)%8=0 then some (.agg (ints q.1.int).toArray)else if(i-82)%8=4 then some (.agg (ints q.1.frac).toArray)else none
  |none=>none)
 else none
def PL (rc:Rc)(gh:Value)(cf:Nat->Value)(s:Eg)(us:List Value)(X:List (Nat×Value))(i:Nat):Option Value:=match OP (ajS rc gh cf s++X) i with
 |some v=>some v
 |none=>if 8000<=i then(if i%4=0 then us[(i-8000)/4]? else none)else FE (s.beh.getD []) i
def cY (rc:Rc)(gh:Value)(cf:Nat->Value)(s:Eg)(us:List Value)(w:World)(X:List (Nat×Value)):aE:=⟨fun g=>g<3,w,PL rc gh cf s us X⟩
def PM (k:Nat):Bool:=Nat.beq (k%2) 0&&(Nat.ble k 81 || (Nat.ble 200 k&&Nat.ble k 5999))
def kT (X:List (Nat×Value)):Bool:=X.all fun p=>PM p.1
theorem FF:∀{l:List (Nat×Value)} {i:Nat},(∀p∈l,p.1≠i)->OP l i=none
 |[],_,_=>rfl
 |p::l,i,h=>by
  unfold OP;rw[aD4 (fun e=>h p (aEH ..) (aEA e))];exact FF fun q hq=>h q (aEM _ hq)
section
variable {rc:Rc}{gh:Value}{cf:Nat->Value}{s:Eg}{us:List Value}{X:List (Nat×Value)}{w:World}
theorem FG (hX:kT X=true):∀p∈ajS rc gh cf s++X,PM p.1=true:=by
 intro p hp;rcases aEQ.1 hp with hp|hp
 ·have h1:p.1∈(ajS rc gh cf s).map (·.1):=List.mem_map_of_mem hp;have h2:(ajS rc gh cf s).map (·.1)=[6,10,14,18,22,36,204,30,4004,4100,4104,4108,4112,4116,4120,4124,4128,4200,4204,4208,4212,4216,4220,4224,4228,4232,4236]:=rfl;rw[h2]at h1;have h3:∀k∈[6,10,14,18,22,36,204,30,4004,4100,4104,4108,4112,4116,4120,4124,4128,4200,4204,4208,4212,4216,4220,4224,4228,4232,4236],PM k=true:=by decide
  exact h3 _ h1
 ·exact aD7.1 hX p hp
theorem xH {k:Nat}(h:PM k=true):k%2=0/\(k<=81∨200<=k/\k<=5999):=by
 unfold PM at h;simp only[aD3,aFQ]at h;refine⟨aEA h.1,?_⟩;rcases h.2 with h|h
 ·exact .inl (aEJ h)
 ·exact .inr ⟨aEJ h.1,aEJ h.2⟩
theorem ML (hX:kT X=true):∀i x,PL rc gh cf s us X i=some x->i%2≠1:=by
 intro i x h;unfold PL at h;split at h
 ·rename_i v hv;have:=(xH (FG hX _ (L6 hv))).1;simp only at this;omega
 ·split at h
  ·split at h
   ·omega
   ·cases h
  ·unfold FE at h;split at h
   ·split at h
    ·split at h
     ·omega
     ·split at h
      ·omega
      ·cases h
    ·cases h
   ·split at h
    ·split at h
     ·split at h
      ·omega
      ·split at h
       ·omega
       ·cases h
     ·cases h
    ·cases h
theorem ao5 (hX:kT X=true)(q:Nat)(v:Value)(h:us[q]?=some v):PL rc gh cf s us X (8000+4*(0+q))=some v:=by
 unfold PL;rw[FF fun p hp e=>by have:=(xH (FG hX p hp)).2;omega];simp only;rw[aD6 (by omega),aD6 (by omega),show(8000+4*(0+q)-8000)/4=q by omega];exact h
theorem FH (hX:kT X=true){l:List (Dr×Nat)}(hb:s.beh.getD []=l)(hl:l.length<=14)(q:Nat)(t:Dr×Nat)(h:l[q]?=some t):pJ (cY rc gh cf s us w X) (20+2*(0+q)) (6000+16*(0+q)) (21+2*(0+q)) (6004+16*(0+q)) t.1 t.2:=by
 have hq:q<l.length:=(aED.1 h).1
 have key:∀i v,82<=i->i<8000->(i<200∨6000<=i)->FE l i=some v->PL rc gh cf s us X i=some v:=fun i v h1 h2 h3 h4=>by
  unfold PL;rw[FF fun p hp e=>by have:=(xH (FG hX p hp)).2;omega];simp only;rw[aD4 (by omega),hb];exact h4
 refine⟨⟨by omega,key _ _ (by unfold gid;omega) (by unfold gid;omega) (by unfold gid;omega) ?_⟩,⟨by omega,key _ _ (by unfold gid;omega) (by unfold gid;omega) (by unfold gid;omega) ?_⟩,key _ _ (by omega) (by omega) (by omega) ?_,key _ _ (by omega) (by omega) (by omega) ?_⟩
 ·unfold FE gid;rw[aD4 (by omega),aD6 (by omega),show(4*(20+2*(0+q))+2-82)/8=q by omega,h];simp only;rw[aD6 (by omega)]
 ·unfold FE gid;rw[aD4 (by omega),aD6 (by omega),show(4*(21+2*(0+q))+2-82)/8=q by omega,h];simp only;rw[aD4 (by omega),aD6 (by omega)]
 ·unfold FE;rw[aD6 (by omega),show(6000+16*(0+q)-6000)/16=q by omega,h];simp only;rw[aD6 (by omega)]
 ·unfold FE;rw[aD6 (by omega),show(6004+16*(0+q)-6000)/16=q by omega,h];simp only;rw[aD4 (by omega),aD6 (by omega)]
theorem cQ:sP (cY rc gh cf s us w X) rc:=⟨⟨rfl,rfl,rfl,rfl,rfl,rfl,rfl,rfl⟩⟩
theorem cB:pJ (cY rc gh cf s us w X) 4 36 5 204 s.d s.c:=⟨⟨by decide,rfl⟩,⟨by decide,rfl⟩,rfl,rfl⟩
theorem CC:cG (cY rc gh cf s us w X) 1 dS:=⟨by decide,rfl⟩
theorem CD:cG (cY rc gh cf s us w X) 2 dS:=⟨by decide,rfl⟩
theorem CE:cG (cY rc gh cf s us w X) 3 [1]:=⟨by decide,rfl⟩
theorem lD:(cY rc gh cf s us w X).A (gid 7)=some gh:=rfl
theorem gU:(cY rc gh cf s us w X).A 4004=some (.int .i64 s.run):=by kernel_rfl
end
def fF (sh ep:Nat)(s:Eg)(x:vH):Nat->Option (Nat×Nat×Nat×Nat)
 |0=>some (ep,0,2,2)
 |1=>some (x.fb,0,24,24)
 |2=>some (x.hb,0,4,4)
 |3=>some (sh,0,19,19)
 |4=>match s.beh,s.ah with
  |some l,_=>some (x.gb,x.ob,x.zb,l.length*14)
  |none,some a=>some (x.ga,x.oa,x.za,14*a)
  |none,none=>none
 |5=>match s.beh,s.ah with
  |some _,some a=>some (x.ga,x.oa,x.za,14*a)
  |_,_=>none
 |_=>none
def xI (x:vH):Nat->Option Nat
 |0=>some x.kb
 |1=>some x.ka
 |_=>none
theorem nZ {x:vH}{i:Nat}{q:Nat×Nat×Nat×Nat}(h:fF sh ep s x i=some q):x.live sh ep s q.1:=by
 unfold fF at h;unfold vH.live;split at h
 ·injection h with h;subst h;exact .inl rfl
 ·injection h with h;subst h;exact .inr (.inl rfl)
 ·injection h with h;subst h;exact .inr (.inr (.inl rfl))
 ·injection h with h;subst h;exact .inr (.inr (.inr (.inl rfl)))
 ·split at h
  ·rename_i l hb;injection h with h;subst h;exact .inr (.inr (.inr (.inr (.inl ⟨by rw[hb];rfl,rfl⟩))))
  ·rename_i a _ ha;injection h with h;subst h;exact .inr (.inr (.inr (.inr (.inr ⟨by rw[ha];rfl,rfl⟩))))
  ·cases h
 ·split at h
  ·rename_i a _ ha;injection h with h;subst h;exact .inr (.inr (.inr (.inr (.inr ⟨by rw[ha];rfl,rfl⟩))))
  ·cases h
 ·cases h
theorem xG.inj {F:Nat->Prop}{w:World}{rc:Rc}{gh:Value}{cf:Nat->Value}{x:vH}(V:xG F w sh ep rc gh cf s x):∀b b' q q',fF sh ep s x b=some q->fF sh ep s x b'=some q'->b≠b'->q.1≠q'.1:=by
 intro b b' q q' h1 h2 hb;obtain⟨n1,n2,n3,n4,n5,n6⟩:=V.n1;have m2:=V.n2;have m3:=V.n3;have m4:=V.n4;obtain⟨d,c,beh,ah,run⟩:=s
 have ha:∀{i z},fF sh ep ⟨d,c,beh,ah,run⟩ x i=some z->i<6:=fun {i z} h=>by
  unfold fF at h;split at h
  iterate 6 omega
  cases h
 have l1:=ha h1;have l2:=ha h2;clear ha;have c1:b=0∨b=1∨b=2∨b=3∨b=4∨b=5:=by omega
 have c2:b'=0∨b'=1∨b'=2∨b'=3∨b'=4∨b'=5:=by omega
 cases beh<;>cases ah
 all_goals
  simp only[Option.isSome_some,Option.isSome_none,aE0,false_implies,true_implies]at m2 m3 m4
  rcases c1 with rfl|rfl|rfl|rfl|rfl|rfl<;>rcases c2 with rfl|rfl|rfl|rfl|rfl|rfl<;>first
   |exact absurd rfl hb
   |(cases h1;done)
   |(cases h2;done)
   |(injection h1 with h1
     injection h2 with h2
     subst h1 h2
     simp only
     omega)
end
section
variable {ρ:Env}{b g o z m:Nat}{X:List (Nat×Value)}
theorem gD (h:ρ.blk b=some (g,o,z,m)):aO ρ (.ptr b 0)=some (.pointer (some ⟨g,o,none⟩)):=by
 unfold aO;rw[h];rfl
theorem yV {n sz i κ:Nat}(h:ρ.blk b=some (g,o,z,m))(hc:ρ.cap i=some κ)(h1:n<=κ)(h2:m<=κ*sz)(h3:o+κ*sz<=z)(h4:κ<=9223372036854775807):aO ρ (.slc b 0 n sz (.lo i 0))=some (.slice (some ⟨g,o,none⟩) n κ):=by
 unfold aO fT;simp only[h,hc];rw[aD6 ⟨by omega,by simpa using h2,by simpa using h3,h4⟩];rfl
section
variable {rc:Rc}{gh:Value}{cf:Nat->Value}{s:Eg}{us:List Value}{X:List (Nat×Value)}{w:World}
theorem ajT:PL rc gh cf s us X 4200=some (cf 0)/\PL rc gh cf s us X 4204=some (cf 1)/\PL rc gh cf s us X 4208=some (cf 2)/\PL rc gh cf s us X 4212=some (cf 3)/\PL rc gh cf s us X 4216=some (cf 4)/\PL rc gh cf s us X 4220=some (cf 5)/\PL rc gh cf s us X 4224=some (cf 6)/\PL rc gh cf s us X 4228=some (cf 7)/\PL rc gh cf s us X 4232=some (cf 8)/\PL rc gh cf s us X 4236=some (cf 9):=⟨by kernel_rfl,by kernel_rfl,by kernel_rfl,by kernel_rfl,by kernel_rfl,by kernel_rfl,by kernel_rfl,by kernel_rfl,by kernel_rfl,by kernel_rfl⟩
theorem cM:∀j,j<10->(cY rc gh cf s us w X).A (4200+4*j)=some (cf j):=fun j hj=>by
 obtain⟨h0,h1,h2,h3,h4,h5,h6,h7,h8,h9⟩:=ajT (rc:=rc) (gh:=gh) (cf:=cf) (s:=s) (us:=us) (X:=X);have:j=0∨j=1∨j=2∨j=3∨j=4∨j=5∨j=6∨j=7∨j=8∨j=9:=by omega
 rcases this with rfl|rfl|rfl|rfl|rfl|rfl|rfl|rfl|rfl|rfl<;>assumption
end
section
variable {F:Nat->Prop}{w:World}{sh ep:Nat}{rc:Rc}{gh:Value}{cf:Nat->Value}{s:Eg}{x:vH}
theorem VY {lp v1 v2 v3 vi vf:Value}{d:Dr}{c:Nat}(h0:lp.oneCell'=true)(h1:v1.oneCell'=true)(h2:v2.oneCell'=true)(h3:v3.oneCell'=true)(h4:vi.oneCell'=true)(h5:vf.oneCell'=true):∀v∈vJ lp v1 v2 v3 (pV d c vi vf),v.oneCell'=true:=by
 intro v hv;simp only[vJ,vI,pV,aGO,aF4,aER,aFF,aGX]at hv
 iterate 23 (rcases hv with rfl|hv;· first|rfl|assumption)
 subst hv;rfl
theorem VZ {ep:Nat}(h:∀j,j<10->(cf j).oneCell'=true):∀v∈lZ rc cf ep,v.oneCell'=true:=by
 intro v hv;simp only[lZ,Rc.l,aGO,aF4,aER,aFF,aGX]at hv
 iterate 18 (rcases hv with rfl|hv;· first|rfl|exact h _ (by omega))
 subst hv;rfl
theorem xG.ini (V:xG F w sh ep rc gh cf s x)(hX:kT X=true)(hl:∀l,s.beh=some l->l.length<=14):∀j y,(ZO (s.beh.map List.length) s.ah)[j]?=some y->MG (Env.ini (cY rc gh cf s x.us w X) (fF sh ep s x) (xI x)) (cY rc gh cf s x.us w X) (x.G F sh ep s) w j y:=by
 have i0:MG (Env.ini (cY rc gh cf s x.us w X) (fF sh ep s x) (xI x)) (cY rc gh cf s x.us w X) (x.G F sh ep s) w 0 ⟨232,[.ptr 1,.ptr 2],true⟩:=
  ⟨ep,0,2,_,[_,_],rfl,V.e0,rfl,by decide,⟨_,_,rfl,gD rfl,_,_,rfl,gD rfl,rfl⟩,fun v hv=>by simp at hv;rcases hv with rfl|rfl<;>rfl,fun i hi=>by
    have:i=0∨i=1:=by simp at hi;omega
    rcases this with rfl|rfl<;>rfl,fun _=>⟨rfl,rfl⟩⟩
 have i1:MG (Env.ini (cY rc gh cf s x.us w X) (fF sh ep s x) (xI x)) (cY rc gh cf s x.us w X) (x.G F sh ep s) w 1 ⟨278,B4 kS,true⟩:=
  ⟨x.fb,0,24,_,_,rfl,V.e1,rfl,by decide,⟨_,_,rfl,⟨by decide,V.lp.1,gh,lD,V.lp.2⟩,iS (y:=pV s.d s.c x.vi x.vf)
    ⟨_,_,rfl,cP _,_,_,rfl,CB CC V.l1,_,_,rfl,cP _,_,_,rfl,cP _,_,_,rfl,CB CD V.l2,_,_,rfl,cP _,_,_,rfl,cP _,_,_,rfl,CB CE V.l3,_,_,rfl,cP _,_,_,rfl,cP _,
      _,_,rfl,cP _,_,_,rfl,cP _,_,_,rfl,cP _,_,_,rfl,cP _,_,_,rfl,cP _,_,_,rfl,cP _,_,_,rfl,cP _,rfl⟩ (adW cB V.li V.lf)⟩,
    VY V.lp.1 V.l1.one V.l2.one V.l3.one V.li.one V.lf.one,fun i hi=>by simp[vJ,vI],fun _=>⟨rfl,rfl⟩⟩
 have i3:MG (Env.ini (cY rc gh cf s x.us w X) (fF sh ep s x) (xI x)) (cY rc gh cf s x.us w X) (x.G F sh ep s) w 3 ⟨131,sI,true⟩:=
  ⟨sh,0,19,_,_,rfl,V.e3,rfl,by decide,iS (MJ cQ)
    ⟨_,_,rfl,cX (cM 0 (by omega)) (V.c1 0 (by omega)),_,_,rfl,cX (cM 1 (by omega)) (V.c1 1 (by omega)),_,_,rfl,cX (cM 2 (by omega)) (V.c1 2 (by omega)),_,_,rfl,cX (cM 3 (by omega)) (V.c1 3 (by omega)),_,_,rfl,cX (cM 4 (by omega)) (V.c1 4 (by omega)),
      _,_,rfl,cX (cM 5 (by omega)) (V.c1 5 (by omega)),_,_,rfl,cX (cM 6 (by omega)) (V.c1 6 (by omega)),_,_,rfl,cX (cM 7 (by omega)) (V.c1 7 (by omega)),_,_,rfl,cX (cM 8 (by omega)) (V.c1 8 (by omega)),_,_,rfl,cX (cM 9 (by omega)) (V.c1 9 (by omega)),_,_,rfl,gD rfl,rfl⟩,
    VZ V.c1,fun i hi=>by simp[lZ],fun _=>⟨rfl,rfl⟩⟩
 have hf:∀vb va p q,x.vb s.beh=vb->x.va s.ah=va->IsC (Env.ini (cY rc gh cf s x.us w X) (fF sh ep s x) (xI x)) (cY rc gh cf s x.us w X) (x.G F sh ep s) w p vb->IsC (Env.ini (cY rc gh cf s x.us w X) (fF sh ep s x) (xI x)) (cY rc gh cf s x.us w X) (x.G F sh ep s) w q va->vb.oneCell'=true->va.oneCell'=true->
   MG (Env.ini (cY rc gh cf s x.us w X) (fF sh ep s x) (xI x)) (cY rc gh cf s x.us w X) (x.G F sh ep s) w 2 ⟨320,[.p (.val (.int .i64 20)),p,q,.p (.at_ 4004)],true⟩:=fun vb va p q e1 e2 h1 h2 o1 o2=>by
  have h:=V.e2
  rw[e1,e2]at h
  refine⟨x.hb,0,4,_,[_,_,_,_],rfl,h,rfl,aD1 4,⟨_,_,rfl,cP _,_,_,rfl,h1,_,_,rfl,h2,_,_,rfl,cX gU rfl,rfl⟩,fun v hv=>?_,fun i hi=>?_,fun _=>⟨rfl,rfl⟩⟩
  ·simp at hv;rcases hv with rfl|rfl|rfl|rfl<;>first|rfl|assumption
  ·have:i=0∨i=1∨i=2∨i=3:=by simp at hi;omega
   rcases this with rfl|rfl|rfl|rfl<;>rfl
 have hb:∀l,s.beh=some l->MG (Env.ini (cY rc gh cf s x.us w X) (fF sh ep s x) (xI x)) (cY rc gh cf s x.us w X) (x.G F sh ep s) w 4 ⟨264,jZ 0 l.length,false⟩:=fun l hc=>by
  obtain⟨arr,h1,h2,h3,h4,h5,h6⟩:=V.rb l hc;refine⟨x.gb,x.ob,x.zb,arr,x.bs,?_,h1,h2,by rw[nY];omega,adX cQ l 0 x.bs (fun q t hq=>FH hX (by rw[hc];rfl) (hl l hc) q t hq) h5,h5.one,fun i hi=>h6 i (by rw[nY]at hi;exact hi),fun h=>by cases h⟩;show fF sh ep s x 4=_;rw[nY];simp only[fF,hc]
 have ha:∀a j,s.ah=some a->fF sh ep s x j=some (x.ga,x.oa,x.za,14*a)->MG (Env.ini (cY rc gh cf s x.us w X) (fF sh ep s x) (xI x)) (cY rc gh cf s x.us w X) (x.G F sh ep s) w j ⟨264,dH 0 (14*a),false⟩:=fun a j hd hj=>by
  obtain⟨arr,h1,h2,h3,h4,h5,hh,h6⟩:=V.ra a hd;refine⟨x.ga,x.oa,x.za,arr,x.us,by rw[gK];exact hj,h1,h2,by rw[gK];omega,?_,hh,fun i hi=>h6 i (by rw[gK]at hi;exact hi),fun h=>by cases h⟩;have:=oU (ρ0:=Env.ini (cY rc gh cf s x.us w X) (fF sh ep s x) (xI x)) (B:=cY rc gh cf s x.us w X) (G:=x.G F sh ep s) (w:=w) x.us 0 fun q v hq=>⟨ao5 hX q v hq,hh v (aE6 hq)⟩
  rwa[h5]at this
 intro j y hj;have hB:∀o,s.beh=o->x.vb s.beh=x.vb o:=fun o h=>by rw[h]
 have hA:∀o,s.ah=o->x.va s.ah=x.va o:=fun o h=>by rw[h]
 cases hc:s.beh with
 |none=>
  cases hd:s.ah with
  |none=>
   rw[hc,hd]at hj
   have:j<4:=(aED.1 hj).1
   have:j=0∨j=1∨j=2∨j=3:=by omega
   rcases this with rfl|rfl|rfl|rfl<;>(injection hj with hj;subst hj)
   ·exact i0
   ·exact i1
   ·exact hf _ _ _ _ (hB _ hc) (hA _ hd) (cP _) (cP _) rfl rfl
   ·exact i3
  |some a=>
   rw[hc,hd]at hj
   have:j<5:=(aED.1 hj).1
   have:j=0∨j=1∨j=2∨j=3∨j=4:=by omega
   have hg:fF sh ep s x 4=some (x.ga,x.oa,x.za,14*a):=by simp only[fF,hc,hd]
   obtain⟨arr,h1,h2,h3,h4,h5,hh,h6⟩:=V.ra a hd
   rcases this with rfl|rfl|rfl|rfl|rfl<;>(injection hj with hj;subst hj)
   ·exact i0
   ·exact i1
   ·exact hf _ _ _ _ (hB _ hc) (hA _ hd) (cP _) (yV hg rfl h3.1 (by omega) h4 h3.2) rfl rfl
   ·exact i3
   ·exact ha a 4 hd hg
 |some l=>
  have hg:fF sh ep s x 4=some (x.gb,x.ob,x.zb,l.length*14):=by simp only[fF,hc]
  obtain⟨aa,g1,g2,g3,g4,g5,g6⟩:=V.rb l hc
  cases hd:s.ah with
  |none=>
   rw[hc,hd]at hj
   have:j<5:=(aED.1 hj).1
   have:j=0∨j=1∨j=2∨j=3∨j=4:=by omega
   rcases this with rfl|rfl|rfl|rfl|rfl<;>(injection hj with hj;subst hj)
   ·exact i0
   ·exact i1
   ·exact hf _ _ _ _ (hB _ hc) (hA _ hd) (yV hg rfl g3.1 (by omega) g4 g3.2) (cP _) rfl rfl
   ·exact i3
   ·exact hb l hc
  |some a=>
   rw[hc,hd]at hj
   have:j<6:=(aED.1 hj).1
   have:j=0∨j=1∨j=2∨j=3∨j=4∨j=5:=by omega
   have hk:fF sh ep s x 5=some (x.ga,x.oa,x.za,14*a):=by simp only[fF,hc,hd]
   obtain⟨arr,h1,h2,h3,h4,h5,hh,h6⟩:=V.ra a hd
   rcases this with rfl|rfl|rfl|rfl|rfl|rfl<;>(injection hj with hj;subst hj)
   ·exact i0
   ·exact i1
   ·exact hf _ _ _ _ (hB _ hc) (hA _ hd) (yV hg rfl g3.1 (by omega) g4 g3.2) (yV hk rfl h3.1 (by omega) h4 h3.2) rfl rfl
   ·exact i3
   ·exact hb l hc
   ·exact ha a 5 hd hk
theorem xG.run (V:xG F w sh ep rc gh cf s x)(hX:kT X=true)(hl:∀l,s.beh=some l->l.length<=14){call:bM}(hb:cH (cY rc gh cf s x.us w X) prog call){f:FuncId}{ps:List PC}{chk:AV->M->Bool}{xs:List Value}(hd:lY (Env.ini (cY rc gh cf s x.us w X) (fF sh ep s x) (xI x)) (cY rc gh cf s x.us w X) (x.G F sh ep s) w ps xs){nb na:Option Nat}(hf:s.beh.map List.length=nb)(hh:s.ah=na)(h:(match call f (bX (bQ 2 (ZO nb na)).2 ps).1 {H:=tB (bQ 2 (ZO nb na)).1,nb:=(ZO nb na).length,nc:=(bX (bQ 2 (ZO nb na)).2 ps).2}with
   |some (r,m')=>chk r m'
   |none=>false)=true):
  Calls prog f xs.toArray w fun e w'=>∃y ρ' r m',e=.returned y/\chk r m'=true/\aO ρ' r=some y/\Out (cY rc gh cf s x.us w X) (x.G F sh ep s) (Env.ini (cY rc gh cf s x.us w X) (fF sh ep s x) (xI x)) w ρ' m' w':=by
 subst hf hh
 have hlen:(ZO (s.beh.map List.length) s.ah).length<=6:=by
  cases s.beh<;>cases s.ah<;>simp[ZO]
 refine BA (ML hX) hb (ib:=ZO (s.beh.map List.length) s.ah) (nc0:=2) rfl rfl h (by omega) (fF sh ep s x) (xI x) (fun i hi=>?_) (fun i hi=>?_) V.inj w ⟨fun g h=>aEL h V.l0,fun _ _=>rfl⟩ (fun b q hq h=>absurd h (Nat.not_lt.2 (V.lo _ (V.inF _ (nZ hq))))) (fun b q hq hg=>hg.2 (nZ hq)) (V.ini hX hl) xs hd
 ·have:∀i,6<=i->fF sh ep s x i=none:=fun i hi=>by
   unfold fF;split<;>first|omega|rfl
  cases ha:s.beh<;>cases hc:s.ah<;>rw[ha,hc]at hi<;>simp[ZO]at hi
  ·rcases aEU i 6 with h6|h6
   ·have:i=4∨i=5:=by omega
    rcases this with rfl|rfl<;>(show fF sh ep s x _=none;simp only[fF,ha,hc])
   ·exact this i h6
  ·rcases aEU i 6 with h6|h6
   ·have:i=5:=by omega
    subst this;show fF sh ep s x _=none;simp only[fF,ha,hc]
   ·exact this i h6
  ·rcases aEU i 6 with h6|h6
   ·have:i=5:=by omega
    subst this;show fF sh ep s x _=none;simp only[fF,ha,hc]
   ·exact this i h6
  ·exact this i hi
 ·unfold xI;split<;>first|omega|rfl
end
end
end Go.Proofs.YtoeiaflkdcbkdaaGreatDoor
