/- The claim TopSteps, part 7 of 46: Df4, Df6, Sy7, Rg2, Rg3, Pg1, Pg2, Pg3, Pg4, Pg5, Pg6, Pg7, Pr1, Pr2, Sy8 -/
import Derived.Test.YteiomfgehlojeaaGreatDoorK06
import Derived.Deep.RegionHeld3
import Derived.Laws.BytesArg
import Derived.Lib.TrimUEq
import Derived.Test.YteiomfgehlojeaaGreatDoorK03
set_option linter.unusedVariables false
set_option linter.unusedSimpArgs false
section
namespace Go.Proofs.YteiomfgehlojeaaGreatDoor
open Go.RowKit
theorem DBox.setAll {w:World} {g:Nat} {a b c d:Value} (h:DBox w g a b c d) (x y z u:Value):DBox ((((w.setCell ⟨g,0,none⟩ x).setCell ⟨g,1,none⟩ y).setCell ⟨g,2,none⟩ z).setCell ⟨g,3,none⟩ u) g x y z u :=
  heap_set1 _ g 3 _ _ _ _ (heap_set1 _ g 2 _ _ _ _ (heap_set1 _ g 1 _ _ _ _ (heap_set1 w g 0 _ _ _ _ h)))
theorem inside_any (n:Nat) (w:World) (h:n ≤ 64):Calls Tryz.prog 476 #[.int .i64 n] w fun e w'=>e = .returned (.bool true)∧w = w':=by
  have g1:(0:Int) ≤ (n:Int):=by omega
  have g2:(n:Int) ≤ 64:=by omega
  go_enter Tryz.func476,Tryz.ntmps476
  go_wp2_with fail
  go_ret
  exact ⟨by simp [g1,g2],rfl⟩
set_option maxRecDepth 100000 in
set_option maxHeartbeats 4000000 in
theorem dFrom_any (v:Value) (d:Dc) (m k:Nat) (w:World) (ha:IsInts w v d.l) (da:Dg d.l) (la:d.l.length ≤ 100) (hs:d.s ≤ 100) (hm:m ≤ 64) (hk:k ≤ 64) :
    Calls Tryz.prog 470 #[dv v d, .int .i64 m, .int .i64 k] w fun e w'=>∃ vi vf,e = .returned (.tuple #[drv vi vf (fromDr d m k), .int .i64 0])∧IsInts w' vi (fromDr d m k).int∧IsInts w' vf (fromDr d m k).frac∧From w.heap.size vi∧From w.heap.size vf∧Below w.heap.size w w':=by
  obtain ⟨i0,hi,hz0,hz1,hz2⟩:=info_parts info_int
  have dt:=trimD_dg d da
  have lt:=trimD_len d
  have st:=trimD_s d
  obtain ⟨D,hD⟩:∃ D,fromDr d m k = D:=⟨_,rfl⟩
  rw [hD]
  unfold fromDr frI frF at hD
  obtain ⟨t,ht⟩:∃ t,trimD d = t:=⟨_,rfl⟩
  rw [ht] at dt lt st hD
  have lw:(wholeD t).length ≤ 200:=by unfold wholeD; have:=trimL_le ((wideL t.l t.s).take ((wideL t.l t.s).length - t.s)); simp [wideL_len] at this ⊢; omega
  have lr:(restD t).length ≤ 200:=by unfold restD; simp [wideL_len]; omega
  obtain ⟨W2,hW2,s2,z1,z2,hB2⟩:∃ W2,(w.alloc (Obj.cells #[.bool d.neg,v, .int .i64 d.s] 73)).alloc (Obj.cells #[.bool false, .slice none 0 0, .bool false, .slice none 0 0] 63) = W2∧W2.heap.size = w.heap.size + 2 ∧
      Blk3 W2 w.heap.size (.bool d.neg) v (.int .i64 d.s)∧DBox W2 (w.heap.size + 1) (.bool false) (.slice none 0 0) (.bool false) (.slice none 0 0)∧Below w.heap.size w W2:=by
    refine ⟨_,rfl,by simp,(Blk3.new w _ _ _).keep (heap_alloc_old _ _ (by simp)),?_,((Below.refl _ w).alloc (Nat.le_refl _) _).alloc (by simp) _⟩
    have:=DBox.new (w.alloc (Obj.cells #[.bool d.neg,v, .int .i64 d.s] 73)) (.bool false) (.slice none 0 0) (.bool false) (.slice none 0 0)
    simpa using this
  have hMay:=decMay_any v d W2 (ha.below hB2 (Nat.le_refl _)) da (by omega)
  have hTr:=fun W (hB:Below W2.heap.size W2 W)=>decTrim_any v d W ((ha.below hB2 (Nat.le_refl _)).below hB (Nat.le_refl _)) (by omega) (by omega)
  rw [ht] at hTr
  have hPa:=fun W X (i:IsInts W X t.l)=>parts_any X t W i (by omega) (by omega)
  obtain ⟨a,hae⟩:∃ a,wholeD t = a:=⟨_,rfl⟩
  obtain ⟨b,hbe⟩:∃ b,restD t = b:=⟨_,rfl⟩
  rw [hae] at hPa hD lw
  rw [hbe] at hPa hD lr
  have hCl:=fun W X (i:IsInts W X b)=>clone_any X b W i (by omega)
  have H1:=Lib.hid (inside_any m · hm)
  have H2:=Lib.hid (inside_any k · hk)
  obtain ⟨A0,c0,rfl⟩:=ha.form
  obtain ⟨dn,dl,ds⟩:=d
  obtain ⟨tn,tl,ts⟩:=t
  simp only [dv,drv] at *
  obtain ⟨na,hna⟩:∃ n,a.length = n:=⟨_,rfl⟩
  obtain ⟨nb,hnb⟩:∃ n,b.length = n:=⟨_,rfl⟩
  rw [hna] at lw hD
  rw [hnb] at lr hD hCl
  have HW:=Lib.hid hW2
  have HM:=Lib.hid hMay
  have HT:=Lib.hid hTr
  have HP:=Lib.hid hPa
  have HC:=Lib.hid hCl
  have HDD:=Lib.hid hD
  have HZ:=Lib.hid (fun W (hB:Below W2.heap.size W2 W)=>And.intro (z1.below hB (by omega)) (z2.below hB (by omega)))
  have HB:=Lib.hid hB2
  have q0:=z1.c0
  have q1:=z1.c1
  have q2:=z1.c2
  have HNA:=Lib.hid hna
  have HNB:=Lib.hid hnb
  obtain ⟨p,hp⟩:∃ p,m - na = p:=⟨_,rfl⟩
  obtain ⟨q,hq⟩:∃ q,k - nb = q:=⟨_,rfl⟩
  have hw1:IntKind.i64.wrap ((m:Int) - (na:Int)) = (m:Int) - (na:Int):=wrap_in _ (by omega) (by omega)
  have hw2:IntKind.i64.wrap ((k:Int) - (nb:Int)) = (k:Int) - (nb:Int):=wrap_in _ (by omega) (by omega)
  have hx1:max ((m:Int) - (na:Int)) 0 = (p:Int):=by omega
  have hx2:max ((k:Int) - (nb:Int)) 0 = (q:Int):=by omega
  have HPP:=Lib.hid hp
  have HQQ:=Lib.hid hq
  have hpb:p ≤ 64:=by omega
  have hqb:q ≤ 64:=by omega
  clear hW2 hMay hTr hPa hCl hD z1 z2 hB2 ha da dt lt st ht hae hbe hna hnb hp hq hm hk
  go_enter Tryz.func470,Tryz.ntmps470
  go_wp2_with fail
  rw [HW.out]
  go_wp2_with fail
  refine HM.out.mono ?_
  rintro e w3 ⟨rfl,b3⟩
  obtain ⟨Z3,_⟩:=HZ.out _ b3
  have p0:=Z3.c0
  have p1:=Z3.c1
  have p2:=Z3.c2
  clear q0 q1 q2 Z3
  go_wp2_with (first
    | (go_at_call 476; refine (H1.out _).mono ?_; rintro e w' ⟨rfl,rfl⟩)
    | (go_at_call 476; refine (H2.out _).mono ?_; rintro e w' ⟨rfl,rfl⟩))
  refine (HT.out w3 b3).mono ?_
  rintro e w4 ⟨v4,rfl,i4,f4,b4'⟩
  obtain ⟨A4,c4,rfl⟩:=i4.form
  have b4:=b3.trans (b4'.mono b3.size)
  have hs4:=b4.size
  clear p0 p1 p2 b4' b3
  obtain ⟨W5,hW5,k5,i5,B5,S5⟩:∃ W5,w4.alloc (Obj.cells #[.bool tn, .slice A4 tl.length c4, .int .i64 ts] 73) = W5∧Blk3 W5 w4.heap.size (.bool tn) (.slice A4 tl.length c4) (.int .i64 ts) ∧
      IsInts W5 (.slice A4 tl.length c4) tl∧Below W2.heap.size W2 W5∧W5.heap.size = w4.heap.size + 1 :=
    ⟨_,rfl,Blk3.new _ _ _ _,i4.alloc _,b4.alloc hs4 _,by simp⟩
  have q0:=k5.c0
  have q1:=k5.c1
  have q2:=k5.c2
  have HK5:=Lib.hid k5
  clear k5 i4 f4 b4
  go_wp2_with fail
  refine (HP.out W5 _ i5).mono ?_
  rintro e w6 ⟨v1,v2,rfl,ia,ib,fa,fb,b6'⟩
  obtain ⟨Aa,ca,rfl⟩:∃ A c,v1 = .slice A na c:=by obtain ⟨A,c,h⟩:=ia.form; exact ⟨A,c,by rw [h,HNA.out]⟩
  obtain ⟨Ab,cb,rfl⟩:∃ A c,v2 = .slice A nb c:=by obtain ⟨A,c,h⟩:=ib.form; exact ⟨A,c,by rw [h,HNB.out]⟩
  have B6:=B5.trans (b6'.mono B5.size)
  have hs6:=B6.size
  have s56:=b6'.size
  have HK6:=Lib.hid (fun W (hB:Below w6.heap.size w6 W)=>(HK5.out.below b6' (by omega)).below hB (by omega))
  clear q0 q1 q2
  have HIa:=Lib.hid (fun W (hB:Below w6.heap.size w6 W)=>ia.below hB (Nat.le_refl _))
  have HIb:=Lib.hid (fun W (hB:Below w6.heap.size w6 W)=>ib.below hB (Nat.le_refl _))
  have hge6:w.heap.size ≤ w6.heap.size:=by omega
  obtain ⟨Li,hLi⟩:∃ L,List.replicate p 0 ++ a = L:=⟨_,rfl⟩
  obtain ⟨ni,hni⟩:∃ n,p + na = n:=⟨_,rfl⟩
  obtain ⟨Lf,hLf⟩:∃ L,b ++ List.replicate q 0 = L:=⟨_,rfl⟩
  obtain ⟨nf,hnf⟩:∃ n,nb + q = n:=⟨_,rfl⟩
  have HLi:=Lib.hid hLi
  have HLf:=Lib.hid hLf
  have HNI:=Lib.hid (show Li.length = ni by rw [← hLi,← hni]; simp [HNA.out])
  have HNF:=Lib.hid (show Lf.length = nf by rw [← hLf,← hnf]; simp [HNB.out])
  have hpa:Hid (p + a.length = ni):=by show _ = _; rw [HNA.out,hni]
  have hqf:Hid (nb + q = nf):=hnf
  have hle1:Hid (p + a.length ≤ 1000000):=by show _ ≤ _; have:=HNA.out; omega
  have hnib:ni ≤ 300:=by omega
  have hnfb:nf ≤ 300:=by omega
  have hw3:IntKind.i64.wrap ((ni:Int) + (nf:Int)) = ((ni + nf:Nat):Int):=by rw [wrap_in _ (by omega) (by omega)]; omega
  have HDE:Hid (D = ⟨tn,if Li = []∧Lf = [] then [0] else Li,decide (0 < nf),Lf⟩):=by
    show _ = _
    rw [← HDD.out,HPP.out,HQQ.out,← hLi,← hLf,← HNF.out,← hLf]
  clear ia ib fa fb b6' HK5 i5 B5 hLi hLf hni hnf
  rcases Nat.eq_zero_or_pos (ni + nf) with hz | hz
  · have hDD:Hid (D = ⟨tn,[0],decide (0 < nf),Lf⟩):=by
      show _ = _
      rw [HDE.out,if_pos ⟨List.eq_nil_of_length_eq_zero (by have:=HNI.out; omega),List.eq_nil_of_length_eq_zero (by have:=HNF.out; omega)⟩]
    have hz3:((ni + nf:Nat):Int) = 0:=by omega
    clear hz HDE
    go_wp2_with (first
      | (at_make
         refine wpList_make_full _ rfl _ _ 24 rfl w6.heap.size 3 i0 (.int .i64 0) 1 Tryz.underlying24 hi hz0 hz1 .i64 .i64 _ _ p rfl rfl rfl rfl (by rw [hz2]; omega) (by unfold maxLen; omega) (by simp) ?_
         intro w7 hown7 hgrow7
         have X7:Aside (w7.ownsRow w6.heap.size 3 1 (.slice (some ⟨w6.heap.size,0,none⟩) p p) p (ints (List.replicate p 0))∧Below w6.heap.size w6 w7):=by
           refine ⟨?_,(Below.refl _ w6).grown hgrow7 (Nat.le_refl _) (fun k h=>by cases h)⟩
           have:=hown7
           rw [madeCells_one] at this
           simpa [ints] using this
         clear hown7 hgrow7)
      | (at_builtin
         refine wpList_append_ints _ rfl _ _ 24 rfl w6.heap.size 3 i0 Tryz.underlying24 hi hz0 hz1 hz2 (.slice (some ⟨w6.heap.size,0,none⟩) p p) p (ints (List.replicate p 0)) (by simp [Act.eval,Act.put]) X7.out.1 (.slice Aa na ca) a (by simp [Act.eval,Act.put]) (HIa.out _ X7.out.2) hle1.out X7.out.2.size ?_
         intro v8 w8 hown8 hgrow8
         have X8:Aside (w8.ownsRow w6.heap.size 3 1 v8 ni (ints Li)∧Below w6.heap.size w6 w8):=by
           refine ⟨by have:=hown8; rw [hpa.out,← ints_append,HLi.out] at this; exact this,X7.out.2.grown hgrow8 X7.out.2.size (fun j hj=>(X7.out.1.lt j hj).1)⟩
         obtain ⟨A8,c8,rfl⟩:=own_form X8.out.1
         clear hown8 hgrow8)
      | (go_at_call 71
         refine (HC.out _ _ (HIb.out _ X8.out.2)).mono ?_
         rintro e w9 ⟨v9,rfl,o9,b9⟩
         obtain ⟨A9,c9,rfl⟩:=own_form o9
         have X9:Aside (w9.ownsRow w8.heap.size 3 1 (.slice A9 nb c9) nb (ints b)∧Below w8.heap.size w8 w9):=⟨o9,b9⟩
         clear o9 b9)
      | (at_builtin
         refine wpList_append_zeros _ rfl _ _ 24 3 rfl w8.heap.size 3 i0 Tryz.underlying24 Tryz.underlying3 hi hz0 hz1 hz2 (.slice A9 nb c9) nb (ints b) (by simp [Act.eval,Act.put]) X9.out.1 q (by simp [Act.eval,Act.put]) (by omega) X9.out.2.size ?_
         intro v10 w10 hown10 hgrow10
         have X10:Aside (w10.ownsRow w8.heap.size 3 1 v10 nf (ints Lf)∧Below w8.heap.size w8 w10):=by
           refine ⟨?_,X9.out.2.grown hgrow10 X9.out.2.size (fun j hj=>(X9.out.1.lt j hj).1)⟩
           have:=hown10
           rw [hqf.out,show List.replicate q (Value.int .i64 0) = ints (List.replicate q 0) by simp [ints],← ints_append,HLf.out] at this
           exact this
         obtain ⟨A10,c10,rfl⟩:=own_form X10.out.1
         clear hown10 hgrow10
         obtain ⟨W11,hW11,K11⟩:∃ W11,w10.alloc (Obj.cells #[.int .i64 0] 3) = W11∧Aside (Blk3 W11 w4.heap.size (.bool tn) (.slice A4 tl.length c4) (.int .i64 ts)∧DBox W11 (w.heap.size + 1) (.bool false) (.slice none 0 0) (.bool false) (.slice none 0 0) ∧
             IsInts W11 (.slice (some ⟨w10.heap.size,0,none⟩) 1 1) [0]∧IsInts W11 (.slice A10 nf c10) Lf∧Below w6.heap.size w6 W11∧w6.heap.size ≤ w10.heap.size∧From w6.heap.size (.slice A10 nf c10)):=by
           have b10:Below w6.heap.size w6 w10:=X8.out.2.trans (X10.out.2.mono X8.out.2.size)
           have b11:=b10.alloc b10.size (Obj.cells #[.int .i64 0] 3)
           refine ⟨_,rfl,HK6.out _ b11,(HZ.out _ (B6.trans (b11.mono B6.size))).2,⟨_,_,rfl,by decide,by decide,fun _=>⟨_,_,rfl,fun j hj=>?_⟩⟩,?_,b11,b10.size,fun q hq=>by have:=(X10.out.1.lt q hq).1; have:=X8.out.2.size; omega⟩
           · obtain rfl:j = 0:=by simpa using hj
             rw [cell_of_row _ w10.heap.size 0 _ _ _ (heap_alloc_new w10 _)]
             rfl
           · exact (IsInts.of_own (l:=Lf) (by rw [HNF.out]; exact X10.out.1)).alloc (Obj.cells #[.int .i64 0] 3)
         have r0:=K11.out.1.c0
         have y0:=K11.out.2.1.c0
         have y1:=K11.out.2.1.c1
         have y2:=K11.out.2.1.c2
         have y3:=K11.out.2.1.c3
         have yf:=K11.out.2.1.fz))
    refine bodyPost_ret_by (results_cell_two (by rfl) _ _ (w.heap.size + 1) _ _ _ _ _ rfl rfl (DBox.setAll K11.out.2.1 (.bool tn) (.slice (some ⟨w10.heap.size,0,none⟩) 1 1) (.bool (decide (0 < nf))) (.slice A10 nf c10)) Tryz.underlying63 rfl (by kernel_rfl)) rfl ?_
    have f1:From w6.heap.size (.slice (some ⟨w10.heap.size,0,none⟩) 1 1):=fun q hq=>(show w10.heap.size = q by simpa [Value.ownBlock] using hq) ▸ K11.out.2.2.2.2.2.1
    have f2:=K11.out.2.2.2.2.2.2
    rw [hDD.out]
    exact ⟨.slice (some ⟨w10.heap.size,0,none⟩) 1 1, .slice A10 nf c10,rfl,K11.out.2.2.1.set4 f1 (by omega) _ _ _ _,K11.out.2.2.2.1.set4 f2 (by omega) _ _ _ _,fun q hq=>by have:=f1 q hq; omega,fun q hq=>by have:=f2 q hq; omega,
      Below.set4 (HB.out.trans ((B6.trans (K11.out.2.2.2.2.1.mono B6.size)).mono (by omega))) (by omega) _ _ _ _⟩
  · have hDD:Hid (D = ⟨tn,Li,decide (0 < nf),Lf⟩):=by
      show _ = _
      rw [HDE.out,if_neg (fun h=>by have h1:=HNI.out; have h2:=HNF.out; rw [h.1] at h1; rw [h.2] at h2; simp at h1 h2; omega)]
    have hz3:¬ ((ni + nf:Nat):Int) = 0:=by omega
    clear HDE
    go_wp2_with (first
      | (at_make
         refine wpList_make_full _ rfl _ _ 24 rfl w6.heap.size 3 i0 (.int .i64 0) 1 Tryz.underlying24 hi hz0 hz1 .i64 .i64 _ _ p rfl rfl rfl rfl (by rw [hz2]; omega) (by unfold maxLen; omega) (by simp) ?_
         intro w7 hown7 hgrow7
         have X7:Aside (w7.ownsRow w6.heap.size 3 1 (.slice (some ⟨w6.heap.size,0,none⟩) p p) p (ints (List.replicate p 0))∧Below w6.heap.size w6 w7):=by
           refine ⟨?_,(Below.refl _ w6).grown hgrow7 (Nat.le_refl _) (fun k h=>by cases h)⟩
           have:=hown7
           rw [madeCells_one] at this
           simpa [ints] using this
         clear hown7 hgrow7)
      | (at_builtin
         refine wpList_append_ints _ rfl _ _ 24 rfl w6.heap.size 3 i0 Tryz.underlying24 hi hz0 hz1 hz2 (.slice (some ⟨w6.heap.size,0,none⟩) p p) p (ints (List.replicate p 0)) (by simp [Act.eval,Act.put]) X7.out.1 (.slice Aa na ca) a (by simp [Act.eval,Act.put]) (HIa.out _ X7.out.2) hle1.out X7.out.2.size ?_
         intro v8 w8 hown8 hgrow8
         have X8:Aside (w8.ownsRow w6.heap.size 3 1 v8 ni (ints Li)∧Below w6.heap.size w6 w8):=by
           refine ⟨by have:=hown8; rw [hpa.out,← ints_append,HLi.out] at this; exact this,X7.out.2.grown hgrow8 X7.out.2.size (fun j hj=>(X7.out.1.lt j hj).1)⟩
         obtain ⟨A8,c8,rfl⟩:=own_form X8.out.1
         clear hown8 hgrow8)
      | (go_at_call 71
         refine (HC.out _ _ (HIb.out _ X8.out.2)).mono ?_
         rintro e w9 ⟨v9,rfl,o9,b9⟩
         obtain ⟨A9,c9,rfl⟩:=own_form o9
         have X9:Aside (w9.ownsRow w8.heap.size 3 1 (.slice A9 nb c9) nb (ints b)∧Below w8.heap.size w8 w9):=⟨o9,b9⟩
         clear o9 b9)
      | (at_builtin
         refine wpList_append_zeros _ rfl _ _ 24 3 rfl w8.heap.size 3 i0 Tryz.underlying24 Tryz.underlying3 hi hz0 hz1 hz2 (.slice A9 nb c9) nb (ints b) (by simp [Act.eval,Act.put]) X9.out.1 q (by simp [Act.eval,Act.put]) (by omega) X9.out.2.size ?_
         intro v10 w10 hown10 hgrow10
         have X10:Aside (w10.ownsRow w8.heap.size 3 1 v10 nf (ints Lf)∧Below w8.heap.size w8 w10):=by
           refine ⟨?_,X9.out.2.grown hgrow10 X9.out.2.size (fun j hj=>(X9.out.1.lt j hj).1)⟩
           have:=hown10
           rw [hqf.out,show List.replicate q (Value.int .i64 0) = ints (List.replicate q 0) by simp [ints],← ints_append,HLf.out] at this
           exact this
         obtain ⟨A10,c10,rfl⟩:=own_form X10.out.1
         clear hown10 hgrow10
         obtain ⟨N10,K11⟩:∃ N,N = w10.heap.size∧Aside (Blk3 w10 w4.heap.size (.bool tn) (.slice A4 tl.length c4) (.int .i64 ts)∧DBox w10 (w.heap.size + 1) (.bool false) (.slice none 0 0) (.bool false) (.slice none 0 0) ∧
             IsInts w10 (.slice A8 ni c8) Li∧IsInts w10 (.slice A10 nf c10) Lf∧Below w6.heap.size w6 w10∧From w6.heap.size (.slice A8 ni c8)∧From w6.heap.size (.slice A10 nf c10)):=by
           have b10:Below w6.heap.size w6 w10:=X8.out.2.trans (X10.out.2.mono X8.out.2.size)
           refine ⟨_,rfl,HK6.out _ b10,(HZ.out _ (B6.trans (b10.mono B6.size))).2,?_,?_,b10,fun q hq=>(X8.out.1.lt q hq).1,fun q hq=>by have:=(X10.out.1.lt q hq).1; have:=X8.out.2.size; omega⟩
           · exact (IsInts.of_own (l:=Li) (by rw [HNI.out]; exact X8.out.1)).below X10.out.2 (Nat.le_refl _)
           · exact IsInts.of_own (l:=Lf) (by rw [HNF.out]; exact X10.out.1)
         have r0:=K11.2.out.1.c0
         have y0:=K11.2.out.2.1.c0
         have y1:=K11.2.out.2.1.c1
         have y2:=K11.2.out.2.1.c2
         have y3:=K11.2.out.2.1.c3
         have yf:=K11.2.out.2.1.fz))
    refine bodyPost_ret_by (results_cell_two (by rfl) _ _ (w.heap.size + 1) _ _ _ _ _ rfl rfl (DBox.setAll K11.2.out.2.1 (.bool tn) (.slice A8 ni c8) (.bool (decide (0 < nf))) (.slice A10 nf c10)) Tryz.underlying63 rfl (by kernel_rfl)) rfl ?_
    have f1:=K11.2.out.2.2.2.2.2.1
    have f2:=K11.2.out.2.2.2.2.2.2
    rw [hDD.out]
    exact ⟨.slice A8 ni c8, .slice A10 nf c10,rfl,K11.2.out.2.2.1.set4 f1 (by omega) _ _ _ _,K11.2.out.2.2.2.1.set4 f2 (by omega) _ _ _ _,fun q hq=>by have:=f1 q hq; omega,fun q hq=>by have:=f2 q hq; omega,
      Below.set4 (HB.out.trans ((B6.trans (K11.2.out.2.2.2.2.1.mono B6.size)).mono (by omega))) (by omega) _ _ _ _⟩
end Go.Proofs.YteiomfgehlojeaaGreatDoor
end
section
namespace Go.Proofs.YteiomfgehlojeaaGreatDoor
open Go.RowKit
set_option maxRecDepth 100000 in
set_option maxHeartbeats 4000000 in
theorem dDec_any (vi vf:Value) (d:Dr) (w:World) (h:DrOK w vi vf d) :
    Calls Tryz.prog 37 #[drv vi vf d] w fun e w'=>∃ sl,e = .returned (dv sl (trimD ⟨d.neg,d.int ++ d.frac,d.frac.length⟩))∧IsInts w' sl (trimD ⟨d.neg,d.int ++ d.frac,d.frac.length⟩).l∧From w.heap.size sl∧Below w.heap.size w w':=by
  obtain ⟨td,htd⟩:∃ td,trimD ⟨d.neg,d.int ++ d.frac,d.frac.length⟩ = td:=⟨_,rfl⟩
  rw [htd]
  obtain ⟨W2,hW2,s2,z1,z2,hB2⟩:∃ W2,(w.alloc (Obj.cells #[.bool d.neg,vi, .bool d.sep,vf] 63)).alloc (Obj.cells #[.bool false, .slice none 0 0, .int .i64 0] 73) = W2∧W2.heap.size = w.heap.size + 2 ∧
      DBox W2 w.heap.size (.bool d.neg) vi (.bool d.sep) vf∧Blk3 W2 (w.heap.size + 1) (.bool false) (.slice none 0 0) (.int .i64 0)∧Below w.heap.size w W2:=by
    refine ⟨_,rfl,by simp,(heap_alloc_old _ _ (by simp)).trans (DBox.new w _ _ _ _),?_,((Below.refl _ w).alloc (Nat.le_refl _) _).alloc (by simp) _⟩
    have:=Blk3.new (w.alloc (Obj.cells #[.bool d.neg,vi, .bool d.sep,vf] 63)) (.bool false) (.slice none 0 0) (.int .i64 0)
    simpa using this
  have I1:=fun W (hB:Below W2.heap.size W2 W)=>(h.ii.below hB2 (Nat.le_refl _)).below hB (Nat.le_refl _)
  have I2:=fun W (hB:Below W2.heap.size W2 W)=>(h.jf.below hB2 (Nat.le_refl _)).below hB (Nat.le_refl _)
  have l1:=h.li
  have l2:=h.lf
  have hT:=fun W X (i:IsInts W X (d.int ++ d.frac))=>decTrim_any X ⟨d.neg,d.int ++ d.frac,d.frac.length⟩ W i (by simp; omega) (by show d.frac.length ≤ 1000; omega)
  rw [htd] at hT
  have hC:=fun W g (a:Below W2.heap.size W2 W) (hu:W.cell? ⟨g,0,none⟩ = some vi) (hv:W.cell? ⟨g,1,none⟩ = some vf)=>concat_any g vi vf d.int d.frac W hu hv (I1 W a) (I2 W a) (by omega) (by omega)
  obtain ⟨n,li,sp,lf⟩:=d
  simp only [drv,dv] at *
  obtain ⟨nb,hnb⟩:∃ n,lf.length = n:=⟨_,rfl⟩
  obtain ⟨Ab,cb,rfl⟩:∃ A c,vf = .slice A nb c:=by obtain ⟨A,c,h⟩:=h.jf.form; exact ⟨A,c,by rw [h,← hnb]⟩
  obtain ⟨na,hna⟩:∃ n,li.length = n:=⟨_,rfl⟩
  obtain ⟨Aa,ca,rfl⟩:∃ A c,vi = .slice A na c:=by obtain ⟨A,c,h⟩:=h.ii.form; exact ⟨A,c,by rw [h,← hna]⟩
  obtain ⟨M,hM⟩:∃ M,(li ++ lf).length = M:=⟨_,rfl⟩
  rw [hM] at hC
  rw [hnb] at hT
  have HM:=Lib.hid hM
  have HW:=Lib.hid hW2
  have HT:=Lib.hid hT
  have HC:=Lib.hid hC
  have HZ:=Lib.hid (fun W (hB:Below W2.heap.size W2 W)=>And.intro (z1.below hB (by omega)) (z2.below hB (by omega)))
  have HB:=Lib.hid hB2
  have q0:=z1.c0
  have q1:=z1.c1
  have q3:=z1.c3
  clear hW2 I1 I2 hT hC z1 z2 hB2 h htd hM hna hnb l1 l2
  go_enter Tryz.func37,Tryz.ntmps37
  go_wp2_with fail
  rw [HW.out]
  have hlt:w.heap.size < W2.heap.size:=by omega
  have bx:Below W2.heap.size W2 ((W2.alloc (Obj.cells #[.slice Aa na ca, .slice Ab nb cb] 24)).drew):=by
    have:=(Below.refl W2.heap.size W2).alloc (Nat.le_refl _) (Obj.cells #[.slice Aa na ca, .slice Ab nb cb] 24)
    exact ⟨this.os,this.tape,this.output,this.size,this.block⟩
  have HCx:=Lib.hid (HC.out ((W2.alloc (Obj.cells #[.slice Aa na ca, .slice Ab nb cb] 24)).drew) (w.heap.size + 2) bx
    (by rw [← s2]; show (W2.alloc _).cell? _ = _; rw [cell_of_row _ _ 0 _ _ _ (heap_alloc_new W2 _)]; rfl)
    (by rw [← s2]; show (W2.alloc _).cell? _ = _; rw [cell_of_row _ _ 1 _ _ _ (heap_alloc_new W2 _)]; rfl))
  have HBX:=Lib.hid bx
  clear bx
  go_region_held3 (fun w'=>w'.cell? ⟨w.heap.size,0,none⟩ = some (.bool n)∧w'.cell? ⟨w.heap.size,1,none⟩ = some (.slice Aa na ca)∧w'.cell? ⟨w.heap.size,3,none⟩ = some (.slice Ab nb cb))
    (first
      | go_keep
      | (go_split_ands
         refine ⟨?_,?_,?_⟩
         · first | (rw [b5.cell (p:=⟨w.heap.size,0,none⟩) hlt]; assumption) | (rw [b3.cell (p:=⟨w.heap.size,0,none⟩) hlt]; assumption)
         · first | (rw [b5.cell (p:=⟨w.heap.size,1,none⟩) hlt]; assumption) | (rw [b3.cell (p:=⟨w.heap.size,1,none⟩) hlt]; assumption)
         · first | (rw [b5.cell (p:=⟨w.heap.size,3,none⟩) hlt]; assumption) | (rw [b3.cell (p:=⟨w.heap.size,3,none⟩) hlt]; assumption)))
    (first
      | (go_at_call 75
         refine HCx.out.mono ?_
         rintro e w3 ⟨v3,rfl,o3,b3'⟩
         have b3:Below W2.heap.size W2 w3:=HBX.out.trans (b3'.mono HBX.out.size)
         obtain ⟨A3,c3,rfl⟩:=own_form o3
         have i3:=Lib.hid (IsInts.of_own (l:=li ++ lf) (by rw [HM.out]; exact o3))
         clear o3 b3')
      | (go_at_call 21
         refine (HT.out w3 _ i3.out).mono ?_
         rintro e w5 ⟨v5,rfl,i5,f5,b5'⟩
         obtain ⟨A5,c5,rfl⟩:=i5.form
         have h3s:=b3.size
         have b5:Below W2.heap.size W2 w5:=b3.trans (b5'.mono h3s)
         have X5:Aside (IsInts w5 (.slice A5 td.l.length c5) td.l∧From w3.heap.size (.slice A5 td.l.length c5)∧Below W2.heap.size W2 w5):=⟨i5,f5,b5⟩
         have Z5:=(HZ.out _ b5).2
         have e0:=Z5.c0
         have e1:=Z5.c1
         have e2:=Z5.c2
         have ef:=Z5.fz
         have HZ5:=Lib.hid Z5
         clear i5 f5 b5' Z5))
  go_wp2
  refine bodyPost_ret_by (results_cell_row (by rfl) _ _ (w.heap.size + 1) _ _ _ _ rfl (HZ5.out.setAll _ _ _) Tryz.underlying73 rfl (by kernel_rfl)) rfl ?_
  obtain ⟨i5,f5,b5⟩:=X5.out
  refine ⟨.slice A5 td.l.length c5,rfl,?_,fun q hq=>?_,Below.set3 (HB.out.trans (b5.mono (by omega))) (by omega) _ _ _⟩
  · exact i5.set3 f5 (by omega) _ _ _
  · have:=f5 q hq
    omega
end Go.Proofs.YteiomfgehlojeaaGreatDoor
end
section
namespace Go.Proofs.YteiomfgehlojeaaGreatDoor
open Go.RowKit Go.Sym
theorem eMay_any (vi vf:Value) (d:Dr) (w:World) (h:DrOK w vi vf d) :
    Calls Tryz.prog 31 #[.agg #[.bool d.neg,vi, .bool d.sep,vf, .int .i64 0, .int .i64 0]] w fun e w'=>e = .returned (.bool true)∧Below w.heap.size w w':=by
  let L:=drAl 4 d ++ [(200,Value.int .i64 (atomsL d).length)]
  have hA:HasR (bas w L) (.at_ 32) 4 (.at_ 36) 5 d:=hasR_dr (k:=4) (by decide) rfl rfl rfl rfl
  have h':Ent2OK (bas w L) Tryz.prog ⟨31,[.agg [.at_ 32, .ls 4, .at_ 36, .ls 5, .val (.int .i64 0), .val (.int .i64 0)]], .val (.bool true)⟩:=by
    refine run_mk (by kernel_rfl) rfl (T:=tbL [⟨.leq, .lit (.int .i64 0), .atom 200, .lit (.bool true)⟩] [] [] []) (tbL_ok (consF ?_ nilF) nilF nilF nilF)
      (orc:=ent2A [⟨68,[drG (.at_ 32) 4 (.at_ 36) 5], .val (.bool true)⟩,⟨149,[drG (.at_ 32) 4 (.at_ 36) 5], .at_ 200⟩]) (ent2_ok ?_) ⟨⟨hA.n.wf,wf_ls hA.l,hA.s.wf,wf_ls hA.r,trivial,trivial,trivial⟩,trivial⟩ trivial (by kernel_rfl)
    · exact binI (x:=0) (y:=((atomsL d).length:Int)) rfl rfl rfl (run_leqI (by simp))
    · refine consF (ent_mk [drA hA] (scR (.val (.bool true)) rfl) ?_) (consF (ent_mk [drA hA] (scR (.atm (v:=.int .i64 (atomsL d).length) rfl) rfl) ?_) nilF)
      · rintro w _ ⟨_,_,rfl,⟨vi,vf,rfl,h1,h2⟩,rfl⟩
        exact (drMay_any vi vf d w ⟨h1,h2,h.di,h.df,h.li,h.lf,h.sp⟩).mono (by rintro e w' ⟨rfl,hb⟩; exact ⟨_,rfl,rfl,hb⟩)
      · rintro w _ ⟨_,_,rfl,⟨vi,vf,rfl,h1,h2⟩,rfl⟩
        exact (dLen_any vi vf d w ⟨h1,h2,h.di,h.df,h.li,h.lf,h.sp⟩).mono (by rintro e w' ⟨rfl,hb⟩; exact ⟨_,rfl,rfl,hb⟩)
  refine (h'.2 w (bas_under _ _ _) [.agg #[.bool d.neg,vi, .bool d.sep,vf, .int .i64 0, .int .i64 0]] ⟨_,_,rfl,⟨_,rfl,_,_,rfl,hA.n.inn rfl,_,_,rfl,to_ls' hA.l h.ii (fun _ _ _=>trivial),_,_,rfl,hA.s.inn rfl,_,_,rfl,to_ls' hA.r h.jf (fun _ _ _=>trivial),_,_,rfl,rfl,_,_,rfl,rfl,rfl⟩,rfl⟩).mono ?_
  rintro e w' ⟨x,rfl,hx,hb⟩
  exact ⟨by rw [show x = .bool true from hx],hb⟩
def goodD (n:Bool) (l:List Int) (s:Int) (m:Nat):Dc:=⟨n,goodL l m,(aroundI s 10).toNat⟩
theorem rdGood_any (v:Value) (n:Bool) (l:List Int) (s:Int) (m:Nat) (w:World) (h:IsInts w v l) (hb:∀ x ∈ l,-9223372036854775808 ≤ x∧x ≤ 9223372036854775807) (h1:-9223372036854775808 ≤ s) (h2:s ≤ 9223372036854775807) (hm:m ≤ 1000) :
    Calls Tryz.prog 27 #[.agg #[.bool n,v, .int .i64 s], .int .i64 m] w fun e w'=>∃ sl,e = .returned (dv sl (goodD n l s m))∧IsInts w' sl (goodD n l s m).l∧From' w.heap.size sl (goodD n l s m).l∧Below w.heap.size w w':=by
  have ha:=aroundI_bd s 10 (by omega)
  have hs:((aroundI s 10).toNat:Int) = aroundI s 10:=by omega
  let L:=lAl 1 l ++ [(200,Value.bool n),(204,Value.int .i64 s),(208,Value.int .i64 m),(212,Value.int .i64 ((aroundI s 10).toNat:Int))] ++ lAl 3 (goodL l m)
  have h1':HasL (bas w L) 1 l:=⟨by decide,rfl⟩
  have hR:HasG (bas w L) (.at_ 200) 3 (.at_ 212) (goodD n l s m):=⟨⟨by decide,rfl⟩, .atm rfl, .atm rfl⟩
  have h':Ent2OK (bas w L) Tryz.prog ⟨27,[.agg [.at_ 200, .ls 1, .at_ 204], .at_ 208],decG (.at_ 200) 3 (.at_ 212)⟩:=by
    refine run_mk (by kernel_rfl) rfl (T:=tbL [] [] [] []) (tbL_ok nilF nilF nilF nilF)
      (orc:=ent2A [⟨29,[.ls 1, .at_ 208], .ls 3⟩,⟨12,[.at_ 204, .val (.int .i64 10)], .at_ 212⟩]) (ent2_ok ?_) ⟨⟨⟨_,rfl⟩,wf_ls h1',⟨_,rfl⟩,trivial⟩,⟨_,rfl⟩,trivial⟩ hR.wf (by kernel_rfl)
    refine consF (ent_mk [lsA h1',scA (.atm (v:=.int .i64 m) rfl)] (lsR hR.l) ?_) (consF (ent_mk [scA (.atm (v:=.int .i64 s) rfl),scA (.val (.int .i64 10))] (scR (.atm (v:=.int .i64 ((aroundI s 10).toNat:Int)) rfl) rfl) ?_) nilF)
    · rintro w _ ⟨v,_,rfl,hv,_,_,rfl,rfl,rfl⟩
      exact (rfGood_any v _ m w hv hb hm).mono (by rintro e w' ⟨sl,rfl,ho,hb⟩; exact ⟨_,rfl,⟨IsInts.of_own ho,own_far ho (Nat.le_refl _)⟩,hb⟩)
    · rintro w _ ⟨_,_,rfl,rfl,_,_,rfl,rfl,rfl⟩
      exact (around_any s 10 w h1 h2 (by omega) (by omega)).mono (by rintro e w' ⟨rfl,rfl⟩; exact ⟨_,rfl,(by show Value.int .i64 _ = Value.int .i64 _; rw [hs]),Below.refl _ _⟩)
  refine (h'.2 w (bas_under _ _ _) [.agg #[.bool n,v, .int .i64 s], .int .i64 m] ⟨_,_,rfl,⟨_,rfl,_,_,rfl,⟨rfl,rfl⟩,_,_,rfl,to_ls' h1' h (fun _ _ _=>trivial),_,_,rfl,⟨rfl,rfl⟩,rfl⟩,_,_,rfl,⟨rfl,rfl⟩,rfl⟩).mono ?_
  rintro e w' ⟨x,rfl,hx,hb⟩
  obtain ⟨sl,rfl,hi,hf⟩:=hR.out2 hx
  exact ⟨sl,rfl,hi,hf,hb⟩
end Go.Proofs.YteiomfgehlojeaaGreatDoor
end
section
namespace Go.Proofs.YteiomfgehlojeaaGreatDoor
open Go.RowKit
def txt (l:List Int):List UInt8:=l.map fun d=>UInt8.ofNat (48 + d.toNat)
theorem txt_len (l:List Int):(txt l).length = l.length:=by simp [txt]
theorem txt_append (a b:List Int):txt (a ++ b) = txt a ++ txt b:=by simp [txt]
theorem txt_succ (l:List Int) (k:Nat) (h:k < l.length):txt (l.take (k + 1)) = txt (l.take k) ++ [UInt8.ofNat (48 + (l.getD k 0).toNat)]:=by
  rw [List.take_succ_eq_append_getElem h,txt_append]
  simp [txt,List.getD_eq_getElem?_getD,h]
theorem ba_ext' {a b:ByteArray} (h:a.data.toList = b.data.toList):a = b:=by
  cases a; cases b
  congr
  exact Array.toList_inj.1 h
theorem ba_app' (a b:List UInt8):(⟨a.toArray⟩:ByteArray) ++ (⟨b.toArray⟩:ByteArray) = ⟨(a ++ b).toArray⟩:=by
  apply ba_ext'
  simp
theorem conv1 (W:World) (y:Nat):(convert 195 9 (.slice (some ⟨W.heap.size,0,none⟩) 1 1)).run Tryz.prog (W.alloc (Obj.cells #[.int .u8 (y:Int)] 5)) = .ok (.string ⟨([UInt8.ofNat y]:List UInt8).toArray⟩) (W.alloc (Obj.cells #[.int .u8 (y:Int)] 5)):=by
  have hc:∀ i,i < 1→(W.alloc (Obj.cells #[.int .u8 (y:Int)] 5)).cell? ⟨W.heap.size,0 + i,none⟩ = some (.int .u8 (([(y:Int)]:List Int).getD i 0)):=by
    intro i hi
    obtain rfl:i = 0:=by omega
    rw [cell_of_row _ W.heap.size 0 _ _ _ (heap_alloc_new W _)]
    rfl
  have:=run_convert_bytes_arg (P:=Tryz.prog) (W.alloc (Obj.cells #[.int .u8 (y:Int)] 5)) 195 5 Tryz.underlying195 Tryz.underlying5 W.heap.size 0 1 1 [(y:Int)] rfl hc 9 Tryz.underlying9
  rw [this]
  simp [strOfNums]
set_option maxRecDepth 100000 in
set_option maxHeartbeats 2000000 in
theorem rfText_any (v:Value) (l:List Int) (w:World) (h:IsInts w v l) (hd:Dg l) (hl:l.length ≤ 10000) :
    Calls Tryz.prog 67 #[v] w fun e w'=>e = .returned (.string ⟨(txt l).toArray⟩)∧Below w.heap.size w w':=by
  obtain ⟨A,c,rfl,hlc,hcm,hA⟩:=h
  by_cases h0:0 < l.length
  · obtain ⟨b,off,rfl,hcell⟩:=hA h0
    have HC:Hid (∀ W':World,Below w.heap.size w W'→∀ j,j < l.length→W'.cell? ⟨b,off + j,none⟩ = some (.int .i64 (l.getD j 0))):=by
      intro W' hb j hj
      have:=hcell j hj
      rw [hb.cell (p:=⟨b,off + j,none⟩) (World.block_lt_of_cell? _ _ this)]
      exact this
    have HD:=Lib.hid hd
    clear hA hcell hd
    go_enter Tryz.func67,Tryz.ntmps67
    go_wp2
    go_loopw [3,4] (fun s i wr=>∃ k:Nat,i = .int .i64 k∧k ≤ l.length∧s = .string ⟨(txt (l.take k)).toArray⟩∧Aside (Below w.heap.size w wr)) (fun _ i _=>l.length - (intOf i).toNat)
    case atStart=>exact ⟨0,rfl,by omega,rfl,Below.refl _ _⟩
    case round =>
      obtain ⟨k,rfl,hk,rfl,HX⟩:=hrel
      by_cases hlt:k < l.length
      · have d0:=HC.out wr HX.out k hlt
        have hx:=HD.out.getD k
        have hsn:=txt_succ l k hlt
        obtain ⟨x,hxe⟩:∃ x,l.getD k 0 = x:=⟨_,rfl⟩
        rw [hxe] at d0 hx hsn
        obtain ⟨hx0,hx9⟩:=hx
        have htl:(txt (l.take k)).length ≤ 10000:=by rw [txt_len]; have:=List.length_take_le k l; omega
        obtain ⟨js,hjs⟩:∃ js,txt (l.take k) = js:=⟨_,rfl⟩
        rw [hjs] at hsn htl ⊢
        have HSN:=Lib.hid hsn
        have hw1:IntKind.i64.wrap (48 + x) = 48 + x:=wrap_in _ (by omega) (by omega)
        obtain ⟨y,hy⟩:∃ y,(48 + x).toNat = y:=⟨_,rfl⟩
        have hy2:48 + x = (y:Int):=by omega
        have hyb:y < 256:=by omega
        have hw2:IntKind.u8.wrap (48 + x) = 48 + x:=by simp [IntKind.wrap,IntKind.bits,IntKind.signed]; omega
        clear hxe hsn hjs hy
        have HYE:=Lib.hid (show 48 + x.toNat = y by omega)
        have hcv:=Lib.hid (fun W=>conv1 W y)
        go_wp2
        rw [hcv.out]
        go_wp2
        go_roundw
        case rel =>
          refine ⟨k + 1,by go_num,by omega,?_,HX.out.alloc HX.out.size _⟩
          rw [HSN.out,HYE.out,← ba_app']
        case measure=>simp [intOf]; omega
      · obtain rfl:k = l.length:=by omega
        have he:Hid (txt (l.take l.length) = txt l):=by show _ = _; rw [List.take_length]
        go_wp2
        go_ret
        exact ⟨by rw [he.out]; rfl,HX.out⟩
  · have hl0:l = []:=List.eq_nil_of_length_eq_zero (by omega)
    subst hl0
    clear hA
    go_enter Tryz.func67,Tryz.ntmps67
    go_wp2
    refine wp_loop_rounds 1 ?_
    rw [rounds_succ]
    go_wp2
    go_ret
    exact ⟨rfl,Below.refl _ _⟩
end Go.Proofs.YteiomfgehlojeaaGreatDoor
end
section
namespace Go.Proofs.YteiomfgehlojeaaGreatDoor
open Go.RowKit
def prB (d:Dc):List UInt8 :=
  if 0 < d.s then (txt (wideL d.l (d.s + 1))).take ((wideL d.l (d.s + 1)).length - d.s) ++ [46] ++ (txt (wideL d.l (d.s + 1))).drop ((wideL d.l (d.s + 1)).length - d.s) else txt (wideL d.l (d.s + 1))
def prL (d:Dc):List UInt8:=if d.neg = true then 45 :: prB d else prB d
def sLen:Value→Nat
  | .string b=>b.size
  | _=>0
theorem size_mk (l:List UInt8):(⟨l.toArray⟩:ByteArray).size = l.length:=by simp [ByteArray.size]
theorem extract_mk (l:List UInt8) (i j:Nat):(⟨l.toArray⟩:ByteArray).extract i j = ⟨((l.take j).drop i).toArray⟩:=by
  apply ba_ext'
  simp [ByteArray.data_extract,List.drop_take]
set_option maxRecDepth 100000 in
set_option maxHeartbeats 2000000 in
theorem rdPrint_any (v:Value) (d:Dc) (w:World) (ha:IsInts w v d.l) (da:Dg d.l) (la:d.l.length ≤ 100) (hs:d.s ≤ 100) :
    Calls Tryz.prog 28 #[dv v d] w fun e w'=>e = .returned (.string ⟨(prL d).toArray⟩)∧Below w.heap.size w w':=by
  obtain ⟨W1,hW1⟩:∃ W1,w.alloc (Obj.cells #[.bool d.neg,v, .int .i64 d.s] 26) = W1:=⟨_,rfl⟩
  have hs1:W1.heap.size = w.heap.size + 1:=by rw [← hW1]; simp
  have z1:Bq3 W1 w.heap.size (.bool d.neg) v (.int .i64 d.s):=by rw [← hW1]; exact Bq3.new _ _ _ _
  have hB1:Below w.heap.size w W1:=by rw [← hW1]; exact (Below.refl _ w).alloc (Nat.le_refl _) _
  have hMay:=rdMay_any v d W1 (ha.below hB1 (Nat.le_refl _)) da (by omega)
  have hTx:=fun W (hB:Below W1.heap.size W1 W)=>rfText_any v d.l W ((ha.below hB1 (Nat.le_refl _)).below hB (Nat.le_refl _)) da (by omega)
  obtain ⟨R,hR⟩:∃ R,prL d = R:=⟨_,rfl⟩
  rw [hR]
  have HRR:=Lib.hid (show (if d.neg = true then 45 :: prB d else prB d) = R from hR)
  unfold prB at HRR
  obtain ⟨X,hX⟩:∃ X,wideL d.l (d.s + 1) = X:=⟨_,rfl⟩
  rw [hX] at HRR
  have hXl:X.length = max d.l.length (d.s + 1):=by rw [← hX]; exact wideL_len _ _
  have HXE:=Lib.hid (show List.replicate (d.s + 1 - d.l.length) 0 ++ d.l = X from hX)
  obtain ⟨n,l,s⟩:=d
  simp only [dv] at *
  have HW:=Lib.hid hW1
  have HM:=Lib.hid hMay
  have HT:=Lib.hid hTx
  have HZ:=Lib.hid (fun W (hB:Below W1.heap.size W1 W)=>(z1.below hB (by omega)).bx)
  have HB:=Lib.hid hB1
  have q0:=z1.c0
  have q1:=z1.c1
  have q2:=z1.c2
  obtain ⟨A,c,rfl⟩:=ha.form
  obtain ⟨M,hM⟩:∃ M,X.length = M:=⟨_,rfl⟩
  rw [hM] at hXl HRR
  have HMM:=Lib.hid hM
  have hMb:M ≤ 101:=by omega
  have hMs:s ≤ M:=by omega
  have HXL:=Lib.hid hXl
  clear hW1 hMay hTx z1 hB1 ha da hR hX hXl hM
  go_enter Tryz.func28,Tryz.ntmps28
  go_wp2_with fail
  rw [HW.out]
  go_wp2_with fail
  refine HM.out.mono ?_
  rintro e w3 ⟨rfl,b3⟩
  have Z3:=HZ.out _ b3
  have p1:=Z3.c1
  clear q0 q1 q2 Z3
  go_wp2_with fail
  refine (HT.out w3 b3).mono ?_
  rintro e w4 ⟨rfl,b4'⟩
  have b4:=b3.trans (b4'.mono b3.size)
  have Z4:=HZ.out _ b4
  have r0:=Z4.c0
  have r2:=Z4.c2
  clear p1 Z4 b4' b3
  go_wp2_with fail
  go_loop [4] (fun t=>∃ (S:ByteArray) (k:Nat),t = .string S∧S.size = k∧k ≤ 500∧Aside (∃ z,S = ⟨(txt (List.replicate z 0 ++ l)).toArray⟩∧k = z + l.length∧(z = 0∨k ≤ s + 1))) (fun t=>s + 1 - sLen t)
  case atStart=>exact ⟨_,l.length,rfl,by rw [size_mk,txt_len],by omega,0,by simp,by omega, .inl rfl⟩
  case round =>
    obtain ⟨S,k,rfl,hsz,hk5,HA⟩:=hrel
    have hw1:IntKind.i64.wrap ((s:Int) + 1) = ((s + 1:Nat):Int):=by rw [wrap_in _ (by omega) (by omega)]; omega
    by_cases hlt:k < s + 1
    · have HSZ:Hid ((⟨#[48]⟩ ++ S:ByteArray).size = k + 1):=by show _ = _; rw [ByteArray.size_append,hsz,show (⟨#[48]⟩:ByteArray).size = 1 from rfl]; omega
      go_wp2
      go_round
      case rel =>
        refine ⟨_,k + 1,rfl,HSZ.out,by omega,?_⟩
        obtain ⟨z,h1,h2,h3⟩:=HA.out
        refine ⟨z + 1,?_,by omega, .inr (by omega)⟩
        rw [h1,show (⟨#[48]⟩:ByteArray) = ⟨([48]:List UInt8).toArray⟩ from rfl,ba_app',List.replicate_succ,List.cons_append]
        rfl
      case measure =>
        simp only [sLen]
        rw [HSZ.out,hsz]
        omega
    · have hk:Hid (k = M∧S = ⟨(txt X).toArray⟩):=by
        obtain ⟨z,h1,h2,h3⟩:=HA.out
        have h4:=HXL.out
        refine ⟨by omega,?_⟩
        rw [h1,← HXE.out,show z = s + 1 - l.length by omega]
      have hkM:=hk.out.1
      subst hkM
      have HS:=Lib.hid hk.out.2
      obtain ⟨a,hae⟩:∃ a,k - s = a:=⟨_,rfl⟩
      have hw2:IntKind.i64.wrap ((k:Int) - (s:Int)) = (a:Int):=by rw [wrap_in _ (by omega) (by omega)]; omega
      have HAE:=Lib.hid hae
      have hak:a ≤ k:=by omega
      clear hk hae hw1
      have hBB:=Lib.hid (HB.out.trans (b4.mono (by omega)))
      clear b4
      have E1:Hid (S.extract 0 a ++ (⟨#[46]⟩:ByteArray) ++ S.extract a k = ⟨((txt X).take a ++ [46] ++ (txt X).drop a).toArray⟩):=by
        show _ = _
        have hXk:(txt X).length = k:=by rw [txt_len,HMM.out]
        rw [HS.out,extract_mk,extract_mk,show (⟨#[46]⟩:ByteArray) = ⟨([46]:List UInt8).toArray⟩ from rfl,ba_app',ba_app',List.take_of_length_le (show (txt X).length ≤ k by omega),List.drop_zero]
      rcases Nat.eq_zero_or_pos s with hs0 | hs0
      · subst hs0
        cases n
        · have hres:Hid (R = txt X):=by show _ = _; rw [← HRR.out]; simp
          go_wp2
          go_ret
          exact ⟨by rw [hres.out,← HS.out]; rfl,hBB.out⟩
        · have hres:Hid (R = 45 :: txt X):=by show _ = _; rw [← HRR.out]; simp
          go_wp2
          go_ret
          refine ⟨?_,hBB.out⟩
          rw [hres.out,HS.out]
          show Ending.returned (.string ((⟨([45]:List UInt8).toArray⟩:ByteArray) ++ ⟨(txt X).toArray⟩)) = _
          rw [ba_app']
          rfl
      · cases n
        · have hres:Hid (R = (txt X).take a ++ [46] ++ (txt X).drop a):=by show _ = _; rw [← HRR.out,HAE.out]; simp [hs0]
          go_wp2
          go_quiet (fail)
          go_wp2
          go_ret
          exact ⟨by rw [hres.out,← E1.out]; rfl,⟨hBB.out.os,hBB.out.tape,hBB.out.output,hBB.out.size,hBB.out.block⟩⟩
        · have hres:Hid (R = 45 :: ((txt X).take a ++ [46] ++ (txt X).drop a)):=by show _ = _; rw [← HRR.out,HAE.out]; simp [hs0]
          have E2:Hid ((⟨#[45]⟩:ByteArray) ++ (S.extract 0 a ++ (⟨#[46]⟩:ByteArray) ++ S.extract a k) = ⟨(45 :: ((txt X).take a ++ [46] ++ (txt X).drop a)).toArray⟩):=by
            show _ = _
            rw [E1.out,show (⟨#[45]⟩:ByteArray) = ⟨([45]:List UInt8).toArray⟩ from rfl,ba_app']
            rfl
          go_wp2
          go_quiet (fail)
          go_wp2
          go_ret
          exact ⟨by rw [hres.out,← E2.out]; rfl,⟨hBB.out.os,hBB.out.tape,hBB.out.output,hBB.out.size,hBB.out.block⟩⟩
end Go.Proofs.YteiomfgehlojeaaGreatDoor
end
section
namespace Go.Proofs.YteiomfgehlojeaaGreatDoor
open Go.RowKit
theorem info_u8:(Tryz.prog.info? 5).map (fun i=>(i.zero,i.size,i.bytes)) = some (some (.int .u8 0),1,1):=by kernel_rfl
def u8s (l:List Int) (n k:Nat):List Value:=(l.take k).map (fun d=>Value.int .u8 (48 + d)) ++ List.replicate (n - k) (.int .u8 0)
theorem u8s_len (l:List Int) (n k:Nat) (hk:k ≤ n) (hl:l.length = n):(u8s l n k).length = n:=by
  unfold u8s
  simp
  omega
theorem u8s_set (l:List Int) (n k:Nat) (hk:k < n) (hl:l.length = n):(u8s l n k).set k (.int .u8 (48 + l.getD k 0)) = u8s l n (k + 1):=by
  unfold u8s
  have h1:((l.take k).map (fun d=>Value.int .u8 (48 + d))).length = k:=by simp; omega
  rw [List.take_succ_eq_append_getElem (by omega),List.map_append,show n - k = (n - (k + 1)) + 1 by omega,List.replicate_succ,List.set_append_right _ _ (by omega),h1,Nat.sub_self,List.set_cons_zero]
  simp [List.getD_eq_getElem?_getD,show k < l.length by omega]
theorem str_txt (l:List Int) (h:Dg l):strOfNums (l.map (fun d=>48 + d)) = ⟨(txt l).toArray⟩:=by
  unfold strOfNums txt
  congr 2
  rw [List.map_map]
  apply List.map_congr_left
  intro d hd
  have:=h d hd
  show UInt8.ofNat (48 + d).toNat = _
  congr 1
  omega
theorem made8 (n:Nat):(madeCells (Value.int .u8 0).cells (n * 1)).toList = List.replicate n (Value.int .u8 0):=by
  have h:(Value.int .u8 0).cells = #[Value.int .u8 0]:=rfl
  rw [h]
  apply List.ext_getElem
  · simp [madeCells]
  · intro i h1 h2
    simp [madeCells,Nat.mod_one]
theorem u8s_nil (l:List Int) (n:Nat):u8s l n 0 = List.replicate n (.int .u8 0):=by simp [u8s]
theorem u8s_all (l:List Int):u8s l l.length l.length = l.map (fun d=>Value.int .u8 (48 + d)):=by simp [u8s]
theorem conv8 (W:World) (g n:Nat) (l:List Int) (hl:l.length = n) (h:W.heap[g]? = some (.cells (u8s l n n).toArray 5 (0,0))) (hd:Dg l) :
    (convert 195 9 (.slice (some ⟨g,0,none⟩) n n)).run Tryz.prog W = .ok (.string ⟨(txt l).toArray⟩) W:=by
  subst hl
  have hc:∀ i,i < l.length→W.cell? ⟨g,0 + i,none⟩ = some (.int .u8 ((l.map (fun d=>48 + d)).getD i 0)):=by
    intro i hi
    rw [cell_of_row W g (0 + i) _ _ _ h,u8s_all]
    simp [List.getD_eq_getElem?_getD,hi]
  have:=run_convert_bytes_arg (P:=Tryz.prog) W 195 5 Tryz.underlying195 Tryz.underlying5 g 0 l.length l.length (l.map (fun d=>48 + d)) (by simp) hc 9 Tryz.underlying9
  rw [this,str_txt l hd]
set_option maxRecDepth 100000 in
set_option maxHeartbeats 2000000 in
theorem dText_any (v:Value) (l:List Int) (w:World) (h:IsInts w v l) (hd:Dg l) (hl:l.length ≤ 10000) :
    Calls Tryz.prog 73 #[v] w fun e w'=>e = .returned (.string ⟨(txt l).toArray⟩)∧Below w.heap.size w w':=by
  obtain ⟨i0,hi,hz0,hz1,hz2⟩:=info_parts info_u8
  have HM:=Lib.hid (dmay_any v l w h hd)
  have HI:=Lib.hid h
  obtain ⟨n,hn⟩:∃ n,l.length = n:=⟨_,rfl⟩
  have HD:=Lib.hid hd
  have HN:=Lib.hid hn
  obtain ⟨A,c,rfl,hlc,hcm,hA⟩:=h
  rw [hn] at HM HI hl hA ⊢
  by_cases h0:0 < n
  · obtain ⟨b,off,rfl,hcell⟩:=hA h0
    have HC:Hid (∀ W':World,Below w.heap.size w W'→∀ j,j < n→W'.cell? ⟨b,off + j,none⟩ = some (.int .i64 (l.getD j 0))):=by
      intro W' hb j hj
      have:=hcell j hj
      rw [hb.cell (p:=⟨b,off + j,none⟩) (World.block_lt_of_cell? _ _ this)]
      exact this
    clear hd hn hA hcell hlc
    go_enter Tryz.func73,Tryz.ntmps73
    go_wp2_with (first
      | (go_at_call 148; refine HM.out.mono ?_; rintro e w' ⟨rfl,rfl⟩)
      | (at_make
         refine wpList_make_full _ rfl _ _ 195 rfl w.heap.size 5 i0 (.int .u8 0) 1 Tryz.underlying195 hi hz0 hz1 .i64 .i64 _ _ n rfl rfl rfl rfl (by rw [hz2]; omega) (by unfold maxLen; omega) (by simp) ?_
         intro w5 hown hgrow))
    rw [made8] at hown
    have HR:Hid (w5.heap[w.heap.size]? = some (.cells (u8s l n 0).toArray 5 (0,0))):=by show _ = _; rw [u8s_nil]; exact row_of_own hown
    have HB:Hid (Below w.heap.size w w5):=(Below.refl _ w).grown hgrow (Nat.le_refl _) (fun k h=>by cases h)
    clear hown hgrow
    go_loopw [14] (fun i wr=>∃ k:Nat,i = .int .i64 k∧k ≤ n∧Aside (wr.heap[w.heap.size]? = some (.cells (u8s l n k).toArray 5 (0,0))∧Below w.heap.size w wr)) (fun i _=>n - (intOf i).toNat)
    case atStart=>exact ⟨0,rfl,by omega,HR.out,HB.out⟩
    case round =>
      obtain ⟨k,rfl,hk,HX⟩:=hrel
      by_cases hlt:k < n
      · have d0:=HC.out wr HX.out.2 k hlt
        have hx:=HD.out.getD k
        have hset:=Lib.hid (u8s_set l n k hlt HN.out)
        obtain ⟨x,hxe⟩:∃ x,l.getD k 0 = x:=⟨_,rfl⟩
        rw [hxe] at d0 hx hset
        obtain ⟨hx0,hx9⟩:=hx
        have hw1:IntKind.i64.wrap (48 + x) = 48 + x:=wrap_in _ (by omega) (by omega)
        have hw2:IntKind.u8.wrap (48 + x) = 48 + x:=by simp [IntKind.wrap,IntKind.bits,IntKind.signed]; omega
        obtain ⟨vk,hvk⟩:∃ vk,(u8s l n k)[k]? = some vk:=⟨_,List.getElem?_eq_getElem (by rw [u8s_len l n k hk HN.out]; exact hlt)⟩
        have dk:wr.cell? ⟨w.heap.size,k,none⟩ = some vk:=by rw [cell_of_row wr w.heap.size k _ _ _ HX.out.1]; simpa using hvk
        have fz:wr.frozen? ⟨w.heap.size,k,none⟩ = false:=frz_of_row HX.out.1 k
        clear hvk hxe
        go_wp2_with fail
        go_roundw
        case rel =>
          refine ⟨k + 1,by go_num,by omega,?_,HX.out.2.setCell (p:=⟨w.heap.size,k,none⟩) (Nat.le_refl _) _⟩
          have:=heap_set1 wr w.heap.size k (.int .u8 (48 + x)) _ _ _ HX.out.1
          rw [this,← hset.out]
          simp
        case measure=>simp [intOf]; omega
      · obtain rfl:k = n:=by omega
        have hcv:=Lib.hid (conv8 wr w.heap.size k l HN.out HX.out.1 HD.out)
        go_wp2_with fail
        rw [hcv.out]
        go_wp2_with fail
        go_ret
        exact ⟨rfl,HX.out.2⟩
  · have hl0:l = []:=List.eq_nil_of_length_eq_zero (by omega)
    obtain rfl:n = 0:=by omega
    subst hl0
    clear hd hn hA hlc h0
    go_enter Tryz.func73,Tryz.ntmps73
    go_wp2_with (first
      | (go_at_call 148; refine HM.out.mono ?_; rintro e w' ⟨rfl,rfl⟩)
      | (at_make
         refine wpList_make_full _ rfl _ _ 195 rfl w.heap.size 5 i0 (.int .u8 0) 1 Tryz.underlying195 hi hz0 hz1 .i64 .i64 _ _ 0 rfl rfl rfl rfl (by rw [hz2]; omega) (by unfold maxLen; omega) (by simp) ?_
         intro w5 hown hgrow))
    rw [made8] at hown
    have HR:=row_of_own hown
    have HB:Hid (Below w.heap.size w w5):=(Below.refl _ w).grown hgrow (Nat.le_refl _) (fun k h=>by cases h)
    have hcv:=Lib.hid (conv8 w5 w.heap.size 0 [] rfl HR (fun d h=>by cases h))
    clear hown hgrow HR
    refine wp_loop_rounds 1 ?_
    rw [rounds_succ]
    go_wp2_with fail
    rw [hcv.out]
    go_wp2_with fail
    go_ret
    exact ⟨rfl,HB.out⟩
end Go.Proofs.YteiomfgehlojeaaGreatDoor
end
section
namespace Go.Proofs.YteiomfgehlojeaaGreatDoor
open Go.RowKit
theorem Dg.wideL {l:List Int} (h:Dg l) (n:Nat):Dg (wideL l n):=by
  intro d hd
  rcases List.mem_append.1 hd with hd | hd
  · obtain rfl:=List.eq_of_mem_replicate hd
    omega
  · exact h d hd
set_option maxRecDepth 100000 in
set_option maxHeartbeats 2000000 in
theorem dPrint_any (v:Value) (d:Dc) (w:World) (ha:IsInts w v d.l) (da:Dg d.l) (la:d.l.length ≤ 100) (hs:d.s ≤ 99) :
    Calls Tryz.prog 36 #[dv v d] w fun e w'=>e = .returned (.string ⟨(prL d).toArray⟩)∧Below w.heap.size w w':=by
  obtain ⟨W1,hW1⟩:∃ W1,w.alloc (Obj.cells #[.bool d.neg,v, .int .i64 d.s] 73) = W1:=⟨_,rfl⟩
  have hs1:W1.heap.size = w.heap.size + 1:=by rw [← hW1]; simp
  have z1:Blk3 W1 w.heap.size (.bool d.neg) v (.int .i64 d.s):=by rw [← hW1]; exact Blk3.new _ _ _ _
  have hB1:Below w.heap.size w W1:=by rw [← hW1]; exact (Below.refl _ w).alloc (Nat.le_refl _) _
  have hMay:=decMay_any v d W1 (ha.below hB1 (Nat.le_refl _)) da (by omega)
  have hWd:=fun W (hB:Below W1.heap.size W1 W)=>wide_any v d (d.s + 1) W ((ha.below hB1 (Nat.le_refl _)).below hB (Nat.le_refl _)) la (by omega)
  obtain ⟨R,hR⟩:∃ R,prL d = R:=⟨_,rfl⟩
  rw [hR]
  have HRR:=Lib.hid (show (if d.neg = true then 45 :: prB d else prB d) = R from hR)
  unfold prB at HRR
  have HDX:=Lib.hid (da.wideL (d.s + 1))
  obtain ⟨X,hX⟩:∃ X,wideL d.l (d.s + 1) = X:=⟨_,rfl⟩
  rw [hX] at HRR HDX hWd
  have hXl:X.length = max d.l.length (d.s + 1):=by rw [← hX]; exact wideL_len _ _
  obtain ⟨n,l,s⟩:=d
  simp only [dv] at *
  have HW:=Lib.hid hW1
  have HM:=Lib.hid hMay
  have HT:=Lib.hid hWd
  have HZ:=Lib.hid (fun W (hB:Below W1.heap.size W1 W)=>And.intro (z1.below hB (by omega)).c0 (And.intro (z1.below hB (by omega)).c1 (z1.below hB (by omega)).c2))
  have HB:=Lib.hid hB1
  have q0:=z1.c0
  have q1:=z1.c1
  have q2:=z1.c2
  obtain ⟨A,c,rfl⟩:=ha.form
  obtain ⟨k,hM⟩:∃ M,X.length = M:=⟨_,rfl⟩
  rw [hM] at hXl HRR
  have HMM:=Lib.hid hM
  have hMb:k ≤ 101:=by omega
  have hMs:s ≤ k:=by omega
  have HTX:=fun v W (h:IsInts W v X)=>dText_any v X W h HDX.out (by rw [hM]; omega)
  have HTX:=Lib.hid HTX
  have hw1:IntKind.i64.wrap ((s:Int) + 1) = ((s + 1:Nat):Int):=by rw [wrap_in _ (by omega) (by omega)]; omega
  obtain ⟨a,hae⟩:∃ a,k - s = a:=⟨_,rfl⟩
  have hw2:IntKind.i64.wrap ((k:Int) - (s:Int)) = (a:Int):=by rw [wrap_in _ (by omega) (by omega)]; omega
  have HAE:=Lib.hid hae
  have hak:a ≤ k:=by omega
  have hsz:(⟨(txt X).toArray⟩:ByteArray).size = k:=by rw [size_mk,txt_len,hM]
  have E1:Hid ((⟨(txt X).toArray⟩:ByteArray).extract 0 a ++ (⟨#[46]⟩:ByteArray) ++ (⟨(txt X).toArray⟩:ByteArray).extract a k = ⟨((txt X).take a ++ [46] ++ (txt X).drop a).toArray⟩):=by
    show _ = _
    have hXk:(txt X).length = k:=by rw [txt_len,hM]
    rw [extract_mk,extract_mk,show (⟨#[46]⟩:ByteArray) = ⟨([46]:List UInt8).toArray⟩ from rfl,ba_app',ba_app',List.take_of_length_le (show (txt X).length ≤ k by omega),List.drop_zero]
  have E0:Hid (txt X = txt X):=rfl
  clear hW1 hMay hWd z1 hB1 ha da hR hX hXl hM hae
  go_enter Tryz.func36,Tryz.ntmps36
  go_wp2_with fail
  rw [HW.out]
  go_wp2_with fail
  refine HM.out.mono ?_
  rintro e w3 ⟨rfl,b3⟩
  obtain ⟨p0,p1,p2⟩:=HZ.out _ b3
  clear q0 q1 q2
  go_wp2_with fail
  refine (HT.out w3 b3).mono ?_
  rintro e w4 ⟨v4,rfl,own4,b4'⟩
  have i4:Hid (IsInts w4 v4 X):=IsInts.of_own own4
  obtain ⟨A4,c4,rfl⟩:=i4.out.form
  have b4:=b3.trans (b4'.mono b3.size)
  clear p0 p1 p2 own4 b4' b3
  go_wp2_with fail
  refine (HTX.out _ w4 i4.out).mono ?_
  rintro e w5 ⟨rfl,b5'⟩
  have b5:=b4.trans (b5'.mono b4.size)
  obtain ⟨p0,p1,p2⟩:=HZ.out _ b5
  have hBB:=Lib.hid (HB.out.trans (b5.mono (by omega)))
  obtain ⟨S,hS⟩:∃ S:ByteArray,(⟨(txt X).toArray⟩:ByteArray) = S:=⟨_,rfl⟩
  rw [hS] at hsz E1 ⊢
  have HS:=Lib.hid hS.symm
  clear b4 b5 b5' hS
  rcases Nat.eq_zero_or_pos s with hs0 | hs0
  · subst hs0
    cases n
    · have hres:Hid (R = txt X):=by show _ = _; rw [← HRR.out]; simp
      go_wp2
      go_ret
      exact ⟨by rw [hres.out,← HS.out]; rfl,hBB.out⟩
    · have hres:Hid (R = 45 :: txt X):=by show _ = _; rw [← HRR.out]; simp
      go_wp2
      go_ret
      refine ⟨?_,hBB.out⟩
      rw [hres.out,HS.out]
      show Ending.returned (.string ((⟨([45]:List UInt8).toArray⟩:ByteArray) ++ ⟨(txt X).toArray⟩)) = _
      rw [ba_app']
      rfl
  · cases n
    · have hres:Hid (R = (txt X).take a ++ [46] ++ (txt X).drop a):=by show _ = _; rw [← HRR.out,HAE.out]; simp [hs0]
      go_wp2
      go_quiet (fail)
      go_wp2
      go_ret
      exact ⟨by rw [hres.out,← E1.out]; rfl,⟨hBB.out.os,hBB.out.tape,hBB.out.output,hBB.out.size,hBB.out.block⟩⟩
    · have hres:Hid (R = 45 :: ((txt X).take a ++ [46] ++ (txt X).drop a)):=by show _ = _; rw [← HRR.out,HAE.out]; simp [hs0]
      have E2:Hid ((⟨#[45]⟩:ByteArray) ++ (S.extract 0 a ++ (⟨#[46]⟩:ByteArray) ++ S.extract a k) = ⟨(45 :: ((txt X).take a ++ [46] ++ (txt X).drop a)).toArray⟩):=by
        show _ = _
        rw [E1.out,show (⟨#[45]⟩:ByteArray) = ⟨([45]:List UInt8).toArray⟩ from rfl,ba_app']
        rfl
      go_wp2
      go_quiet (fail)
      go_wp2
      go_ret
      exact ⟨by rw [hres.out,← E2.out]; rfl,⟨hBB.out.os,hBB.out.tape,hBB.out.output,hBB.out.size,hBB.out.block⟩⟩
end Go.Proofs.YteiomfgehlojeaaGreatDoor
end
section
namespace Go.Proofs.YteiomfgehlojeaaGreatDoor
open Go.RowKit
set_option maxRecDepth 100000 in
set_option maxHeartbeats 2000000 in
theorem dParse_any (l:List Int) (w:World) (hd:Dg l) (hl:l.length ≤ 10000) :
    Calls Tryz.prog 41 #[.string ⟨(txt l).toArray⟩] w fun e w'=>∃ v',e = .returned (.tuple #[v', .int .i64 0])∧w'.ownsRow w.heap.size 3 1 v' l.length (ints l)∧Below w.heap.size w w':=by
  obtain ⟨i0,hi,hz0,hz1,hz2⟩:=info_parts info_int
  obtain ⟨n,hn⟩:∃ n,l.length = n:=⟨_,rfl⟩
  have HD:=Lib.hid hd
  have HN:=Lib.hid hn
  rw [hn] at hl ⊢
  have hsz:(⟨(txt l).toArray⟩:ByteArray).size = n:=by rw [size_mk,txt_len,hn]
  have HG:=Lib.hid (fun k (hk:k < n)=>show (⟨(txt l).toArray⟩:ByteArray).data[k]? = some (UInt8.ofNat (48 + (l.getD k 0).toNat)) by
    simp [txt,List.getD_eq_getElem?_getD,hn,hk])
  obtain ⟨S,hS⟩:∃ S:ByteArray,(⟨(txt l).toArray⟩:ByteArray) = S:=⟨_,rfl⟩
  rw [hS] at hsz HG ⊢
  clear hd hn hS
  go_enter Tryz.func41,Tryz.ntmps41
  go_wp2_with fail
  go_loopw [8,4] (fun i s wr=>∃ (k:Nat) (pv:Value),i = .int .i64 k∧s = pv∧k ≤ n∧Aside (wr.ownsRow w.heap.size 3 1 pv k (ints (l.take k))∧Below w.heap.size w wr)) (fun i _ _=>n - (intOf i).toNat)
  case atStart=>exact ⟨0,_,rfl,rfl,by omega,by simpa [ints] using World.ownsRow_nil w w.heap.size 3 1,Below.refl _ _⟩
  case round =>
    obtain ⟨k,pv,rfl,rfl,hk,HX⟩:=hrel
    by_cases hlt:k < n
    · have hx:=HD.out.getD k
      have hsn:Hid (ints (l.take (k + 1)) = ints (l.take k) ++ [.int .i64 (l.getD k 0)]):=by
        show _ = _
        have hkl:k < l.length:=by have:=HN.out; omega
        rw [List.take_succ_eq_append_getElem hkl,ints_append]
        simp [ints,List.getD_eq_getElem?_getD,hkl]
      obtain ⟨y,hy⟩:∃ y,48 + (l.getD k 0).toNat = y:=⟨_,rfl⟩
      have hks:k < S.size:=by rw [hsz]; exact hlt
      have hb:(S[k]'hks).toNat = y:=by
        have h1:=HG.out k hlt
        have h2:S.data[k]? = some (S[k]'hks):=by
          rw [Array.getElem?_eq_getElem (by simpa using hks)]
          rfl
        rw [h1] at h2
        injection h2 with h2
        rw [← h2,← hy]
        have hx':=hx
        simp at hx' ⊢
        omega
      have hxy:Hid (l.getD k 0 = (y:Int) - 48):=by show _ = _; omega
      have hy1:48 ≤ y:=by omega
      have hy2:y ≤ 57:=by omega
      clear hx hy
      obtain ⟨A,c,rfl⟩:=own_form HX.out.1
      go_wp2_with (first
        | (at_builtin
           refine wpList_append_own _ rfl _ _ 24 rfl w.heap.size 3 i0 (.int .i64 0) 1 8 Tryz.underlying24 hi hz0 hz1 hz2 rfl (by decide) (.slice A k c) k (ints (l.take k)) (by simp [Act.eval,Act.put]) (HX.out.1.alloc _) ⟨_,0,none⟩ 1 1 [.int .i64 ((y:Int) - 48)] rfl rfl (cell_one_new _ _ _) (fun x hx=>by simp at hx; subst hx; rfl) (by unfold maxLen; omega) (by omega) (by have:=HX.out.2.size; simp; omega) ?_
           intro v5 w5 hown5 hgrow5 hnil5
           have X5:Aside (w5.ownsRow w.heap.size 3 1 v5 (k + 1) (ints (l.take (k + 1)))∧Below w.heap.size w w5):=⟨by rw [hsn.out,hxy.out]; exact hown5,(HX.out.2.alloc HX.out.2.size _).grown hgrow5 (by have:=HX.out.2.size; simp; omega) (fun j hj=>by have:=(HX.out.1.lt j hj).1; omega)⟩
           clear hown5 hgrow5 hnil5))
      go_roundw
      case rel=>exact ⟨k + 1,_,by go_num,rfl,by omega,X5.out⟩
      case measure=>simp [intOf]; omega
    · obtain rfl:k = n:=by omega
      have he:Hid (l.take k = l):=by show _ = _; rw [← HN.out,List.take_length]
      go_wp2_with fail
      go_ret2
      exact ⟨_,rfl,by have:=HX.out.1; rw [he.out] at this; exact this,HX.out.2⟩
end Go.Proofs.YteiomfgehlojeaaGreatDoor
end
section
namespace Go.Proofs.YteiomfgehlojeaaGreatDoor
open Go.RowKit
theorem decode_txt (l:List Int) (hd:Dg l) (pos:Nat) (hp:pos < l.length):Utf8.decode ⟨(txt l).toArray⟩ pos = (48 + (l.getD pos 0).toNat,1):=by
  have hx:=hd.getD pos
  rw [Lib.decode_N]
  have e:((⟨(txt l).toArray⟩:ByteArray).data.toList.getD pos 0).toNat = 48 + (l.getD pos 0).toNat:=by
    simp [txt,List.getD_eq_getElem?_getD,hp] at hx ⊢
    omega
  rw [e]
  exact Lib.decodeN_ascii _ _ _ _ _ (by omega)
set_option maxRecDepth 100000 in
set_option maxHeartbeats 2000000 in
theorem digits_any (l:List Int) (w:World) (hd:Dg l) (hl:l.length ≤ 10000) (h0:0 < l.length) :
    Calls Tryz.prog 40 #[.string ⟨(txt l).toArray⟩] w fun e w'=>e = .returned (.bool true)∧Below w.heap.size w w':=by
  have HG:=Lib.hid (fun k (hk:k < l.length)=>decode_txt l hd k hk)
  have HX:=Lib.hid (fun k=>hd.getD k)
  have hsz:(⟨(txt l).toArray⟩:ByteArray).size = l.length:=by rw [size_mk,txt_len]
  obtain ⟨n,hn⟩:∃ n,l.length = n:=⟨_,rfl⟩
  rw [hn] at HG hsz hl h0
  obtain ⟨S,hS⟩:∃ S:ByteArray,(⟨(txt l).toArray⟩:ByteArray) = S:=⟨_,rfl⟩
  rw [hS] at hsz HG ⊢
  have hne:S.toList.isEmpty = false:=by
    rw [ByteArray.toList_eq]
    cases h:S.data.toList with
    | nil =>
      have this:S.data.toList.length = S.size:=Array.length_toList
      rw [h] at this
      have:0 = S.size:=this
      omega
    | cons a b=>rfl
  clear hd hn hS
  go_enter Tryz.func40,Tryz.ntmps40
  go_wp2_with fail
  go_loopw [] (fun wr=>∃ pos:Nat,wr.heap[w.heap.size]? = some (.stringIter S pos)∧Below w.heap.size w wr) (fun wr=>S.size - wr.iterPos w.heap.size)
  case atStart=>exact ⟨0,World.iter_heap w S 0,(Below.refl _ _).alloc (Nat.le_refl _) _⟩
  case round =>
    obtain ⟨pos,hit,hbw⟩:=hrel
    have hpos0:=iterPos_of hit
    by_cases hp:pos < S.size
    · have hnx:∀ ty,(Instr.next (.pointer (some ⟨w.heap.size,0,none⟩)) true ty).run Tryz.prog wr = _:=fun ty=>Lib.run_next_any_at wr w.heap.size S pos ty hit hp
      have hx:=HX.out pos
      obtain ⟨y,hy⟩:∃ y,48 + (l.getD pos 0).toNat = y:=⟨_,rfl⟩
      have hdc:Utf8.decode S pos = (y,1):=by rw [← hy]; exact HG.out pos (by omega)
      have hit2:=Lib.iterAt_heap wr w.heap.size S pos (pos + 1) hit
      have hbw2:=Lib.below_iterAt hbw (k:=w.heap.size) (Nat.le_refl _) S (pos + 1)
      simp only [hdc] at hnx
      have hy1:48 ≤ y:=by omega
      have hy2:y ≤ 57:=by omega
      obtain ⟨W1,hW1⟩:∃ W1,W1 = wr.iterAt w.heap.size S (pos + 1):=⟨_,rfl⟩
      rw [← hW1] at hnx hit2 hbw2
      have HP:=Lib.hid hpos0
      have X:Aside (W1.heap[w.heap.size]? = some (.stringIter S (pos + 1))∧Below w.heap.size w W1):=⟨hit2,hbw2⟩
      clear hW1 hit hbw hpos0 hx hy hdc hit2 hbw2
      go_wp2_with fail
      go_roundw
      case rel=>exact ⟨pos + 1,X.out.1,X.out.2⟩
      case measure=>rw [iterPos_of X.out.1,HP.out]; omega
    · have hnx:∀ ty,(Instr.next (.pointer (some ⟨w.heap.size,0,none⟩)) true ty).run Tryz.prog wr = _:=fun ty=>Lib.run_next_end_at wr w.heap.size S pos ty hit hp
      have HBW:=aside hbw
      clear hbw hit hpos0
      go_wp2_with fail
      go_ret
      exact ⟨rfl,HBW.out⟩
end Go.Proofs.YteiomfgehlojeaaGreatDoor
end
section
namespace Go.Proofs.YteiomfgehlojeaaGreatDoor
open Go.RowKit
def hasMinus (l:List UInt8):Bool:=match l with
  | []=>false
  | x :: _=>x == 45
set_option maxRecDepth 100000 in
set_option maxHeartbeats 2000000 in
theorem hasPrefix_any (l:List UInt8) (w:World) (hl:l.length ≤ 10000) (h0:0 < l.length) :
    Calls Tryz.prog 155 #[.string ⟨l.toArray⟩, .string ⟨#[45]⟩] w fun e w'=>e = .returned (.bool (hasMinus l))∧w = w':=by
  have hsz:(⟨l.toArray⟩:ByteArray).size = l.length:=size_mk l
  have he:(((⟨l.toArray⟩:ByteArray).extract 0 1).toList == [45]) = hasMinus l:=by
    rw [extract_mk,ByteArray.toList_eq]
    cases l with
    | nil=>rfl
    | cons x r =>
      show ([x] == [45]) = (x == 45)
      simp
  obtain ⟨r,hr⟩:∃ r,hasMinus l = r:=⟨_,rfl⟩
  rw [hr] at he ⊢
  obtain ⟨n,hn⟩:∃ n,l.length = n:=⟨_,rfl⟩
  rw [hn] at hsz hl h0
  obtain ⟨S,hS⟩:∃ S:ByteArray,(⟨l.toArray⟩:ByteArray) = S:=⟨_,rfl⟩
  rw [hS] at hsz he ⊢
  have HE:=Lib.hid he
  clear hn hS hr he
  have g1:(1:Int) ≤ (n:Int):=by omega
  go_enter Tryz.func155,Tryz.ntmps155
  go_wp2_with fail
  go_ret
  exact ⟨by show Ending.returned (Value.bool ((S.extract 0 1).toList == [45])) = _; rw [HE.out],rfl⟩
def noMinus (l:List UInt8):List UInt8:=if hasMinus l = true then l.drop 1 else l
set_option maxRecDepth 100000 in
set_option maxHeartbeats 2000000 in
theorem cutPrefix_lite (l:List UInt8) (w:World) (hl:l.length ≤ 10000) (h0:0 < l.length) :
    Calls Tryz.prog 76 #[.string ⟨l.toArray⟩, .string ⟨#[45]⟩] w fun e w'=>e = .returned (.tuple #[.string ⟨(noMinus l).toArray⟩, .bool (hasMinus l)])∧w = w':=by
  have H:=hasPrefix_any l w hl h0
  have hsz:(⟨l.toArray⟩:ByteArray).size = l.length:=size_mk l
  have he:hasMinus l = true→(⟨l.toArray⟩:ByteArray).extract 1 l.length = ⟨(noMinus l).toArray⟩:=by
    intro h
    unfold noMinus
    rw [if_pos h,extract_mk,List.take_of_length_le (Nat.le_refl _)]
  have hf:hasMinus l = false→noMinus l = l:=by intro h; unfold noMinus; rw [h]; rfl
  obtain ⟨r,hr⟩:∃ r,hasMinus l = r:=⟨_,rfl⟩
  rw [hr] at he hf H ⊢
  cases r
  · rw [hf rfl]
    obtain ⟨n,hn⟩:∃ n,l.length = n:=⟨_,rfl⟩
    rw [hn] at hsz hl h0
    obtain ⟨S,hS⟩:∃ S:ByteArray,(⟨l.toArray⟩:ByteArray) = S:=⟨_,rfl⟩
    rw [hS] at hsz H ⊢
    have HH:=Lib.hid H
    clear hn hS hr he hf H
    go_enter Tryz.func76,Tryz.ntmps76
    go_wp2_with (first | (go_at_call 155; refine HH.out.mono ?_; rintro e w' ⟨rfl,rfl⟩))
    go_ret2
    exact ⟨rfl,rfl⟩
  · have he':=he rfl
    obtain ⟨n,hn⟩:∃ n,l.length = n:=⟨_,rfl⟩
    rw [hn] at hsz hl h0 he'
    obtain ⟨T,hT⟩:∃ T:ByteArray,(⟨(noMinus l).toArray⟩:ByteArray) = T:=⟨_,rfl⟩
    rw [hT] at he' ⊢
    obtain ⟨S,hS⟩:∃ S:ByteArray,(⟨l.toArray⟩:ByteArray) = S:=⟨_,rfl⟩
    rw [hS] at hsz H he' ⊢
    have HH:=Lib.hid H
    have HE:=Lib.hid he'
    clear hn hS hr he hf H he' hT
    have g1:(1:Int) ≤ (n:Int):=by omega
    go_enter Tryz.func76,Tryz.ntmps76
    go_wp2_with (first | (go_at_call 155; refine HH.out.mono ?_; rintro e w' ⟨rfl,rfl⟩))
    go_ret2
    exact ⟨by rw [← HE.out]; rfl,rfl⟩
set_option maxRecDepth 100000 in
theorem cutPrefix_any (l:List UInt8) (w:World) (hl:l.length ≤ 10000) (h0:0 < l.length) :
    Calls Tryz.prog 38 #[.string ⟨l.toArray⟩, .string ⟨#[45]⟩] w fun e w'=>e = .returned (.tuple #[.string ⟨(noMinus l).toArray⟩, .bool (hasMinus l)])∧w = w':=by
  have H:=cutPrefix_lite l w hl h0
  obtain ⟨r,hr⟩:∃ r,hasMinus l = r:=⟨_,rfl⟩
  obtain ⟨T,hT⟩:∃ T:ByteArray,(⟨(noMinus l).toArray⟩:ByteArray) = T:=⟨_,rfl⟩
  obtain ⟨S,hS⟩:∃ S:ByteArray,(⟨l.toArray⟩:ByteArray) = S:=⟨_,rfl⟩
  rw [hr,hT,hS] at H ⊢
  have HH:=Lib.hid H
  clear H hr hT hS
  go_enter Tryz.func38,Tryz.ntmps38
  go_wp2_with (first | (go_at_call 76; refine HH.out.mono ?_; rintro e w' ⟨rfl,rfl⟩))
  go_ret2
  exact ⟨rfl,rfl⟩
end Go.Proofs.YteiomfgehlojeaaGreatDoor
end
section
namespace Go.Proofs.YteiomfgehlojeaaGreatDoor
open Go.RowKit
theorem index_pt:∀ (a b:List UInt8),(46:UInt8) ∉ a→Lib.index (a ++ 46 :: b) [46] = (a.length:Int)
  | [],b,_=>by
    unfold Lib.index
    simp [List.isPrefixOf]
  | x :: a,b,h=>by
    have h1:¬ (46:UInt8) = x:=fun e=>h (by rw [e]; exact List.mem_cons_self)
    have ih:=index_pt a b (fun hh=>h (List.mem_cons_of_mem _ hh))
    show Lib.index (x :: (a ++ 46 :: b)) [46] = _
    unfold Lib.index
    rw [ih]
    have h2:List.isPrefixOf [(46:UInt8)] (x :: (a ++ 46 :: b)) = false:=by simp [List.isPrefixOf,h1]
    rw [h2]
    have h3:((a.length:Int) == -1) = false:=by rw [beq_eq_false_iff_ne]; omega
    simp [h3]
theorem index_np:∀ (a:List UInt8),(46:UInt8) ∉ a→Lib.index a [46] = -1
  | [],_=>by
    unfold Lib.index
    rfl
  | x :: a,h=>by
    have h1:¬ (46:UInt8) = x:=fun e=>h (by rw [e]; exact List.mem_cons_self)
    have ih:=index_np a (fun hh=>h (List.mem_cons_of_mem _ hh))
    unfold Lib.index
    rw [ih]
    have h2:List.isPrefixOf [(46:UInt8)] (x :: a) = false:=by simp [List.isPrefixOf,h1]
    simp [h2]
theorem cut_pt (a b:List UInt8) (h:(46:UInt8) ∉ a):Lib.cut (a ++ [46] ++ b) [46] = (a,b,true):=by
  unfold Lib.cut
  rw [show a ++ [46] ++ b = a ++ 46 :: b by simp,index_pt a b h,if_pos (by omega)]
  simp
theorem cut_np (a:List UInt8) (h:(46:UInt8) ∉ a):Lib.cut a [46] = (a,[],false):=by
  unfold Lib.cut
  rw [index_np a h,if_neg (by omega)]
theorem txt_mem {l:List Int} (hd:Dg l) {c:UInt8} (h:c ∈ txt l):48 ≤ c.toNat∧c.toNat ≤ 57:=by
  obtain ⟨d,h1,rfl⟩:=List.mem_map.1 h
  have:=hd d h1
  simp
  omega
theorem txt_np {l:List Int} (hd:Dg l):(46:UInt8) ∉ txt l:=fun h=>by
  have:=txt_mem hd h
  have e:(46:UInt8).toNat = 46:=rfl
  omega
theorem txt_head {l:List Int} (hd:Dg l):hasMinus (txt l) = false:=by
  cases h:txt l with
  | nil=>rfl
  | cons x r =>
    have:=txt_mem hd (c:=x) (by rw [h]; exact List.mem_cons_self)
    show (x == 45) = false
    rw [beq_eq_false_iff_ne]
    intro e
    rw [e] at this
    have e2:(45:UInt8).toNat = 45:=rfl
    omega
theorem Dg.drop' {l:List Int} (h:Dg l) (n:Nat):Dg (l.drop n):=fun d hd=>h d (List.mem_of_mem_drop hd)
theorem txt_take (l:List Int) (n:Nat):(txt l).take n = txt (l.take n):=by simp [txt,List.map_take]
theorem txt_drop (l:List Int) (n:Nat):(txt l).drop n = txt (l.drop n):=by simp [txt,List.map_drop]
set_option maxRecDepth 100000 in
set_option maxHeartbeats 4000000 in
theorem decParse_core (neg pt:Bool) (a b:List Int) (T U:List UInt8) (mx:Int) (w:World) (hm:w.cell? ⟨1,0,none⟩ = some (.int .i64 mx)) (ha:Dg a) (hb:Dg b) (a0:0 < a.length) (la:a.length ≤ 300) (lb:b.length ≤ 300)
    (hU:U = if pt = true then txt a ++ [46] ++ txt b else txt a) (h1:noMinus T = U) (h2:hasMinus T = neg) (lT:T.length ≤ 1000) (T0:0 < T.length) (hp1:pt = true→0 < b.length) (hp0:pt = false→b = []) :
    Calls Tryz.prog 13 #[.string ⟨T.toArray⟩] w fun e w'=>∃ v',e = .returned (.tuple #[dv v' ⟨neg,a ++ b,b.length⟩, .int .i64 0])∧IsInts w' v' (a ++ b)∧From w.heap.size v'∧Below w.heap.size w w':=by
  obtain ⟨W1,hW1,z1,hB1,s1⟩:∃ W1,w.alloc (Obj.cells #[.bool false, .slice none 0 0, .int .i64 0] 73) = W1∧Blk3 W1 w.heap.size (.bool false) (.slice none 0 0) (.int .i64 0)∧Below w.heap.size w W1∧W1.heap.size = w.heap.size + 1 :=
    ⟨_,rfl,Blk3.new _ _ _ _,(Below.refl _ w).alloc (Nat.le_refl _) _,by simp⟩
  have hm1:W1.cell? ⟨1,0,none⟩ = some (.int .i64 mx):=(hB1.cell (p:=⟨1,0,none⟩) (World.block_lt_of_cell? w _ hm)).trans hm
  have hcp:=cutPrefix_any T W1 (by omega) T0
  rw [h1,h2] at hcp
  have hcut:Lib.cut U [46] = (txt a,txt b,pt):=by
    cases pt
    · rw [hU,if_neg (by simp),cut_np _ (txt_np ha),hp0 rfl]; rfl
    · rw [hU,if_pos rfl,cut_pt _ _ (txt_np ha)]
  have hUl:U.length ≤ 1000:=by
    rw [← h1]
    unfold noMinus
    split
    · simp; omega
    · omega
  have hct:=Tryz.strings_Cut ⟨U.toArray⟩ ⟨#[46]⟩ mx W1 (by rw [size_mk]; omega) hm1
  rw [show (⟨U.toArray⟩:ByteArray).data.toList = U from rfl,show (⟨#[46]⟩:ByteArray).data.toList = [46] from rfl,hcut] at hct
  simp only at hct
  have hda:=fun W=>digits_any a W ha (by omega) a0
  have hdb:=fun W (h:pt = true)=>digits_any b W hb (by omega) (hp1 h)
  have hpa:=fun W=>dParse_any (a ++ b) W (ha.append hb) (by simp; omega)
  rw [show (⟨(txt (a ++ b)).toArray⟩:ByteArray) = ⟨(txt a).toArray⟩ ++ ⟨(txt b).toArray⟩ by rw [txt_append,ba_app']] at hpa
  have sA:(⟨(txt a).toArray⟩:ByteArray).size = a.length:=by rw [size_mk,txt_len]
  have sB:(⟨(txt b).toArray⟩:ByteArray).size = b.length:=by rw [size_mk,txt_len]
  obtain ⟨M,hM⟩:∃ M,(a ++ b).length = M:=⟨_,rfl⟩
  rw [hM] at hpa
  have HM:=Lib.hid hM
  obtain ⟨na,hna⟩:∃ n,a.length = n:=⟨_,rfl⟩
  obtain ⟨nb,hnb⟩:∃ n,b.length = n:=⟨_,rfl⟩
  rw [hna] at sA la
  rw [hnb] at sB lb ⊢
  obtain ⟨SA,hSA⟩:∃ S:ByteArray,(⟨(txt a).toArray⟩:ByteArray) = S:=⟨_,rfl⟩
  obtain ⟨SB,hSB⟩:∃ S:ByteArray,(⟨(txt b).toArray⟩:ByteArray) = S:=⟨_,rfl⟩
  obtain ⟨ST,hST⟩:∃ S:ByteArray,(⟨T.toArray⟩:ByteArray) = S:=⟨_,rfl⟩
  obtain ⟨SU,hSU⟩:∃ S:ByteArray,(⟨U.toArray⟩:ByteArray) = S:=⟨_,rfl⟩
  rw [hSA] at sA hct hda hpa
  rw [hSB] at sB hct hdb hpa
  rw [hST] at hcp ⊢
  rw [hSU] at hcp hct
  have HCP:=Lib.hid hcp
  have HCT:=Lib.hid hct
  have HDA:=Lib.hid hda
  have HDD:=Lib.hid (fun (h:pt = true) W S (hS:S = SA∨S = SB)=>show Calls Tryz.prog 40 #[.string S] W fun e w'=>e = .returned (.bool true)∧Below W.heap.size W w' by
    rcases hS with rfl | rfl
    · exact hda W
    · exact hdb W h)
  have HPA:=Lib.hid hpa
  have HW:=Lib.hid hW1
  have HZ:=Lib.hid (fun W (hB:Below W1.heap.size W1 W)=>z1.below hB (by omega))
  have HB:=Lib.hid hB1
  clear hW1 z1 hB1 hm hm1 hcp hct hda hdb hpa ha hb a0 hU h1 h2 lT T0 hp1 hp0 hcut hUl hM hna hnb hSA hSB hST hSU
  cases pt
  · go_enter Tryz.func13,Tryz.ntmps13
    go_wp2_with fail
    rw [HW.out]
    go_wp2_with (first
      | (go_at_call 38; refine HCP.out.mono ?_; rintro e w' ⟨rfl,rfl⟩))
    go_wp2_with (first
      | (go_at_call 39; refine HCT.out.mono ?_; rintro e w2 ⟨rfl,n2,hw2⟩; have b2:Below W1.heap.size W1 w2:=(by rw [hw2]; exact below_drewN (Below.refl _ _) n2); clear hw2)
      | (go_at_call 40; refine (HDA.out _).mono ?_; rintro e w3 ⟨rfl,b3'⟩; have b3:=b2.trans (b3'.mono b2.size); clear b3')
      | (go_at_call 41; refine (HPA.out _).mono ?_; rintro e w5 ⟨v5, rfl, o5, b5'⟩
         obtain ⟨A5,c5,rfl⟩:=own_form o5
         have hsz5:=b3.size
         have b5:Below W1.heap.size W1 w5:=b3.trans (b5'.mono b3.size)
         have X5:Aside (IsInts w5 (.slice A5 M c5) (a ++ b)∧From (w.heap.size + 1) (.slice A5 M c5)∧Below W1.heap.size W1 w5∧Blk3 w5 w.heap.size (.bool false) (.slice none 0 0) (.int .i64 0)) :=
           ⟨IsInts.of_own (by rw [HM.out]; exact o5),fun q hq=>by have:=(o5.lt q hq).1; omega,b5,HZ.out _ b5⟩
         have e0:=X5.out.2.2.2.c0
         have e1:=X5.out.2.2.2.c1
         have e2:=X5.out.2.2.2.c2
         have ef:=X5.out.2.2.2.fz
         clear o5 b5'))
    refine bodyPost_ret_by (results_cell_two (by rfl) _ _ w.heap.size _ _ _ _ _ rfl rfl (X5.out.2.2.2.setAll (.bool neg) (.slice A5 M c5) (.int .i64 nb)) Tryz.underlying73 rfl (by kernel_rfl)) rfl ?_
    refine ⟨.slice A5 M c5,?_,X5.out.1.set3 (B:=w.heap.size + 1) X5.out.2.1 (by omega) _ _ _,fun q hq=>by have:=X5.out.2.1 q hq; omega,Below.set3 (HB.out.trans (X5.out.2.2.1.mono (by omega))) (Nat.le_refl _) _ _ _⟩
    rfl
  · go_enter Tryz.func13,Tryz.ntmps13
    go_wp2_with fail
    rw [HW.out]
    go_wp2_with (first
      | (go_at_call 38; refine HCP.out.mono ?_; rintro e w' ⟨rfl,rfl⟩))
    go_wp2_with (first
      | (go_at_call 39; refine HCT.out.mono ?_; rintro e w2 ⟨rfl,n2,hw2⟩; have b2:Below W1.heap.size W1 w2:=(by rw [hw2]; exact below_drewN (Below.refl _ _) n2); clear hw2))
    refine (HDA.out _).mono ?_
    rintro e w3 ⟨rfl,b3'⟩
    have b3:=b2.trans (b3'.mono b2.size)
    clear b3'
    go_wp2_with fail
    refine (HDD.out (by trivial) _ _ (.inr rfl)).mono ?_
    rintro e w4 ⟨rfl,b4'⟩
    have b4:=b3.trans (b4'.mono b3.size)
    clear b4'
    go_wp2_with (first
      | (go_at_call 41; refine (HPA.out _).mono ?_; rintro e w5 ⟨v5, rfl, o5, b5'⟩
         obtain ⟨A5,c5,rfl⟩:=own_form o5
         have hsz5:=b4.size
         have b5:Below W1.heap.size W1 w5:=b4.trans (b5'.mono b4.size)
         have X5:Aside (IsInts w5 (.slice A5 M c5) (a ++ b)∧From (w.heap.size + 1) (.slice A5 M c5)∧Below W1.heap.size W1 w5∧Blk3 w5 w.heap.size (.bool false) (.slice none 0 0) (.int .i64 0)) :=
           ⟨IsInts.of_own (by rw [HM.out]; exact o5),fun q hq=>by have:=(o5.lt q hq).1; omega,b5,HZ.out _ b5⟩
         have e0:=X5.out.2.2.2.c0
         have e1:=X5.out.2.2.2.c1
         have e2:=X5.out.2.2.2.c2
         have ef:=X5.out.2.2.2.fz
         clear o5 b5'))
    refine bodyPost_ret_by (results_cell_two (by rfl) _ _ w.heap.size _ _ _ _ _ rfl rfl (X5.out.2.2.2.setAll (.bool neg) (.slice A5 M c5) (.int .i64 nb)) Tryz.underlying73 rfl (by kernel_rfl)) rfl ?_
    refine ⟨.slice A5 M c5,?_,X5.out.1.set3 (B:=w.heap.size + 1) X5.out.2.1 (by omega) _ _ _,fun q hq=>by have:=X5.out.2.1 q hq; omega,Below.set3 (HB.out.trans (X5.out.2.2.1.mono (by omega))) (Nat.le_refl _) _ _ _⟩
    rfl
end Go.Proofs.YteiomfgehlojeaaGreatDoor
end
section
namespace Go.Proofs.YteiomfgehlojeaaGreatDoor
open Go.RowKit
theorem prB_eq (d:Dc):prB d = if decide (0 < d.s) = true then txt ((wideL d.l (d.s + 1)).take ((wideL d.l (d.s + 1)).length - d.s)) ++ [46] ++ txt ((wideL d.l (d.s + 1)).drop ((wideL d.l (d.s + 1)).length - d.s)) else txt ((wideL d.l (d.s + 1)).take ((wideL d.l (d.s + 1)).length - d.s)):=by
  unfold prB
  by_cases h:0 < d.s
  · rw [if_pos h,if_pos (decide_eq_true h),txt_take,txt_drop]
  · rw [if_neg h,if_neg (by simpa using h),List.take_of_length_le (by omega)]
theorem hasMinus_app (a:List Int) (r:List UInt8) (ha:Dg a) (h0:0 < a.length):hasMinus (txt a ++ r) = false:=by
  cases a with
  | nil=>exact absurd h0 (Nat.lt_irrefl _)
  | cons x l =>
    have:=txt_head ha
    exact this
theorem decParse_any (d:Dc) (mx:Int) (w:World) (hm:w.cell? ⟨1,0,none⟩ = some (.int .i64 mx)) (da:Dg d.l) (la:d.l.length ≤ 100) (hs:d.s ≤ 99) :
    Calls Tryz.prog 13 #[.string ⟨(prL d).toArray⟩] w fun e w'=>∃ v',e = .returned (.tuple #[dv v' ⟨d.neg,wideL d.l (d.s + 1),d.s⟩, .int .i64 0])∧IsInts w' v' (wideL d.l (d.s + 1))∧From w.heap.size v'∧Below w.heap.size w w':=by
  have hX:=da.wideL (d.s + 1)
  have hL:=wideL_len d.l (d.s + 1)
  have hB:=prB_eq d
  obtain ⟨X,hXe⟩:∃ X,wideL d.l (d.s + 1) = X:=⟨_,rfl⟩
  rw [hXe] at hX hL hB ⊢
  have hl1:(X.take (X.length - d.s)).length = X.length - d.s:=by simp
  have hl2:(X.drop (X.length - d.s)).length = d.s:=by simp; omega
  have hmB:hasMinus (prB d) = false:=by
    rw [hB]
    split
    · rw [List.append_assoc]; exact hasMinus_app _ _ (hX.take _) (by omega)
    · have:=hasMinus_app _ [] (hX.take (X.length - d.s)) (by omega)
      simpa using this
  have hBl:(prB d).length ≤ 900:=by
    rw [hB]
    split <;> simp [txt_len] <;> omega
  have hB0:0 < (prB d).length:=by
    rw [hB]
    split <;> simp [txt_len] <;> omega
  have hP:noMinus (prL d) = prB d∧hasMinus (prL d) = d.neg∧(prL d).length ≤ 1000∧0 < (prL d).length:=by
    unfold prL
    cases d.neg
    · rw [if_neg (by simp)]
      exact ⟨by unfold noMinus; rw [hmB]; rfl,hmB,by omega,hB0⟩
    · rw [if_pos rfl]
      exact ⟨rfl,rfl,by rw [List.length_cons]; omega,by rw [List.length_cons]; omega⟩
  obtain ⟨p1,p2,p3,p4⟩:=hP
  have:=decParse_core d.neg (decide (0 < d.s)) (X.take (X.length - d.s)) (X.drop (X.length - d.s)) (prL d) (prB d) mx w hm (hX.take _) (hX.drop' _) (by omega) (by omega) (by omega) hB p1 p2 p3 p4
    (fun h=>by have:=of_decide_eq_true h; omega) (fun h=>List.eq_nil_of_length_eq_zero (by have:=of_decide_eq_false h; omega))
  rw [List.take_append_drop,hl2] at this
  exact this
end Go.Proofs.YteiomfgehlojeaaGreatDoor
end
section
namespace Go.Proofs.YteiomfgehlojeaaGreatDoor
open Go.RowKit
theorem ints_take_succ (l:List Int) (k:Nat) (h:k < l.length):ints (l.take (k + 1)) = ints (l.take k) ++ [.int .i64 (l.getD k 0)]:=by
  rw [List.take_succ_eq_append_getElem h,ints_append]
  simp [ints,List.getD_eq_getElem?_getD,h]
set_option maxRecDepth 100000 in
set_option maxHeartbeats 8000000 in
theorem rdParse_core (neg pt:Bool) (a b:List Int) (S:ByteArray) (p0:Nat) (w:World) (ha:Dg a) (hb:Dg b) (a0:0 < a.length) (la:a.length ≤ 300) (lb:b.length ≤ 300)
    (hp:p0 = if neg = true then 1 else 0) (hneg:neg = true→∃ h:0 < S.size,(S[0]'h).toNat = 45) (hps:neg = false→∃ h:0 < S.size,(S[0]'h).toNat ≠ 45)
    (hS:S.size = p0 + a.length + (if pt = true then 1 + b.length else 0))
    (hA:∀ k,k < a.length→∃ h:p0 + k < S.size,(S[p0 + k]'h).toNat = 48 + (a.getD k 0).toNat) (hP:pt = true→∃ h:p0 + a.length < S.size,(S[p0 + a.length]'h).toNat = 46)
    (hB:∀ k,k < b.length→∃ h:p0 + a.length + 1 + k < S.size,(S[p0 + a.length + 1 + k]'h).toNat = 48 + (b.getD k 0).toNat)
    (hp1:pt = true→0 < b.length) (hp0:pt = false→b = []) :
    Calls Tryz.prog 97 #[.string S] w fun e w'=>∃ v',e = .returned (.tuple #[dv v' ⟨neg,a ++ b,b.length⟩, .int .i64 0])∧IsInts w' v' (a ++ b)∧From w.heap.size v'∧Below w.heap.size w w':=by
  obtain ⟨i0,hi,hz0,hz1,hz2⟩:=info_parts info_int
  obtain ⟨W2,hW2,z1,z2,hB2,s2⟩:∃ W2,(w.alloc (Obj.cells #[.bool false, .slice none 0 0, .int .i64 0] 26)).alloc (Obj.cells #[.bool neg, .slice none 0 0, .int .i64 0] 26) = W2∧Bq3 W2 w.heap.size (.bool false) (.slice none 0 0) (.int .i64 0) ∧
      Bq3 W2 (w.heap.size + 1) (.bool neg) (.slice none 0 0) (.int .i64 0)∧Below w.heap.size w W2∧W2.heap.size = w.heap.size + 2:=by
    refine ⟨_,rfl,(Bq3.new w _ _ _).keep (heap_alloc_old _ _ (by simp)),?_,((Below.refl _ w).alloc (Nat.le_refl _) _).alloc (by simp) _,by simp⟩
    have:=Bq3.new (w.alloc (Obj.cells #[.bool false, .slice none 0 0, .int .i64 0] 26)) (.bool neg) (.slice none 0 0) (.int .i64 0)
    simpa using this
  obtain ⟨na,hna⟩:∃ n,a.length = n:=⟨_,rfl⟩
  obtain ⟨nb,hnb⟩:∃ n,b.length = n:=⟨_,rfl⟩
  rw [hna] at hS hA hP hB a0 la
  rw [hnb] at hS hB hp1 lb ⊢
  obtain ⟨n,hn⟩:∃ n,S.size = n:=⟨_,rfl⟩
  have HW:=Lib.hid hW2
  have HA:=Lib.hid hA
  have HP:=Lib.hid hP
  have HBB:=Lib.hid hB
  have HDA:=Lib.hid ha
  have HDB:=Lib.hid hb
  have HNA:=Lib.hid hna
  have HNB:=Lib.hid hnb
  have HN:=Lib.hid hS
  have HP1:=Lib.hid hp1
  have HP0:=Lib.hid hp0
  have HPP:=Lib.hid hp
  have q0:=z1.c0
  have q1:=z2.c0
  have q1f:=z2.fz
  have HZ1:=Lib.hid z1
  have HZ2:=Lib.hid z2
  have HB2:=Lib.hid hB2
  rw [hn] at HN
  have hn1:0 < n:=by have:=HN.out; omega
  have hp01:p0 ≤ 1:=by rw [HPP.out]; split <;> omega
  have hn2:n ≤ 1000:=by rw [HN.out]; split <;> omega
  clear hW2 hA hP hB ha hb hna hnb hS hp1 hp0 hp z1 z2 hB2
  have K2:=Lib.hid (show Bq3 W2 w.heap.size (.bool false) (.slice none 0 0) (.int .i64 0)∧Bq3 W2 (w.heap.size + 1) (.bool neg) (.slice none 0 0) (.int .i64 0)∧Below w.heap.size w W2∧w.heap.size + 2 ≤ W2.heap.size from ⟨HZ1.out,HZ2.out,HB2.out,by omega⟩)
  clear q0 q1 q1f HZ1 HZ2 HB2
  cases neg
  · obtain ⟨h0,hx⟩:=hps rfl
    obtain ⟨y0,hy0⟩:∃ y,(S[0]'h0).toNat = y:=⟨_,rfl⟩
    rw [hy0] at hx
    have hp00:p0 = 0:=HPP.out
    clear hneg hps
    go_enter Tryz.func97,Tryz.ntmps97
    go_wp2_with fail
    rw [HW.out]
    rw [show ((y0:Int) == 45) = false from by simp; omega]
    clear hx hy0
    go_loopw [5,6,7] (fun i c f wr=>∃ (p ka kb:Nat) (fl:Bool) (pv:Value),i = .int .i64 p∧c = .int .i64 ka∧f = .bool fl∧p ≤ n∧ka ≤ na∧kb ≤ nb∧Aside (if fl = true then pt = true∧ka = na∧p = p0 + na + 1 + kb else kb = 0∧p = p0 + ka) ∧
        Aside (Bq3 wr w.heap.size (.bool false) (.slice none 0 0) (.int .i64 0)∧Bq3 wr (w.heap.size + 1) (.bool false) pv (.int .i64 kb)∧wr.ownsRow (w.heap.size + 2) 3 1 pv (ka + kb) (ints (a.take ka ++ b.take kb))∧Below w.heap.size w wr∧w.heap.size + 2 ≤ wr.heap.size)) (fun i _ _ _=>n - (intOf i).toNat)
    case atStart=>exact ⟨p0,0,0,false,_,by rw [hp00]; rfl,rfl,rfl,by omega,by omega,by omega,⟨rfl,rfl⟩,K2.out.1,K2.out.2.1,by simpa [ints] using World.ownsRow_nil W2 (w.heap.size + 2) 3 1,K2.out.2.2.1,K2.out.2.2.2⟩
    case round =>
      obtain ⟨p,ka,kb,fl,pv,rfl,rfl,rfl,hpn,hka,hkb,HF,HM⟩:=hrel
      obtain ⟨m,hmk⟩:∃ m,ka + kb = m:=⟨_,rfl⟩
      rw [hmk] at HM
      have hm6:m ≤ 600:=by omega
      obtain ⟨A,c,rfl⟩:=own_form HM.out.2.2.1
      have r0:=HM.out.2.1.c0
      have r1:=HM.out.2.1.c1
      have r2:=HM.out.2.1.c2
      have rf:=HM.out.2.1.fz
      cases fl
      · have hF:kb = 0∧p = p0 + ka:=by simpa using HF.out
        by_cases hk:ka < na
        · clear r0 r2
          obtain ⟨hix,hy⟩:∃ h:p < S.size,(S[p]'h).toNat = 48 + (a.getD ka 0).toNat:=by
            have:=HA.out ka hk
            rw [← hF.2] at this
            exact this
          have hd:=HDA.out.getD ka
          have hsn:Hid (ints (a.take (ka + 1) ++ b.take kb) = ints (a.take ka ++ b.take kb) ++ [.int .i64 (a.getD ka 0)]):=by
            show _ = _
            have hkl:ka < a.length:=by have:=HNA.out; omega
            rw [hF.1,List.take_zero,List.append_nil,List.append_nil,ints_take_succ a ka hkl]
          obtain ⟨dg,hdg⟩:∃ g,a.getD ka 0 = g:=⟨_,rfl⟩
          obtain ⟨y,hye⟩:∃ y,48 + dg.toNat = y:=⟨_,rfl⟩
          rw [hdg] at hy hd hsn
          rw [hye] at hy
          have hy1:48 ≤ y:=by omega
          have hy2:y ≤ 57:=by omega
          have hxy:Hid (dg = (y:Int) - 48):=by show _ = _; omega
          have hw1:IntKind.i64.wrap ((y:Int) - 48) = (y:Int) - 48:=wrap_in _ (by omega) (by omega)
          have hpl:p < n:=by rw [← hn]; exact hix
          have HF2:=Lib.hid hF
          have HMK:=Lib.hid hmk
          clear hdg hye hd hF hmk HF
          go_wp2_with (first
            | (at_builtin
               refine wpList_append_own _ rfl _ _ 24 rfl (w.heap.size + 2) 3 i0 (.int .i64 0) 1 8 Tryz.underlying24 hi hz0 hz1 hz2 rfl (by decide) (.slice A m c) m (ints (a.take ka ++ b.take kb)) (by simp [Act.eval,Act.put]) (HM.out.2.2.1.alloc _) ⟨_,0,none⟩ 1 1 [.int .i64 ((y:Int) - 48)] rfl rfl (cell_one_new _ _ _) (fun x hx=>by simp at hx; subst hx; rfl) (by unfold maxLen; omega) (by omega) (by have:=HM.out.2.2.2.2; simp; omega) ?_
               intro v5 w5 hown5 hgrow5 hnil5
               have hlt1:w.heap.size < wr.heap.size:=by have:=HM.out.2.2.2.2; omega
               have hlt2:w.heap.size + 1 < wr.heap.size:=by have:=HM.out.2.2.2.2; omega
               have X5:Aside (Bq3 w5 w.heap.size (.bool false) (.slice none 0 0) (.int .i64 0)∧Bq3 w5 (w.heap.size + 1) (.bool false) (.slice A m c) (.int .i64 kb)∧w5.ownsRow (w.heap.size + 2) 3 1 v5 (m + 1) (ints (a.take (ka + 1) ++ b.take kb))∧Below w.heap.size w w5∧w.heap.size + 2 ≤ w5.heap.size):=by
                 refine ⟨(HM.out.1.keep (heap_alloc_old _ _ hlt1)).keep (grow_keep hgrow5 (by simp; omega) (fun q hq=>by have:=(HM.out.2.2.1.lt q hq).1; omega)),(HM.out.2.1.keep (heap_alloc_old _ _ hlt2)).keep (grow_keep hgrow5 (by simp; omega) (fun q hq=>by have:=(HM.out.2.2.1.lt q hq).1; omega)),by rw [hsn.out,hxy.out]; exact hown5,?_,?_⟩
                 · exact (HM.out.2.2.2.1.alloc (by omega) _).grown hgrow5 (by simp; omega) (fun q hq=>by have:=(HM.out.2.2.1.lt q hq).1; omega)
                 · have:=hgrow5.size; simp at this; have:=HM.out.2.2.2.2; omega
               obtain ⟨A5,c5,rfl⟩:=own_form X5.out.2.2.1
               have e1:=X5.out.2.1.c1
               have e2:=X5.out.2.1.c2
               have ef:=X5.out.2.1.fz
               clear hown5 hgrow5 hnil5))
          go_roundw
          case rel =>
            exact ⟨p + 1,ka + 1,kb,false,_,by go_num,by go_num,rfl,by omega,by omega,by omega,(show kb = 0∧p + 1 = p0 + (ka + 1) from ⟨HF2.out.1,by have:=HF2.out.2; omega⟩),X5.out.1.far (p:=⟨w.heap.size + 1,1,none⟩) (by show w.heap.size ≠ w.heap.size + 1; omega) _,X5.out.2.1.set1 _,
              by rw [show ka + 1 + kb = m + 1 by have:=HMK.out; omega]; exact ownsRow_setCell_below X5.out.2.2.1 (by show w.heap.size + 1 < w.heap.size + 2; omega) _,X5.out.2.2.2.1.setCell (p:=⟨w.heap.size + 1,1,none⟩) (by show w.heap.size ≤ w.heap.size + 1; omega) _,by have:=X5.out.2.2.2.2; simpa using this⟩
          case measure=>simp [intOf]; omega
        · obtain rfl:ka = na:=by omega
          have hkb0:=hF.1
          subst hkb0
          cases pt
          · have hpe:p = n:=by have:=HN.out; have:=hF.2; simp at *; omega
            subst hpe
            have HB0:=Lib.hid (HP0.out rfl)
            have hAB:Hid (a.take ka ++ b.take 0 = a ++ b):=by show _ = _; rw [HB0.out,← HNA.out]; simp
            have hABl:Hid ((a.take ka ++ b.take 0).length = m):=by show _ = _; rw [hAB.out,List.length_append,HNA.out,HB0.out]; simp; omega
            have hnk:Hid (nb = 0):=by show _ = _; rw [← HNB.out,HB0.out]; rfl
            have hka0:0 < ka:=a0
            have hka1:¬ ((ka:Int) = 0):=by omega
            clear hF HF
            have v0:=HM.out.1.c0
            have v1:=HM.out.1.c1
            have v2:=HM.out.1.c2
            have vf:=HM.out.1.fz
            go_wp2_with fail
            refine bodyPost_ret_by (results_cell_two (by rfl) _ _ w.heap.size _ _ _ _ _ rfl rfl (Bq3.setAll HM.out.1 (.bool false) (.slice A m c) (.int .i64 (0:Nat))) Tryz.underlying26 rfl (by kernel_rfl)) rfl ?_
            have hI:IsInts wr (.slice A m c) (a ++ b):=by rw [← hAB.out]; exact IsInts.of_own (by rw [hABl.out]; exact HM.out.2.2.1)
            have hF:From (w.heap.size + 2) (.slice A m c):=fun q hq=>(HM.out.2.2.1.lt q hq).1
            have h0:w.heap.size < w.heap.size + 2:=by omega
            exact ⟨.slice A m c,by rw [hnk.out]; rfl,((hI.far hF (p:=⟨w.heap.size,0,none⟩) h0 _).far hF (p:=⟨w.heap.size,1,none⟩) h0 _).far hF (p:=⟨w.heap.size,2,none⟩) h0 _,fun q hq=>by have:=hF q hq; omega,Below.set3 HM.out.2.2.2.1 (Nat.le_refl _) _ _ _⟩
          · obtain ⟨hix,hy⟩:∃ h:p < S.size,(S[p]'h).toNat = 46:=by
              have:=HP.out rfl
              rw [← hF.2] at this
              exact this
            have hpl:p < n:=by rw [← hn]; exact hix
            have HF2:=Lib.hid hF
            clear hF HF
            go_wp2_with fail
            go_roundw
            case rel=>exact ⟨p + 1,ka,0,true,_,by go_num,rfl,rfl,by omega,by omega,by omega,(show True∧ka = ka∧p + 1 = p0 + ka + 1 + 0 from ⟨trivial,rfl,by have:=HF2.out.2; omega⟩),HM.out.1,HM.out.2.1,by rw [hmk]; exact HM.out.2.2.1,HM.out.2.2.2⟩
            case measure=>simp [intOf]; omega
      · have hF:pt = true∧ka = na∧p = p0 + na + 1 + kb:=by simpa using HF.out
        by_cases hk:kb < nb
        · clear r0
          obtain ⟨hix,hy⟩:∃ h:p < S.size,(S[p]'h).toNat = 48 + (b.getD kb 0).toNat:=by
            have:=HBB.out kb hk
            rw [← hF.2.2] at this
            exact this
          have hd:=HDB.out.getD kb
          have hsn:Hid (ints (a.take ka ++ b.take (kb + 1)) = ints (a.take ka ++ b.take kb) ++ [.int .i64 (b.getD kb 0)]):=by
            show _ = _
            have hkl:kb < b.length:=by have:=HNB.out; omega
            rw [ints_append,ints_append,ints_take_succ b kb hkl,List.append_assoc]
          obtain ⟨dg,hdg⟩:∃ g,b.getD kb 0 = g:=⟨_,rfl⟩
          obtain ⟨y,hye⟩:∃ y,48 + dg.toNat = y:=⟨_,rfl⟩
          rw [hdg] at hy hd hsn
          rw [hye] at hy
          have hy1:48 ≤ y:=by omega
          have hy2:y ≤ 57:=by omega
          have hxy:Hid (dg = (y:Int) - 48):=by show _ = _; omega
          have hw1:IntKind.i64.wrap ((y:Int) - 48) = (y:Int) - 48:=wrap_in _ (by omega) (by omega)
          have hpl:p < n:=by rw [← hn]; exact hix
          have HF2:=Lib.hid hF
          have HMK:=Lib.hid hmk
          clear hdg hye hd hF hmk HF
          go_wp2_with (first
            | (at_builtin
               refine wpList_append_own _ rfl _ _ 24 rfl (w.heap.size + 2) 3 i0 (.int .i64 0) 1 8 Tryz.underlying24 hi hz0 hz1 hz2 rfl (by decide) (.slice A m c) m (ints (a.take ka ++ b.take kb)) (by simp [Act.eval,Act.put]) (HM.out.2.2.1.alloc _) ⟨_,0,none⟩ 1 1 [.int .i64 ((y:Int) - 48)] rfl rfl (cell_one_new _ _ _) (fun x hx=>by simp at hx; subst hx; rfl) (by unfold maxLen; omega) (by omega) (by have:=HM.out.2.2.2.2; simp; omega) ?_
               intro v5 w5 hown5 hgrow5 hnil5
               have hlt1:w.heap.size < wr.heap.size:=by have:=HM.out.2.2.2.2; omega
               have hlt2:w.heap.size + 1 < wr.heap.size:=by have:=HM.out.2.2.2.2; omega
               have X5:Aside (Bq3 w5 w.heap.size (.bool false) (.slice none 0 0) (.int .i64 0)∧Bq3 w5 (w.heap.size + 1) (.bool false) (.slice A m c) (.int .i64 kb)∧w5.ownsRow (w.heap.size + 2) 3 1 v5 (m + 1) (ints (a.take ka ++ b.take (kb + 1)))∧Below w.heap.size w w5∧w.heap.size + 2 ≤ w5.heap.size):=by
                 refine ⟨(HM.out.1.keep (heap_alloc_old _ _ hlt1)).keep (grow_keep hgrow5 (by simp; omega) (fun q hq=>by have:=(HM.out.2.2.1.lt q hq).1; omega)),(HM.out.2.1.keep (heap_alloc_old _ _ hlt2)).keep (grow_keep hgrow5 (by simp; omega) (fun q hq=>by have:=(HM.out.2.2.1.lt q hq).1; omega)),by rw [hsn.out,hxy.out]; exact hown5,?_,?_⟩
                 · exact (HM.out.2.2.2.1.alloc (by omega) _).grown hgrow5 (by simp; omega) (fun q hq=>by have:=(HM.out.2.2.1.lt q hq).1; omega)
                 · have:=hgrow5.size; simp at this; have:=HM.out.2.2.2.2; omega
               obtain ⟨A5,c5,rfl⟩:=own_form X5.out.2.2.1
               have e1:=X5.out.2.1.c1
               have e2:=X5.out.2.1.c2
               have ef:=X5.out.2.1.fz
               clear hown5 hgrow5 hnil5))
          go_roundw
          case rel =>
            exact ⟨p + 1,ka,kb + 1,true,_,by go_num,rfl,rfl,by omega,by omega,by omega,(show pt = true∧ka = na∧p + 1 = p0 + na + 1 + (kb + 1) from ⟨HF2.out.1,HF2.out.2.1,by have:=HF2.out.2.2; omega⟩),(X5.out.1.far (p:=⟨w.heap.size + 1,1,none⟩) (by show w.heap.size ≠ w.heap.size + 1; omega) _).far (p:=⟨w.heap.size + 1,2,none⟩) (by show w.heap.size ≠ w.heap.size + 1; omega) _,by rw [show ((kb + 1:Nat):Int) = (kb:Int) + 1 by omega]; exact (X5.out.2.1.set1 _).set2 _,
              by rw [show ka + (kb + 1) = m + 1 by have:=HMK.out; omega]; exact ownsRow_setCell_below (ownsRow_setCell_below X5.out.2.2.1 (by show w.heap.size + 1 < w.heap.size + 2; omega) _) (by show w.heap.size + 1 < w.heap.size + 2; omega) _,(X5.out.2.2.2.1.setCell (p:=⟨w.heap.size + 1,1,none⟩) (by show w.heap.size ≤ w.heap.size + 1; omega) _).setCell (p:=⟨w.heap.size + 1,2,none⟩) (by show w.heap.size ≤ w.heap.size + 1; omega) _,by have:=X5.out.2.2.2.2; simpa using this⟩
          case measure=>simp [intOf]; omega
        · obtain rfl:kb = nb:=by omega
          obtain ⟨hF1,hF2,hF3⟩:=hF
          subst hF1
          subst hF2
          have hpe:p = n:=by have:=HN.out; simp at *; omega
          subst hpe
          have hAB:Hid (a.take ka ++ b.take kb = a ++ b):=by show _ = _; rw [← HNA.out,← HNB.out]; simp
          have hABl:Hid ((a.take ka ++ b.take kb).length = m):=by show _ = _; rw [hAB.out,List.length_append,HNA.out,HNB.out]; omega
          have hnk:Hid (kb = kb):=rfl
          have hkb1:0 < kb:=HP1.out rfl
          have hka1:¬ ((ka:Int) = 0):=by omega
          have hkb2:((kb:Int) == 0) = false:=by simp; omega
          clear HF
          have v0:=HM.out.1.c0
          have v1:=HM.out.1.c1
          have v2:=HM.out.1.c2
          have vf:=HM.out.1.fz
          go_wp2_with fail
          refine bodyPost_ret_by (results_cell_two (by rfl) _ _ w.heap.size _ _ _ _ _ rfl rfl (Bq3.setAll HM.out.1 (.bool false) (.slice A m c) (.int .i64 kb)) Tryz.underlying26 rfl (by kernel_rfl)) rfl ?_
          have hI:IsInts wr (.slice A m c) (a ++ b):=by rw [← hAB.out]; exact IsInts.of_own (by rw [hABl.out]; exact HM.out.2.2.1)
          have hF:From (w.heap.size + 2) (.slice A m c):=fun q hq=>(HM.out.2.2.1.lt q hq).1
          have h0:w.heap.size < w.heap.size + 2:=by omega
          exact ⟨.slice A m c,rfl,((hI.far hF (p:=⟨w.heap.size,0,none⟩) h0 _).far hF (p:=⟨w.heap.size,1,none⟩) h0 _).far hF (p:=⟨w.heap.size,2,none⟩) h0 _,fun q hq=>by have:=hF q hq; omega,Below.set3 HM.out.2.2.2.1 (Nat.le_refl _) _ _ _⟩
  · obtain ⟨h0,hx⟩:=hneg rfl
    have hp00:p0 = 1:=HPP.out
    clear hneg hps
    go_enter Tryz.func97,Tryz.ntmps97
    go_wp2_with fail
    rw [HW.out]
    go_loopw [5,6,7] (fun i c f wr=>∃ (p ka kb:Nat) (fl:Bool) (pv:Value),i = .int .i64 p∧c = .int .i64 ka∧f = .bool fl∧p ≤ n∧ka ≤ na∧kb ≤ nb∧Aside (if fl = true then pt = true∧ka = na∧p = p0 + na + 1 + kb else kb = 0∧p = p0 + ka) ∧
        Aside (Bq3 wr w.heap.size (.bool false) (.slice none 0 0) (.int .i64 0)∧Bq3 wr (w.heap.size + 1) (.bool true) pv (.int .i64 kb)∧wr.ownsRow (w.heap.size + 2) 3 1 pv (ka + kb) (ints (a.take ka ++ b.take kb))∧Below w.heap.size w wr∧w.heap.size + 2 ≤ wr.heap.size)) (fun i _ _ _=>n - (intOf i).toNat)
    case atStart=>exact ⟨p0,0,0,false,_,by rw [hp00]; rfl,rfl,rfl,by omega,by omega,by omega,⟨rfl,rfl⟩,K2.out.1,K2.out.2.1,by simpa [ints] using World.ownsRow_nil W2 (w.heap.size + 2) 3 1,K2.out.2.2.1,K2.out.2.2.2⟩
    case round =>
      obtain ⟨p,ka,kb,fl,pv,rfl,rfl,rfl,hpn,hka,hkb,HF,HM⟩:=hrel
      obtain ⟨m,hmk⟩:∃ m,ka + kb = m:=⟨_,rfl⟩
      rw [hmk] at HM
      have hm6:m ≤ 600:=by omega
      obtain ⟨A,c,rfl⟩:=own_form HM.out.2.2.1
      have r0:=HM.out.2.1.c0
      have r1:=HM.out.2.1.c1
      have r2:=HM.out.2.1.c2
      have rf:=HM.out.2.1.fz
      cases fl
      · have hF:kb = 0∧p = p0 + ka:=by simpa using HF.out
        by_cases hk:ka < na
        · clear r0 r2
          obtain ⟨hix,hy⟩:∃ h:p < S.size,(S[p]'h).toNat = 48 + (a.getD ka 0).toNat:=by
            have:=HA.out ka hk
            rw [← hF.2] at this
            exact this
          have hd:=HDA.out.getD ka
          have hsn:Hid (ints (a.take (ka + 1) ++ b.take kb) = ints (a.take ka ++ b.take kb) ++ [.int .i64 (a.getD ka 0)]):=by
            show _ = _
            have hkl:ka < a.length:=by have:=HNA.out; omega
            rw [hF.1,List.take_zero,List.append_nil,List.append_nil,ints_take_succ a ka hkl]
          obtain ⟨dg,hdg⟩:∃ g,a.getD ka 0 = g:=⟨_,rfl⟩
          obtain ⟨y,hye⟩:∃ y,48 + dg.toNat = y:=⟨_,rfl⟩
          rw [hdg] at hy hd hsn
          rw [hye] at hy
          have hy1:48 ≤ y:=by omega
          have hy2:y ≤ 57:=by omega
          have hxy:Hid (dg = (y:Int) - 48):=by show _ = _; omega
          have hw1:IntKind.i64.wrap ((y:Int) - 48) = (y:Int) - 48:=wrap_in _ (by omega) (by omega)
          have hpl:p < n:=by rw [← hn]; exact hix
          have HF2:=Lib.hid hF
          have HMK:=Lib.hid hmk
          clear hdg hye hd hF hmk HF
          go_wp2_with (first
            | (at_builtin
               refine wpList_append_own _ rfl _ _ 24 rfl (w.heap.size + 2) 3 i0 (.int .i64 0) 1 8 Tryz.underlying24 hi hz0 hz1 hz2 rfl (by decide) (.slice A m c) m (ints (a.take ka ++ b.take kb)) (by simp [Act.eval,Act.put]) (HM.out.2.2.1.alloc _) ⟨_,0,none⟩ 1 1 [.int .i64 ((y:Int) - 48)] rfl rfl (cell_one_new _ _ _) (fun x hx=>by simp at hx; subst hx; rfl) (by unfold maxLen; omega) (by omega) (by have:=HM.out.2.2.2.2; simp; omega) ?_
               intro v5 w5 hown5 hgrow5 hnil5
               have hlt1:w.heap.size < wr.heap.size:=by have:=HM.out.2.2.2.2; omega
               have hlt2:w.heap.size + 1 < wr.heap.size:=by have:=HM.out.2.2.2.2; omega
               have X5:Aside (Bq3 w5 w.heap.size (.bool false) (.slice none 0 0) (.int .i64 0)∧Bq3 w5 (w.heap.size + 1) (.bool true) (.slice A m c) (.int .i64 kb)∧w5.ownsRow (w.heap.size + 2) 3 1 v5 (m + 1) (ints (a.take (ka + 1) ++ b.take kb))∧Below w.heap.size w w5∧w.heap.size + 2 ≤ w5.heap.size):=by
                 refine ⟨(HM.out.1.keep (heap_alloc_old _ _ hlt1)).keep (grow_keep hgrow5 (by simp; omega) (fun q hq=>by have:=(HM.out.2.2.1.lt q hq).1; omega)),(HM.out.2.1.keep (heap_alloc_old _ _ hlt2)).keep (grow_keep hgrow5 (by simp; omega) (fun q hq=>by have:=(HM.out.2.2.1.lt q hq).1; omega)),by rw [hsn.out,hxy.out]; exact hown5,?_,?_⟩
                 · exact (HM.out.2.2.2.1.alloc (by omega) _).grown hgrow5 (by simp; omega) (fun q hq=>by have:=(HM.out.2.2.1.lt q hq).1; omega)
                 · have:=hgrow5.size; simp at this; have:=HM.out.2.2.2.2; omega
               obtain ⟨A5,c5,rfl⟩:=own_form X5.out.2.2.1
               have e1:=X5.out.2.1.c1
               have e2:=X5.out.2.1.c2
               have ef:=X5.out.2.1.fz
               clear hown5 hgrow5 hnil5))
          go_roundw
          case rel =>
            exact ⟨p + 1,ka + 1,kb,false,_,by go_num,by go_num,rfl,by omega,by omega,by omega,(show kb = 0∧p + 1 = p0 + (ka + 1) from ⟨HF2.out.1,by have:=HF2.out.2; omega⟩),X5.out.1.far (p:=⟨w.heap.size + 1,1,none⟩) (by show w.heap.size ≠ w.heap.size + 1; omega) _,X5.out.2.1.set1 _,
              by rw [show ka + 1 + kb = m + 1 by have:=HMK.out; omega]; exact ownsRow_setCell_below X5.out.2.2.1 (by show w.heap.size + 1 < w.heap.size + 2; omega) _,X5.out.2.2.2.1.setCell (p:=⟨w.heap.size + 1,1,none⟩) (by show w.heap.size ≤ w.heap.size + 1; omega) _,by have:=X5.out.2.2.2.2; simpa using this⟩
          case measure=>simp [intOf]; omega
        · obtain rfl:ka = na:=by omega
          have hkb0:=hF.1
          subst hkb0
          cases pt
          · have hpe:p = n:=by have:=HN.out; have:=hF.2; simp at *; omega
            subst hpe
            have HB0:=Lib.hid (HP0.out rfl)
            have hAB:Hid (a.take ka ++ b.take 0 = a ++ b):=by show _ = _; rw [HB0.out,← HNA.out]; simp
            have hABl:Hid ((a.take ka ++ b.take 0).length = m):=by show _ = _; rw [hAB.out,List.length_append,HNA.out,HB0.out]; simp; omega
            have hnk:Hid (nb = 0):=by show _ = _; rw [← HNB.out,HB0.out]; rfl
            have hka0:0 < ka:=a0
            have hka1:¬ ((ka:Int) = 0):=by omega
            clear hF HF
            have v0:=HM.out.1.c0
            have v1:=HM.out.1.c1
            have v2:=HM.out.1.c2
            have vf:=HM.out.1.fz
            go_wp2_with fail
            refine bodyPost_ret_by (results_cell_two (by rfl) _ _ w.heap.size _ _ _ _ _ rfl rfl (Bq3.setAll HM.out.1 (.bool true) (.slice A m c) (.int .i64 (0:Nat))) Tryz.underlying26 rfl (by kernel_rfl)) rfl ?_
            have hI:IsInts wr (.slice A m c) (a ++ b):=by rw [← hAB.out]; exact IsInts.of_own (by rw [hABl.out]; exact HM.out.2.2.1)
            have hF:From (w.heap.size + 2) (.slice A m c):=fun q hq=>(HM.out.2.2.1.lt q hq).1
            have h0:w.heap.size < w.heap.size + 2:=by omega
            exact ⟨.slice A m c,by rw [hnk.out]; rfl,((hI.far hF (p:=⟨w.heap.size,0,none⟩) h0 _).far hF (p:=⟨w.heap.size,1,none⟩) h0 _).far hF (p:=⟨w.heap.size,2,none⟩) h0 _,fun q hq=>by have:=hF q hq; omega,Below.set3 HM.out.2.2.2.1 (Nat.le_refl _) _ _ _⟩
          · obtain ⟨hix,hy⟩:∃ h:p < S.size,(S[p]'h).toNat = 46:=by
              have:=HP.out rfl
              rw [← hF.2] at this
              exact this
            have hpl:p < n:=by rw [← hn]; exact hix
            have HF2:=Lib.hid hF
            clear hF HF
            go_wp2_with fail
            go_roundw
            case rel=>exact ⟨p + 1,ka,0,true,_,by go_num,rfl,rfl,by omega,by omega,by omega,(show True∧ka = ka∧p + 1 = p0 + ka + 1 + 0 from ⟨trivial,rfl,by have:=HF2.out.2; omega⟩),HM.out.1,HM.out.2.1,by rw [hmk]; exact HM.out.2.2.1,HM.out.2.2.2⟩
            case measure=>simp [intOf]; omega
      · have hF:pt = true∧ka = na∧p = p0 + na + 1 + kb:=by simpa using HF.out
        by_cases hk:kb < nb
        · clear r0
          obtain ⟨hix,hy⟩:∃ h:p < S.size,(S[p]'h).toNat = 48 + (b.getD kb 0).toNat:=by
            have:=HBB.out kb hk
            rw [← hF.2.2] at this
            exact this
          have hd:=HDB.out.getD kb
          have hsn:Hid (ints (a.take ka ++ b.take (kb + 1)) = ints (a.take ka ++ b.take kb) ++ [.int .i64 (b.getD kb 0)]):=by
            show _ = _
            have hkl:kb < b.length:=by have:=HNB.out; omega
            rw [ints_append,ints_append,ints_take_succ b kb hkl,List.append_assoc]
          obtain ⟨dg,hdg⟩:∃ g,b.getD kb 0 = g:=⟨_,rfl⟩
          obtain ⟨y,hye⟩:∃ y,48 + dg.toNat = y:=⟨_,rfl⟩
          rw [hdg] at hy hd hsn
          rw [hye] at hy
          have hy1:48 ≤ y:=by omega
          have hy2:y ≤ 57:=by omega
          have hxy:Hid (dg = (y:Int) - 48):=by show _ = _; omega
          have hw1:IntKind.i64.wrap ((y:Int) - 48) = (y:Int) - 48:=wrap_in _ (by omega) (by omega)
          have hpl:p < n:=by rw [← hn]; exact hix
          have HF2:=Lib.hid hF
          have HMK:=Lib.hid hmk
          clear hdg hye hd hF hmk HF
          go_wp2_with (first
            | (at_builtin
               refine wpList_append_own _ rfl _ _ 24 rfl (w.heap.size + 2) 3 i0 (.int .i64 0) 1 8 Tryz.underlying24 hi hz0 hz1 hz2 rfl (by decide) (.slice A m c) m (ints (a.take ka ++ b.take kb)) (by simp [Act.eval,Act.put]) (HM.out.2.2.1.alloc _) ⟨_,0,none⟩ 1 1 [.int .i64 ((y:Int) - 48)] rfl rfl (cell_one_new _ _ _) (fun x hx=>by simp at hx; subst hx; rfl) (by unfold maxLen; omega) (by omega) (by have:=HM.out.2.2.2.2; simp; omega) ?_
               intro v5 w5 hown5 hgrow5 hnil5
               have hlt1:w.heap.size < wr.heap.size:=by have:=HM.out.2.2.2.2; omega
               have hlt2:w.heap.size + 1 < wr.heap.size:=by have:=HM.out.2.2.2.2; omega
               have X5:Aside (Bq3 w5 w.heap.size (.bool false) (.slice none 0 0) (.int .i64 0)∧Bq3 w5 (w.heap.size + 1) (.bool true) (.slice A m c) (.int .i64 kb)∧w5.ownsRow (w.heap.size + 2) 3 1 v5 (m + 1) (ints (a.take ka ++ b.take (kb + 1)))∧Below w.heap.size w w5∧w.heap.size + 2 ≤ w5.heap.size):=by
                 refine ⟨(HM.out.1.keep (heap_alloc_old _ _ hlt1)).keep (grow_keep hgrow5 (by simp; omega) (fun q hq=>by have:=(HM.out.2.2.1.lt q hq).1; omega)),(HM.out.2.1.keep (heap_alloc_old _ _ hlt2)).keep (grow_keep hgrow5 (by simp; omega) (fun q hq=>by have:=(HM.out.2.2.1.lt q hq).1; omega)),by rw [hsn.out,hxy.out]; exact hown5,?_,?_⟩
                 · exact (HM.out.2.2.2.1.alloc (by omega) _).grown hgrow5 (by simp; omega) (fun q hq=>by have:=(HM.out.2.2.1.lt q hq).1; omega)
                 · have:=hgrow5.size; simp at this; have:=HM.out.2.2.2.2; omega
               obtain ⟨A5,c5,rfl⟩:=own_form X5.out.2.2.1
               have e1:=X5.out.2.1.c1
               have e2:=X5.out.2.1.c2
               have ef:=X5.out.2.1.fz
               clear hown5 hgrow5 hnil5))
          go_roundw
          case rel =>
            exact ⟨p + 1,ka,kb + 1,true,_,by go_num,rfl,rfl,by omega,by omega,by omega,(show pt = true∧ka = na∧p + 1 = p0 + na + 1 + (kb + 1) from ⟨HF2.out.1,HF2.out.2.1,by have:=HF2.out.2.2; omega⟩),(X5.out.1.far (p:=⟨w.heap.size + 1,1,none⟩) (by show w.heap.size ≠ w.heap.size + 1; omega) _).far (p:=⟨w.heap.size + 1,2,none⟩) (by show w.heap.size ≠ w.heap.size + 1; omega) _,by rw [show ((kb + 1:Nat):Int) = (kb:Int) + 1 by omega]; exact (X5.out.2.1.set1 _).set2 _,
              by rw [show ka + (kb + 1) = m + 1 by have:=HMK.out; omega]; exact ownsRow_setCell_below (ownsRow_setCell_below X5.out.2.2.1 (by show w.heap.size + 1 < w.heap.size + 2; omega) _) (by show w.heap.size + 1 < w.heap.size + 2; omega) _,(X5.out.2.2.2.1.setCell (p:=⟨w.heap.size + 1,1,none⟩) (by show w.heap.size ≤ w.heap.size + 1; omega) _).setCell (p:=⟨w.heap.size + 1,2,none⟩) (by show w.heap.size ≤ w.heap.size + 1; omega) _,by have:=X5.out.2.2.2.2; simpa using this⟩
          case measure=>simp [intOf]; omega
        · obtain rfl:kb = nb:=by omega
          obtain ⟨hF1,hF2,hF3⟩:=hF
          subst hF1
          subst hF2
          have hpe:p = n:=by have:=HN.out; simp at *; omega
          subst hpe
          have hAB:Hid (a.take ka ++ b.take kb = a ++ b):=by show _ = _; rw [← HNA.out,← HNB.out]; simp
          have hABl:Hid ((a.take ka ++ b.take kb).length = m):=by show _ = _; rw [hAB.out,List.length_append,HNA.out,HNB.out]; omega
          have hnk:Hid (kb = kb):=rfl
          have hkb1:0 < kb:=HP1.out rfl
          have hka1:¬ ((ka:Int) = 0):=by omega
          have hkb2:((kb:Int) == 0) = false:=by simp; omega
          clear HF
          have v0:=HM.out.1.c0
          have v1:=HM.out.1.c1
          have v2:=HM.out.1.c2
          have vf:=HM.out.1.fz
          go_wp2_with fail
          refine bodyPost_ret_by (results_cell_two (by rfl) _ _ w.heap.size _ _ _ _ _ rfl rfl (Bq3.setAll HM.out.1 (.bool true) (.slice A m c) (.int .i64 kb)) Tryz.underlying26 rfl (by kernel_rfl)) rfl ?_
          have hI:IsInts wr (.slice A m c) (a ++ b):=by rw [← hAB.out]; exact IsInts.of_own (by rw [hABl.out]; exact HM.out.2.2.1)
          have hF:From (w.heap.size + 2) (.slice A m c):=fun q hq=>(HM.out.2.2.1.lt q hq).1
          have h0:w.heap.size < w.heap.size + 2:=by omega
          exact ⟨.slice A m c,rfl,((hI.far hF (p:=⟨w.heap.size,0,none⟩) h0 _).far hF (p:=⟨w.heap.size,1,none⟩) h0 _).far hF (p:=⟨w.heap.size,2,none⟩) h0 _,fun q hq=>by have:=hF q hq; omega,Below.set3 HM.out.2.2.2.1 (Nat.le_refl _) _ _ _⟩
end Go.Proofs.YteiomfgehlojeaaGreatDoor
end
section
namespace Go.Proofs.YteiomfgehlojeaaGreatDoor
open Go.RowKit
theorem ba_get {l:List UInt8} {i:Nat} {c:UInt8} (h:l[i]? = some c):∃ hz:i < (⟨l.toArray⟩:ByteArray).size,((⟨l.toArray⟩:ByteArray)[i]'hz) = c:=by
  obtain ⟨h1,h2⟩:=List.getElem?_eq_some_iff.1 h
  refine ⟨by rw [size_mk]; exact h1,?_⟩
  show l.toArray[i] = c
  simpa using h2
theorem txt_get {a:List Int} (ha:Dg a) {k:Nat} (h:k < a.length):(txt a)[k]? = some (UInt8.ofNat (48 + (a.getD k 0).toNat)):=by
  simp [txt,List.getElem?_map,List.getElem?_eq_getElem h,List.getD_eq_getElem?_getD]
theorem txt_val {a:List Int} (ha:Dg a) (k:Nat):(UInt8.ofNat (48 + (a.getD k 0).toNat)).toNat = 48 + (a.getD k 0).toNat:=by
  have:=ha.getD k
  generalize a.getD k 0 = x at *
  rw [UInt8.toNat_ofNat']
  omega
theorem rdParse_any (d:Dc) (w:World) (da:Dg d.l) (la:d.l.length ≤ 100) (hs:d.s ≤ 99) :
    Calls Tryz.prog 97 #[.string ⟨(prL d).toArray⟩] w fun e w'=>∃ v',e = .returned (.tuple #[dv v' ⟨d.neg,wideL d.l (d.s + 1),d.s⟩, .int .i64 0])∧IsInts w' v' (wideL d.l (d.s + 1))∧From w.heap.size v'∧Below w.heap.size w w':=by
  have hX:=da.wideL (d.s + 1)
  have hL:=wideL_len d.l (d.s + 1)
  have hB:=prB_eq d
  obtain ⟨X,hXe⟩:∃ X,wideL d.l (d.s + 1) = X:=⟨_,rfl⟩
  rw [hXe] at hX hL hB ⊢
  have hl1:(X.take (X.length - d.s)).length = X.length - d.s:=by simp
  have hl2:(X.drop (X.length - d.s)).length = d.s:=by simp; omega
  have da1:=hX.take (X.length - d.s)
  have db1:=hX.drop' (X.length - d.s)
  obtain ⟨a,ha⟩:∃ a,X.take (X.length - d.s) = a:=⟨_,rfl⟩
  obtain ⟨b,hb⟩:∃ b,X.drop (X.length - d.s) = b:=⟨_,rfl⟩
  have hXab:X = a ++ b:=by rw [← ha,← hb,List.take_append_drop]
  rw [ha] at hl1 hB da1
  rw [hb] at hl2 hB db1
  obtain ⟨P,hP⟩:∃ P:List UInt8,(if d.neg = true then [45] else []) = P:=⟨_,rfl⟩
  obtain ⟨R,hR⟩:∃ R:List UInt8,(if decide (0 < d.s) = true then 46 :: txt b else []) = R:=⟨_,rfl⟩
  have hS:prL d = P ++ (txt a ++ R):=by
    unfold prL
    rw [hB,← hP,← hR]
    cases d.neg <;> by_cases h:0 < d.s <;> simp [h]
  have hPl:P.length = if d.neg = true then 1 else 0:=by rw [← hP]; split <;> rfl
  have hRl:R.length = if decide (0 < d.s) = true then 1 + b.length else 0:=by rw [← hR]; split <;> simp [txt_len]; omega
  have a0:0 < a.length:=by omega
  have hA:∀ k,k < a.length→(prL d)[P.length + k]? = some (UInt8.ofNat (48 + (a.getD k 0).toNat)):=fun k hk=>by
    rw [hS,List.getElem?_append_right (by omega),show P.length + k - P.length = k by omega,List.getElem?_append_left (by rw [txt_len]; exact hk)]
    exact txt_get da1 hk
  have:=rdParse_core d.neg (decide (0 < d.s)) a b ⟨(prL d).toArray⟩ P.length w da1 db1 a0 (by omega) (by omega) hPl ?_ ?_ ?_ ?_ ?_ ?_ (fun h=>by have:=of_decide_eq_true h; omega) (fun h=>List.eq_nil_of_length_eq_zero (by have:=of_decide_eq_false h; omega))
  · rw [hl2,← hXab] at this
    exact this
  · intro hn
    have h1:(prL d)[0]? = some 45:=by rw [hS,← hP,if_pos hn]; rfl
    obtain ⟨h2,h3⟩:=ba_get h1
    exact ⟨h2,by rw [h3]; rfl⟩
  · intro hn
    have hp0:P.length = 0:=by rw [hPl,if_neg (by simp [hn])]
    have h1:=hA 0 a0
    rw [hp0] at h1
    obtain ⟨h2,h3⟩:=ba_get h1
    refine ⟨h2,?_⟩
    rw [h3,txt_val da1]
    have:=da1.getD 0
    omega
  · rw [size_mk,hS]
    simp only [List.length_append,txt_len,hRl]
    omega
  · intro k hk
    obtain ⟨h2,h3⟩:=ba_get (hA k hk)
    exact ⟨h2,by rw [h3,txt_val da1]⟩
  · intro hpt
    have h1:(prL d)[P.length + a.length]? = some 46:=by
      rw [hS,List.getElem?_append_right (by omega),List.getElem?_append_right (by rw [txt_len]; omega),txt_len,show P.length + a.length - P.length - a.length = 0 by omega,← hR,if_pos hpt]
      rfl
    obtain ⟨h2,h3⟩:=ba_get h1
    exact ⟨h2,by rw [h3]; rfl⟩
  · intro k hk
    have hpt:decide (0 < d.s) = true:=decide_eq_true (by omega)
    have h1:(prL d)[P.length + a.length + 1 + k]? = some (UInt8.ofNat (48 + (b.getD k 0).toNat)):=by
      rw [hS,List.getElem?_append_right (by omega),List.getElem?_append_right (by rw [txt_len]; omega),txt_len,show P.length + a.length + 1 + k - P.length - a.length = k + 1 by omega,← hR,if_pos hpt,List.getElem?_cons_succ]
      exact txt_get db1 hk
    obtain ⟨h2,h3⟩:=ba_get h1
    exact ⟨h2,by rw [h3,txt_val db1]⟩
end Go.Proofs.YteiomfgehlojeaaGreatDoor
end
section
namespace Go.Proofs.YteiomfgehlojeaaGreatDoor
open Go.RowKit Go.Sym
structure Cg where
  low:Dc
  lowS:Int
  high:Dc
  highS:Int
  step:List Int
  small:Bool
  ic:Int
  fc:Int
  sc:Int
  mi:Int
  mf:Int
  md:Int
  hi:Int
def InI (x:Int):Prop:=-9223372036854775808 ≤ x∧x ≤ 9223372036854775807
structure CgOK (g:Cg):Prop where
  l:∀ x ∈ g.low.l,-9223372036854775808 ≤ x∧x ≤ 9223372036854775807
  ls:InI g.lowS
  h:∀ x ∈ g.high.l,-9223372036854775808 ≤ x∧x ≤ 9223372036854775807
  hs:InI g.highS
  st:∀ x ∈ g.step,-9223372036854775808 ≤ x∧x ≤ 9223372036854775807
  ic:InI g.ic
  fc:InI g.fc
  sc:InI g.sc
  mi:InI g.mi
  mf:InI g.mf
  md:InI g.md
  hi:InI g.hi
def Cg.IC (g:Cg):Nat:=(1 + aroundI g.ic 8).toNat
def Cg.FC (g:Cg):Nat:=(aroundI g.fc 6).toNat
def Cg.SC (g:Cg):Nat:=(aroundI g.sc (g.FC + 1:Nat)).toNat
def Cg.MI (g:Cg):Nat:=(aroundI g.mi (g.IC + 1:Nat)).toNat
def Cg.MF (g:Cg):Nat:=(aroundI g.mf (g.SC + 1:Nat)).toNat
def Cg.MD (g:Cg):Nat:=(aroundI g.md 7).toNat
def Cg.HI (g:Cg):Nat:=(1 + aroundI g.hi 6).toNat
theorem Cg.ic_bd (g:Cg):1 ≤ g.IC∧g.IC ≤ 8∧(g.IC:Int) = 1 + aroundI g.ic 8:=by have:=aroundI_bd g.ic 8 (by omega); unfold Cg.IC; omega
theorem Cg.fc_bd (g:Cg):g.FC ≤ 5∧(g.FC:Int) = aroundI g.fc 6:=by have:=aroundI_bd g.fc 6 (by omega); unfold Cg.FC; omega
theorem Cg.sc_bd (g:Cg):g.SC ≤ g.FC∧(g.SC:Int) = aroundI g.sc (g.FC + 1:Nat):=by have:=aroundI_bd g.sc (g.FC + 1:Nat) (by omega); unfold Cg.SC; omega
theorem Cg.mi_bd (g:Cg):g.MI ≤ g.IC∧(g.MI:Int) = aroundI g.mi (g.IC + 1:Nat):=by have:=aroundI_bd g.mi (g.IC + 1:Nat) (by omega); unfold Cg.MI; omega
theorem Cg.mf_bd (g:Cg):g.MF ≤ g.SC∧(g.MF:Int) = aroundI g.mf (g.SC + 1:Nat):=by have:=aroundI_bd g.mf (g.SC + 1:Nat) (by omega); unfold Cg.MF; omega
theorem Cg.md_bd (g:Cg):g.MD ≤ 6∧(g.MD:Int) = aroundI g.md 7:=by have:=aroundI_bd g.md 7 (by omega); unfold Cg.MD; omega
theorem Cg.hi_bd (g:Cg):1 ≤ g.HI∧g.HI ≤ 6∧(g.HI:Int) = 1 + aroundI g.hi 6:=by have:=aroundI_bd g.hi 6 (by omega); unfold Cg.HI; omega
def Cg.D1 (g:Cg):Dc:=⟨g.low.neg,goodL g.low.l (g.IC + g.SC),g.SC⟩
def Cg.D2 (g:Cg):Dc:=⟨g.high.neg,goodL g.high.l (g.IC + g.SC),g.SC⟩
def Cg.turn (g:Cg):Bool:=decide (0 < cmpD (trimD g.D1) (trimD g.D2))
def Cg.Low (g:Cg):Dc:=if g.turn = true then g.D2 else g.D1
def Cg.High (g:Cg):Dc:=if g.turn = true then g.D1 else g.D2
def Cg.one (g:Cg):Bool:=!g.small && decide (0 < g.step.length)
def Cg.st (g:Cg):Int:=if g.one = true then 1 + aroundI (g.step.getD 0 0) 9 else 1
def Cg.Step (g:Cg):Dc:=⟨false,[g.st],g.SC⟩
theorem Cg.st_bd (g:Cg):1 ≤ g.st∧g.st ≤ 9:=by
  have:=aroundI_bd (g.step.getD 0 0) 9 (by omega)
  unfold Cg.st
  split <;> omega
def oneA (f:FuncId) (x s r:AV):CallT:=fun g args m=>match args with
  | [.agg [.lit (.bool false), .slc b 0 1 1 (.ex 1),s']]=>if Nat.beq g f && avEq s' s then
      match m.H.get b with
      | some (.cells _ [y] _)=>if avEq y x then some (r,m) else none
      | _=>none
    else none
  | _=>none
theorem oneA_ok {B:Base} {f:FuncId} {x s r:AV} {n k:Int} {R:Value} (hx:sv B x = some (.int .i64 n)) (hs:sv B s = some (.int .i64 k)) (hr:sv B r = some R)
    (h:∀ (w:World) (v:Value),IsInts w v [n]→Calls Tryz.prog f #[.agg #[.bool false,v, .int .i64 k]] w fun e w'=>e = .returned R∧Below w.heap.size w w'):CallOK B Tryz.prog (oneA f x s r):=by
  intro g args m q m' hq ρ w xs hm hk hxs
  unfold oneA at hq
  split at hq
  case h_2=>cases hq
  rename_i b s'
  split at hq
  case isFalse=>cases hq
  rename_i hc
  rw [Bool.and_eq_true] at hc
  have:=Nat.eq_of_beq_eq_true hc.1; subst this
  have:=avEq_eq hc.2; subst this
  split at hq
  case h_2=>cases hq
  rename_i e y tg hb
  split at hq
  case isFalse=>cases hq
  rename_i hy
  have:=avEq_eq hy; subst this
  injection hq with hq; injection hq with e1 e2; subst e1; subst e2
  obtain ⟨X,q2,h1,h2,hX⟩:=gams_cons.1 hxs
  rw [gams] at h2; injection h2 with h2; subst h2
  have hxe:xs = #[X]:=by rw [← Array.toList_inj,hX]
  subst hxe
  unfold gam at h1
  cases hg:gams ρ [.lit (.bool false), .slc b 0 1 1 (.ex 1),s'] with
  | none=>rw [hg] at h1; cases h1
  | some ys =>
    rw [hg] at h1
    injection h1 with h1; subst h1
    obtain ⟨p0,r0,g0,g1,rfl⟩:=gams_cons.1 hg
    obtain ⟨p1,r1,g2,g3,rfl⟩:=gams_cons.1 g1
    obtain ⟨p2,r2,g4,g5,rfl⟩:=gams_cons.1 g3
    rw [gams] at g5; injection g5 with g5; subst g5
    injection g0 with g0; subst g0
    have:=sv_gam hk.at_ hs
    rw [this] at g4; injection g4 with g4; subst g4
    obtain ⟨gg,o0,z,arr,vs,b1,b2,b3,b4,b5,b6,b7,_⟩:=hm.live b _ hb
    obtain ⟨y0,r3,b8,b9,rfl⟩:=gams_cons.1 b5
    rw [gams] at b9; injection b9 with b9; subst b9
    have:=sv_gam hk.at_ hx
    rw [this] at b8; injection b8 with b8; subst b8
    unfold gam slcV at g2
    rw [b1] at g2
    simp only [List.length_cons,List.length_nil] at g2
    rw [if_pos (by omega)] at g2
    injection g2 with g2; subst g2
    have hI:IsInts w (.slice (some ⟨gg,o0 + 0,none⟩) 1 1) [n]:=⟨_,_,rfl,Nat.le_refl 1,by show (1:Nat) ≤ _; decide,fun _=>⟨_,_,rfl,fun j hj=>by
      obtain rfl:j = 0:=by simpa using hj
      have:=b7 0 (by simp)
      rw [cell_of_row w gg _ _ _ _ b2]
      simpa using this⟩⟩
    refine (h w _ hI).mono ?_
    rintro e w' ⟨rfl,hb'⟩
    exact ⟨ρ,R,rfl,sv_gam hk.at_ hr, .of_below hm hb'⟩
def rawA {B:Base} {p q:Pat} {k:Nat} {n:Bool} {l:List Int} {s:Int} (hl:HasL B k l) (hp:NP B p (.bool n)) (hq:NP B q (.int .i64 s)):Arg B :=
  ⟨.agg [p, .ls k,q],fun w x=>∃ v,x = .agg #[.bool n,v, .int .i64 s]∧IsInts w v l,⟨hp.wf,wf_ls hl,hq.wf,trivial⟩,fun _ _ _ hx=>by
    obtain ⟨ys,rfl,y0,r0,rfl,a0,y1,r1,rfl,a1,y2,r2,rfl,a2,rfl⟩:=hx
    rw [hp.out a0,hq.out a2]
    exact ⟨y1,rfl,isP_ls hl a1⟩⟩
theorem aroundE {B:Base} {p q r:Pat} {x y z:Int} (hp:NP B p (.int .i64 x)) (hq:NP B q (.int .i64 y)) (hr:NP B r (.int .i64 z)) (hz:z = aroundI x y) (hx:InI x) (hy1:1 ≤ y) (hy2:y ≤ 9223372036854775807):Ent2OK B Tryz.prog ⟨12,[p,q],r⟩:=by
  refine ent_mk [scA hp,scA hq] (scR hr rfl) ?_
  rintro w _ ⟨_,_,rfl,rfl,_,_,rfl,rfl,rfl⟩
  exact (around_any x y w hx.1 hx.2 hy1 hy2).mono (by rintro e w' ⟨rfl,rfl⟩; exact ⟨_,rfl,(by show Value.int .i64 _ = Value.int .i64 _; rw [hz]),Below.refl _ _⟩)
def cfgV (g:Cg):Value:=.agg #[.string ⟨(prL g.Low).toArray⟩, .string ⟨(prL g.High).toArray⟩, .string ⟨(prL g.Step).toArray⟩, .int .i64 g.IC, .int .i64 g.FC, .int .i64 g.SC, .int .i64 g.MI, .int .i64 g.MF, .int .i64 g.MD, .int .i64 g.HI]
def cgV (v1 v2 v3:Value) (g:Cg):Value:=.agg #[.bool g.low.neg,v1, .int .i64 g.lowS, .bool g.high.neg,v2, .int .i64 g.highS,v3, .bool g.small, .int .i64 g.ic, .int .i64 g.fc, .int .i64 g.sc, .int .i64 g.mi, .int .i64 g.mf, .int .i64 g.md, .int .i64 g.hi]
theorem rcGood_any (v1 v2 v3:Value) (g:Cg) (w:World) (h1:IsInts w v1 g.low.l) (h2:IsInts w v2 g.high.l) (h3:IsInts w v3 g.step) (ho:CgOK g) :
    Calls Tryz.prog 7 #[cgV v1 v2 v3 g] w fun e w'=>e = .returned (cfgV g)∧Below w.heap.size w w':=by
  obtain ⟨i1,i2,i3⟩:=g.ic_bd
  obtain ⟨f1,f2⟩:=g.fc_bd
  obtain ⟨s1,s2⟩:=g.sc_bd
  obtain ⟨m1,m2⟩:=g.mi_bd
  obtain ⟨n1,n2⟩:=g.mf_bd
  obtain ⟨o1,o2⟩:=g.md_bd
  obtain ⟨p1,p2,p3⟩:=g.hi_bd
  have ha1:=aroundI_bd g.lowS 10 (by omega)
  have ha2:=aroundI_bd g.highS 10 (by omega)
  obtain ⟨tb,htb⟩:∃ b,g.turn = b:=⟨_,rfl⟩
  obtain ⟨sm,hsm⟩:∃ b,g.small = b:=⟨_,rfl⟩
  obtain ⟨q,hq⟩:∃ b,decide (0 < g.step.length) = b:=⟨_,rfl⟩
  have hob:g.one = (!sm && q):=by rw [← hsm,← hq]; rfl
  let L:List (Nat × Value):=lAl 60 g.low.l ++ lAl 61 g.high.l ++ lAl 62 g.step ++ lAl 63 g.D1.l ++ lAl 65 g.D2.l ++
    [(12480, .bool g.low.neg), (12484, .int .i64 g.lowS), (12488, .bool g.high.neg), (12492, .int .i64 g.highS),
     (12152, .int .i64 g.ic),(12156, .int .i64 g.fc),(12160, .int .i64 g.sc),(12164, .int .i64 g.mi),(12168, .int .i64 g.mf),(12172, .int .i64 g.md),(12176, .int .i64 g.hi),
     (4004, .int .i64 g.IC),(4008, .int .i64 g.FC),(4012, .int .i64 g.SC),(4016, .int .i64 g.MI),(4020, .int .i64 g.MF),(4024, .int .i64 g.MD),(4028, .int .i64 g.HI),
     (5000, .int .i64 (aroundI g.ic 8)),(5004, .int .i64 (aroundI g.hi 6)),(5008, .int .i64 (g.FC + 1:Nat)),(5012, .int .i64 (g.IC + 1:Nat)),(5016, .int .i64 (g.SC + 1:Nat)),(5020, .int .i64 (g.IC + g.SC:Nat)),
     (5024, .int .i64 ((aroundI g.lowS 10).toNat:Int)),(5028, .int .i64 ((aroundI g.highS 10).toNat:Int)),(5036, .int .i64 (cmpD (trimD g.D1) (trimD g.D2))),(5040, .int .i64 (g.step.length:Nat)),(5044, .int .i64 (g.step.getD 0 0)),(5048, .int .i64 (aroundI (g.step.getD 0 0) 9)),(5052, .int .i64 g.st),
     (12300, .string ⟨(prL g.D1).toArray⟩),(12304, .string ⟨(prL g.D2).toArray⟩),(12308, .string ⟨(prL g.Step).toArray⟩)]
  have a60:HasL (bas w L) 60 g.low.l:=⟨by decide,rfl⟩
  have a61:HasL (bas w L) 61 g.high.l:=⟨by decide,rfl⟩
  have a62:HasL (bas w L) 62 g.step:=⟨by decide,rfl⟩
  have A1:HasG (bas w L) (.at_ 12480) 63 (.at_ 5024) (goodD g.low.neg g.low.l g.lowS (g.IC + g.SC)):=⟨⟨by decide,rfl⟩, .atm rfl, .atm rfl⟩
  have A2:HasG (bas w L) (.at_ 12488) 65 (.at_ 5028) (goodD g.high.neg g.high.l g.highS (g.IC + g.SC)):=⟨⟨by decide,rfl⟩, .atm rfl, .atm rfl⟩
  have E1:HasG (bas w L) (.at_ 12480) 63 (.at_ 4012) g.D1:=⟨⟨by decide,rfl⟩, .atm rfl, .atm rfl⟩
  have E2:HasG (bas w L) (.at_ 12488) 65 (.at_ 4012) g.D2:=⟨⟨by decide,rfl⟩, .atm rfl, .atm rfl⟩
  have l1:g.D1.l.length ≤ 13:=by show (goodL _ _).length ≤ _; rw [goodL_len]; omega
  have l2:g.D2.l.length ≤ 13:=by show (goodL _ _).length ≤ _; rw [goodL_len]; omega
  have d1:Dg g.D1.l:=goodL_dg _ _
  have d2:Dg g.D2.l:=goodL_dg _ _
  have sc1:g.SC ≤ 5:=by omega
  have h':Ent2OK (bas w L) Tryz.prog ⟨7,[.agg [.at_ 12480, .ls 60, .at_ 12484, .at_ 12488, .ls 61, .at_ 12492, .ls 62, .val (.bool sm), .at_ 12152, .at_ 12156, .at_ 12160, .at_ 12164, .at_ 12168, .at_ 12172, .at_ 12176]],
      .agg [.at_ (if tb = true then 12304 else 12300), .at_ (if tb = true then 12300 else 12304), .at_ 12308, .at_ 4004, .at_ 4008, .at_ 4012, .at_ 4016, .at_ 4020, .at_ 4024, .at_ 4028]⟩:=by
    refine run_mk (by kernel_rfl) rfl (T:=tbE (tbL [⟨.add, .lit (.int .i64 1), .atom 5000, .atom 4004⟩,⟨.add, .lit (.int .i64 1), .atom 5004, .atom 4028⟩,⟨.add, .atom 4008, .lit (.int .i64 1), .atom 5008⟩,⟨.add, .atom 4004, .lit (.int .i64 1), .atom 5012⟩,⟨.add, .atom 4012, .lit (.int .i64 1), .atom 5016⟩,
        ⟨.add, .atom 4004, .atom 4012, .atom 5020⟩,⟨.gtr, .atom 5036, .lit (.int .i64 0), .lit (.bool tb)⟩,⟨.gtr, .atom 5040, .lit (.int .i64 0), .lit (.bool q)⟩,⟨.add, .lit (.int .i64 1), .atom 5048,if (!sm && q) = true then .atom 5052 else .lit (.int .i64 (1 + aroundI (g.step.getD 0 0) 9))⟩] [] [] [⟨62, .atom 5040⟩]) (if q = true then [⟨62,0, .atom 5044⟩] else [])) ?tb
      (orc:=orcOr (ent2A [⟨12,[.at_ 12152, .val (.int .i64 8)], .at_ 5000⟩,⟨12,[.at_ 12156, .val (.int .i64 6)], .at_ 4008⟩,⟨12,[.at_ 12172, .val (.int .i64 7)], .at_ 4024⟩,⟨12,[.at_ 12176, .val (.int .i64 6)], .at_ 5004⟩,
        ⟨12,[.at_ 12160, .at_ 5008], .at_ 4012⟩,⟨12,[.at_ 12164, .at_ 5012], .at_ 4016⟩,⟨12,[.at_ 12168, .at_ 5016], .at_ 4020⟩,⟨12,[.at_ 5044, .val (.int .i64 9)], .at_ 5048⟩,
        ⟨27,[.agg [.at_ 12480, .ls 60, .at_ 12484], .at_ 5020],decG (.at_ 12480) 63 (.at_ 5024)⟩,⟨27,[.agg [.at_ 12488, .ls 61, .at_ 12492], .at_ 5020],decG (.at_ 12488) 65 (.at_ 5028)⟩,
        ⟨18,[decG (.at_ 12480) 63 (.at_ 4012),decG (.at_ 12488) 65 (.at_ 4012)], .at_ 5036⟩,⟨28,[decG (.at_ 12480) 63 (.at_ 4012)], .at_ 12300⟩,⟨28,[decG (.at_ 12488) 65 (.at_ 4012)], .at_ 12304⟩])
        (oneA 28 (if (!sm && q) = true then .atom 5052 else .lit (.int .i64 1)) (.atom 4012) (.atom 12308))) (orcOr_ok (ent2_ok ?ent) ?one) ?hw ?hr ?run
    case tb =>
      refine tbE_ok (tbL_ok ?_ nilF nilF ?_) ?_
      · refine consF (binI (x:=1) (y:=aroundI g.ic 8) rfl rfl rfl (run_addI (by rw [wrap64 _ (by omega) (by omega)]; omega))) <|
          consF (binI (x:=1) (y:=aroundI g.hi 6) rfl rfl rfl (run_addI (by rw [wrap64 _ (by omega) (by omega)]; omega))) <|
          consF (binI (x:=(g.FC:Int)) (y:=1) rfl rfl rfl (run_addI (by rw [wrap64 _ (by omega) (by omega)]; omega))) <|
          consF (binI (x:=(g.IC:Int)) (y:=1) rfl rfl rfl (run_addI (by rw [wrap64 _ (by omega) (by omega)]; omega))) <|
          consF (binI (x:=(g.SC:Int)) (y:=1) rfl rfl rfl (run_addI (by rw [wrap64 _ (by omega) (by omega)]; omega))) <|
          consF (binI (x:=(g.IC:Int)) (y:=(g.SC:Int)) rfl rfl rfl (run_addI (by rw [wrap64 _ (by omega) (by omega)]; omega))) <|
          consF (binI (x:=cmpD (trimD g.D1) (trimD g.D2)) (y:=0) rfl rfl rfl (run_gtrI htb)) <|
          consF (binI (x:=(g.step.length:Int)) (y:=0) rfl rfl rfl (run_gtrI (by rw [← hq,decide_eq_decide]; omega))) <|
          consF ?_ nilF
        have ha3:=aroundI_bd (g.step.getD 0 0) 9 (by omega)
        refine binI (x:=1) (y:=aroundI (g.step.getD 0 0) 9) (v:=.int .i64 (1 + aroundI (g.step.getD 0 0) 9)) rfl rfl ?_ (run_addI (by rw [wrap64 _ (by omega) (by omega)]))
        by_cases hc:(!sm && q) = true
        · rw [if_pos hc]
          show some (Value.int .i64 g.st) = _
          unfold Cg.st
          rw [hob,if_pos hc]
        · rw [if_neg hc]
          rfl
      · exact consF ⟨_,a62.2,by show some (Value.int .i64 (g.step.length:Nat)) = _; simp [ints]⟩ nilF
      · split
        · next hq1 =>
          rw [hq1] at hq
          refine consF ⟨_, .int .i64 (g.step.getD 0 0),a62.2,?_,rfl⟩ nilF
          have hq:=of_decide_eq_true hq
          simp [ints,List.getD_eq_getElem?_getD,List.getElem?_eq_getElem hq]
        · exact nilF
    case ent =>
      have hsi:InI (g.step.getD 0 0):=by
        unfold InI
        rw [List.getD_eq_getElem?_getD]
        cases hc:g.step[0]? with
        | none=>exact ⟨by decide,by decide⟩
        | some x=>exact ho.st x (List.mem_of_getElem? hc)
      refine consF (aroundE (.atm rfl) (.val _) (.atm rfl) rfl ho.ic (by omega) (by omega)) <| consF (aroundE (.atm rfl) (.val _) (.atm rfl) f2 ho.fc (by omega) (by omega)) <| consF (aroundE (.atm rfl) (.val _) (.atm rfl) o2 ho.md (by omega) (by omega)) <| consF (aroundE (.atm rfl) (.val _) (.atm rfl) rfl ho.hi (by omega) (by omega)) <|
        consF (aroundE (.atm rfl) (.atm rfl) (.atm rfl) s2 ho.sc (by omega) (by omega)) <| consF (aroundE (.atm rfl) (.atm rfl) (.atm rfl) m2 ho.mi (by omega) (by omega)) <| consF (aroundE (.atm rfl) (.atm rfl) (.atm rfl) n2 ho.mf (by omega) (by omega)) <| consF (aroundE (.atm rfl) (.val _) (.atm rfl) rfl hsi (by omega) (by omega)) <|
        consF (ent_mk [rawA (n:=g.low.neg) (s:=g.lowS) a60 (.atm rfl) (.atm rfl),scA (.atm (v:=.int .i64 (g.IC + g.SC:Nat)) rfl)] (deR' A1) ?_) <| consF (ent_mk [rawA (n:=g.high.neg) (s:=g.highS) a61 (.atm rfl) (.atm rfl),scA (.atm (v:=.int .i64 (g.IC + g.SC:Nat)) rfl)] (deR' A2) ?_) <|
        consF (ent_mk [deA E1,deA E2] (scR (.atm (v:=.int .i64 (cmpD (trimD g.D1) (trimD g.D2))) rfl) rfl) ?_) <| consF (ent_mk [deA E1] (scR (.atm (v:=.string ⟨(prL g.D1).toArray⟩) rfl) rfl) ?_) <| consF (ent_mk [deA E2] (scR (.atm (v:=.string ⟨(prL g.D2).toArray⟩) rfl) rfl) ?_) nilF
      · rintro w _ ⟨_,_,rfl,⟨v,rfl,hv⟩,_,_,rfl,rfl,rfl⟩
        exact (rdGood_any v _ _ _ _ w hv ho.l ho.ls.1 ho.ls.2 (by omega)).mono (by rintro e w' ⟨sl,rfl,hi,hf,hb⟩; exact ⟨_,rfl,⟨sl,rfl,hi,hf⟩,hb⟩)
      · rintro w _ ⟨_,_,rfl,⟨v,rfl,hv⟩,_,_,rfl,rfl,rfl⟩
        exact (rdGood_any v _ _ _ _ w hv ho.h ho.hs.1 ho.hs.2 (by omega)).mono (by rintro e w' ⟨sl,rfl,hi,hf,hb⟩; exact ⟨_,rfl,⟨sl,rfl,hi,hf⟩,hb⟩)
      · rintro w _ ⟨_,_,rfl,⟨v,rfl,hv⟩,_,_,rfl,⟨u,rfl,hu⟩,rfl⟩
        exact (rdCompare_any v u g.D1 g.D2 w hv hu d1 d2 (by omega) (by omega) (by show g.SC ≤ 40; omega) (by show g.SC ≤ 40; omega)).mono (by rintro e w' ⟨rfl,hb⟩; exact ⟨_,rfl,rfl,hb⟩)
      · rintro w _ ⟨_,_,rfl,⟨v,rfl,hv⟩,rfl⟩
        exact (rdPrint_any v g.D1 w hv d1 (by omega) (by show g.SC ≤ 100; omega)).mono (by rintro e w' ⟨rfl,hb⟩; exact ⟨_,rfl,rfl,hb⟩)
      · rintro w _ ⟨_,_,rfl,⟨v,rfl,hv⟩,rfl⟩
        exact (rdPrint_any v g.D2 w hv d2 (by omega) (by show g.SC ≤ 100; omega)).mono (by rintro e w' ⟨rfl,hb⟩; exact ⟨_,rfl,rfl,hb⟩)
    case one =>
      have hst:=g.st_bd
      refine oneA_ok (n:=g.st) (k:=(g.SC:Int)) (R:=.string ⟨(prL g.Step).toArray⟩) ?_ rfl rfl ?_
      · by_cases hc:(!sm && q) = true
        · rw [if_pos hc]; rfl
        · rw [if_neg hc]
          have:g.st = 1:=by unfold Cg.st; rw [hob,if_neg hc]
          rw [this]; rfl
      · intro w v hv
        refine rdPrint_any v g.Step w hv ?_ (by show [g.st].length ≤ _; simp) (by show g.SC ≤ 100; omega)
        intro x hx
        have:x = g.st:=by simpa [Cg.Step] using hx
        rw [this]
        omega
    case hw=>exact ⟨⟨⟨_,rfl⟩,wf_ls a60,⟨_,rfl⟩,⟨_,rfl⟩,wf_ls a61,⟨_,rfl⟩,wf_ls a62,trivial,⟨_,rfl⟩,⟨_,rfl⟩,⟨_,rfl⟩,⟨_,rfl⟩,⟨_,rfl⟩,⟨_,rfl⟩,⟨_,rfl⟩,trivial⟩,trivial⟩
    case hr=>cases tb <;> exact ⟨⟨_,rfl⟩,⟨_,rfl⟩,⟨_,rfl⟩,⟨_,rfl⟩,⟨_,rfl⟩,⟨_,rfl⟩,⟨_,rfl⟩,⟨_,rfl⟩,⟨_,rfl⟩,⟨_,rfl⟩,trivial⟩
    case run =>
      cases tb <;> cases sm <;> cases q <;> kernel_rfl
  refine (h'.2 w (bas_under _ _ _) [cgV v1 v2 v3 g] ⟨_,_,rfl,⟨_,rfl,_,_,rfl,⟨rfl,rfl⟩,_,_,rfl,to_ls' a60 h1 (fun _ _ _=>trivial),_,_,rfl,⟨rfl,rfl⟩,_,_,rfl,⟨rfl,rfl⟩,_,_,rfl,to_ls' a61 h2 (fun _ _ _=>trivial),_,_,rfl,⟨rfl,rfl⟩,_,_,rfl,to_ls' a62 h3 (fun _ _ _=>trivial),_,_,rfl,(by rw [hsm]; rfl),_,_,rfl,⟨rfl,rfl⟩,_,_,rfl,⟨rfl,rfl⟩,_,_,rfl,⟨rfl,rfl⟩,_,_,rfl,⟨rfl,rfl⟩,_,_,rfl,⟨rfl,rfl⟩,_,_,rfl,⟨rfl,rfl⟩,_,_,rfl,⟨rfl,rfl⟩,rfl⟩,rfl⟩).mono ?_
  rintro e w' ⟨x,rfl,⟨ys,rfl,y0,_,rfl,b0,y1,_,rfl,b1,y2,_,rfl,b2,y3,_,rfl,b3,y4,_,rfl,b4,y5,_,rfl,b5,y6,_,rfl,b6,y7,_,rfl,b7,y8,_,rfl,b8,y9,_,rfl,b9,rfl⟩,hb⟩
  refine ⟨?_,hb⟩
  rw [(NP.atm (v:=.string ⟨(prL g.Step).toArray⟩) rfl).out b2,(NP.atm (v:=.int .i64 g.IC) rfl).out b3,(NP.atm (v:=.int .i64 g.FC) rfl).out b4,(NP.atm (v:=.int .i64 g.SC) rfl).out b5,(NP.atm (v:=.int .i64 g.MI) rfl).out b6,(NP.atm (v:=.int .i64 g.MF) rfl).out b7,(NP.atm (v:=.int .i64 g.MD) rfl).out b8,(NP.atm (v:=.int .i64 g.HI) rfl).out b9]
  unfold cfgV Cg.Low Cg.High
  rw [htb]
  cases tb
  · rw [(NP.atm (v:=.string ⟨(prL g.D1).toArray⟩) rfl).out b0,(NP.atm (v:=.string ⟨(prL g.D2).toArray⟩) rfl).out b1]
    rfl
  · rw [(NP.atm (v:=.string ⟨(prL g.D2).toArray⟩) rfl).out b0,(NP.atm (v:=.string ⟨(prL g.D1).toArray⟩) rfl).out b1]
    rfl
end Go.Proofs.YteiomfgehlojeaaGreatDoor
end
