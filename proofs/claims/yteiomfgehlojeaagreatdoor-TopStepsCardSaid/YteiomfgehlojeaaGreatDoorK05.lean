/- The claim TopSteps, part 5 of 46: Dc1, Dc2, Dc3, Dc4, Dc5, Dc6, Dc7, Dc8, Df1, Df2, Rf1, Rf2, Rf3, Rf4, Rf5, Same, Rf6, Rd1, Rd2, Rd3, Cf1, Cf2, NumL -/
import Derived.Test.YteiomfgehlojeaaGreatDoorK04
import Derived.Deep.RegionLaw
import Derived.Laws.CopyOwn
import Derived.OwnWalk
import Derived.Laws.OwnMore
set_option linter.unusedVariables false
set_option linter.unusedSimpArgs false
section
namespace Go.Proofs.YteiomfgehlojeaaGreatDoor
open Go.RowKit
def dv (sl:Value) (d:Dc):Value:=.agg #[.bool d.neg,sl, .int .i64 d.s]
set_option maxHeartbeats 4000000 in
theorem decMay_any (v:Value) (d:Dc) (w:World) (ha:IsInts w v d.l) (da:Dg d.l) (hs:d.s ≤ 1000) :
    Calls Tryz.prog 72 #[dv v d] w fun e w'=>e = .returned (.bool true)∧Below w.heap.size w w':=by
  obtain ⟨n,l,s⟩:=d
  simp only [dv] at *
  have HM:=Lib.hid (fun w1 (h:Below w.heap.size w w1)=>dmay_any v l w1 (ha.below h (Nat.le_refl _)) da)
  have HB:=Lib.hid (fun o=>(Below.refl w.heap.size w).alloc (Nat.le_refl _) o)
  have h1:decide ((s:Int) ≤ 1000) = true:=decide_eq_true (by omega)
  go_enter Tryz.func72,Tryz.ntmps72
  go_wp2_with (first
    | (go_at_call 148; refine (HM.out _ (HB.out _)).mono ?_; rintro e w' ⟨rfl,rfl⟩))
  go_ret
  exact ⟨rfl,HB.out _⟩
structure TrimAt (w wr:World) (n:Bool) (v0:Value) (A:Option Addr) (c:Nat) (kl:List Int) (k:Nat):Prop where
  ints:IsInts wr (.slice A kl.length c) kl
  far:From (w.heap.size + 2) (.slice A kl.length c)
  z1:Blk3 wr w.heap.size (.bool n) v0 (.int .i64 k)
  z2:Blk3 wr (w.heap.size + 1) (.bool false) (.slice none 0 0) (.int .i64 0)
  bel:Below w.heap.size w wr
set_option maxHeartbeats 4000000 in
theorem decTrim_any (v:Value) (d:Dc) (w:World) (ha:IsInts w v d.l) (hl:d.l.length ≤ 1000000) (hs:d.s ≤ 1000) :
    Calls Tryz.prog 21 #[dv v d] w fun e w'=>∃ sl,e = .returned (dv sl (trimD d))∧IsInts w' sl (trimD d).l∧From w.heap.size sl∧Below w.heap.size w w':=by
  obtain ⟨td,htd⟩:∃ td,trimD d = td:=⟨_,rfl⟩
  rw [htd]
  obtain ⟨n,l,s⟩:=d
  simp only [dv] at *
  obtain ⟨W2,hW2⟩:∃ W2,(w.alloc (Obj.cells #[.bool n,v, .int .i64 s] 73)).alloc (Obj.cells #[.bool false, .slice none 0 0, .int .i64 0] 73) = W2:=⟨_,rfl⟩
  have hsz2:W2.heap.size = w.heap.size + 2:=by rw [← hW2]; simp
  have hB2:Below w.heap.size w W2:=by rw [← hW2]; exact ((Below.refl _ w).alloc (Nat.le_refl _) _).alloc (by simp) _
  have z2:Blk3 W2 (w.heap.size + 1) (.bool false) (.slice none 0 0) (.int .i64 0):=by
    rw [← hW2]
    have:=Blk3.new (w.alloc (Obj.cells #[.bool n,v, .int .i64 s] 73)) (.bool false) (.slice none 0 0) (.int .i64 0)
    simpa using this
  have z1:Blk3 W2 w.heap.size (.bool n) v (.int .i64 s):=by
    rw [← hW2]
    exact (Blk3.new w _ _ _).keep (heap_alloc_old _ _ (by simp))
  have q1:=z1.c1
  have HT:=Lib.hid (dtrim_any v l W2 (ha.below hB2 (Nat.le_refl _)) hl)
  have HW2:=Lib.hid hW2
  have Z:=aside (And.intro z1 (And.intro z2 hB2))
  have HD:=Lib.hid htd
  clear hW2 z1 z2 hB2 htd ha
  go_enter Tryz.func21,Tryz.ntmps21
  go_wp2_with fail
  rw [HW2.out]
  go_wp2_with (first
    | (go_at_call 54; refine HT.out.mono ?_; rintro e w4 ⟨v4,rfl,o4,b4⟩))
  go_loopw [3] (fun v3 wr=>∃ (A:Option Addr) (c:Nat) (kl:List Int) (k:Nat),v3 = .slice A kl.length c∧k ≤ 1000∧kl.length ≤ 1000000∧Aside (TrimAt w wr n v A c kl k∧stripZ kl k = stripZ (trimL l) s)) (fun v3 _=>match v3 with | .slice _ n _=>n | _=>0)
  case atStart =>
    have hI:=IsInts.of_own o4
    obtain ⟨A,c,rfl,-⟩:∃ A c,v4 = .slice A (trimL l).length c∧True:=by obtain ⟨A,c,he,_⟩:=hI; exact ⟨A,c,he,trivial⟩
    have hlt:(trimL l).length ≤ l.length:=(List.dropWhile_sublist _).length_le
    exact ⟨A,c,trimL l,s,rfl,hs,by omega,⟨hI,fun k hk=>by have:=(o4.lt k hk).1; omega,Z.out.1.below b4 (by omega),Z.out.2.1.below b4 (by omega),Z.out.2.2.trans (b4.mono (by omega))⟩,rfl⟩
  case round =>
    obtain ⟨A,c,kl,k,rfl,hk,hkl,HR⟩:=hrel
    have p0:=HR.out.1.z1.c0
    have p1:=HR.out.1.z1.c1
    have p2:=HR.out.1.z1.c2
    have pf:=HR.out.1.z1.fz
    have r0:=HR.out.1.z2.c0
    have r1:=HR.out.1.z2.c1
    have r2:=HR.out.1.z2.c2
    have rf:=HR.out.1.z2.fz
    clear q1
    rcases List.eq_nil_or_concat kl with rfl | ⟨m,x,rfl⟩
    · have HE:Hid (td = ⟨false,[],0⟩):=by
        rw [← HD.out]
        have h:=HR.out.2
        unfold trimD
        rw [if_pos (by rw [← h]; exact stripZ_nil k)]
        exact rfl
      have h0:decide ((0:Int) < (k:Int)) = decide (0 < k):=by simp
      clear HD o4 b4
      rcases Nat.eq_zero_or_pos k with rfl | hk0
      all_goals
        go_wp2
        refine bodyPost_ret_by (results_cell_row (by rfl) _ _ (w.heap.size + 1) _ _ _ _ rfl (Blk3.setAll HR.out.1.z2 _ _ _) Tryz.underlying73 rfl (by kernel_rfl)) rfl ?_
        refine ⟨.slice none 0 0,by (rw [HE.out]; try rfl),?_,fun q hq=>by simp [Value.ownBlock] at hq,?_⟩
        · rw [HE.out]; exact IsInts.nil_ _ _ _ (by omega)
        · exact ((HR.out.1.bel.setCell (p:=⟨w.heap.size + 1,0,none⟩) (by simp) _).setCell (p:=⟨w.heap.size + 1,1,none⟩) (by simp) _).setCell (p:=⟨w.heap.size + 1,2,none⟩) (by simp) _
    · rw [List.concat_eq_append] at *
      obtain ⟨b,off,rfl,hn,hc1,hc2,hcell⟩:=HR.out.1.ints.last
      by_cases hgo:0 < k∧x = 0
      · obtain ⟨hk0,rfl⟩:=hgo
        obtain ⟨k1,hk1⟩:∃ k',k = k' + 1:=⟨k - 1,by omega⟩
        obtain ⟨N,hN⟩:∃ N,m.length + 1 = N:=⟨_,rfl⟩
        have hw1:IntKind.i64.wrap ((k:Int) - 1) = (k1:Int):=by rw [wrap_in _ (by omega) (by omega)]; omega
        have hw2:IntKind.i64.wrap ((N:Int) - 1) = (m.length:Int):=by rw [wrap_in _ (by omega) (by omega)]; omega
        have hw3:IntKind.i64.wrap ((m.length:Nat):Int) = (m.length:Int):=wrap_in _ (by omega) (by omega)
        have hmc:m.length ≤ c:=by omega
        have hw4:IntKind.i64.wrap (k1:Int) = (k1:Int):=wrap_in _ (by omega) (by omega)
        have HR2:=HR
        have HX:=Lib.hid hn
        rw [hn,hN] at hkl ⊢
        clear hn HR
        have hcell2:wr.cell? ⟨b,off + (N - 1),none⟩ = some (.int .i64 0):=by rw [← hcell]; congr 2; omega
        go_wp2
        go_region_with fail
        all_goals
          go_wp2
          go_roundw
          case rel =>
            have F:=HR2.out.1
            have hb:=F.bel.setCell (p:=⟨w.heap.size,2,none⟩) (by simp) (.int .i64 (k1:Int))
            refine ⟨_,c,m,k1,rfl,by omega,by omega,⟨?_,?_,?_,?_,⟨hb.os,hb.tape,hb.output,hb.size,hb.block⟩⟩,?_⟩
            · exact (IsInts.front F.ints).far (B:=w.heap.size + 2) (fun q hq=>F.far q (by simpa [Value.ownBlock] using hq)) (by show w.heap.size < _; omega) _
            · exact fun q hq=>F.far q (by simpa [Value.ownBlock] using hq)
            · have:=F.z1.set2 (.int .i64 (k1:Int))
              exact this
            · exact F.z2.far (p:=⟨w.heap.size,2,none⟩) (by simp) _
            · rw [← HR2.out.2,hk1,stripZ_snoc]
          case measure=>simp; omega
      · have HE:Hid (td = ⟨n,m ++ [x],k⟩):=by
          rw [← HD.out]
          have h:=HR.out.2
          have h2:stripZ (m ++ [x]) k = (m ++ [x],k):=by
            cases k with
            | zero=>rfl
            | succ k=>rw [stripZ,if_neg (by simp; omega)]
          unfold trimD
          rw [← h,h2]
          show _ = _
          simp
        have HX:=Lib.hid hn
        have HR2:=HR
        have hsl:IsInts wr (.slice (some ⟨b,off,none⟩) (m.length + 1) c) (m ++ [x]):=by rw [← hn]; exact HR.out.1.ints
        have hfa:From (w.heap.size + 2) (.slice (some ⟨b,off,none⟩) (m.length + 1) c):=by rw [← hn]; exact HR.out.1.far
        rw [hn] at hkl ⊢
        have HS:=aside (And.intro hsl hfa)
        clear hn HR HD o4 b4 hsl hfa
        rcases Nat.eq_zero_or_pos k with rfl | hk0
        · go_wp2
          refine bodyPost_ret_by (results_cell_row (by rfl) _ _ (w.heap.size + 1) _ _ _ _ rfl (Blk3.setAll HR2.out.1.z2 _ _ _) Tryz.underlying73 rfl (by kernel_rfl)) rfl ?_
          refine ⟨.slice (some ⟨b,off,none⟩) (m.length + 1) c,by (rw [HE.out]; try rfl),?_,fun q hq=>by have:=HS.out.2 q hq; omega,?_⟩
          · rw [HE.out]; exact ((HS.out.1.far HS.out.2 (by show w.heap.size + _ < _; omega) _).far HS.out.2 (by show w.heap.size + _ < _; omega) _).far HS.out.2 (by show w.heap.size + _ < _; omega) _
          · exact ((HR2.out.1.bel.setCell (p:=⟨w.heap.size + 1,0,none⟩) (by simp) _).setCell (p:=⟨w.heap.size + 1,1,none⟩) (by simp) _).setCell (p:=⟨w.heap.size + 1,2,none⟩) (by simp) _
        · have hx:x ≠ 0:=fun h=>hgo ⟨hk0,h⟩
          have hx2:decide (x = 0) = false:=decide_eq_false hx
          go_wp2
          refine bodyPost_ret_by (results_cell_row (by rfl) _ _ (w.heap.size + 1) _ _ _ _ rfl (Blk3.setAll HR2.out.1.z2 _ _ _) Tryz.underlying73 rfl (by kernel_rfl)) rfl ?_
          refine ⟨.slice (some ⟨b,off,none⟩) (m.length + 1) c,by (rw [HE.out]; try rfl),?_,fun q hq=>by have:=HS.out.2 q hq; omega,?_⟩
          · rw [HE.out]; exact ((HS.out.1.far HS.out.2 (by show w.heap.size + _ < _; omega) _).far HS.out.2 (by show w.heap.size + _ < _; omega) _).far HS.out.2 (by show w.heap.size + _ < _; omega) _
          · exact ((HR2.out.1.bel.setCell (p:=⟨w.heap.size + 1,0,none⟩) (by simp) _).setCell (p:=⟨w.heap.size + 1,1,none⟩) (by simp) _).setCell (p:=⟨w.heap.size + 1,2,none⟩) (by simp) _
end Go.Proofs.YteiomfgehlojeaaGreatDoor
end
section
namespace Go.Proofs.YteiomfgehlojeaaGreatDoor
open Go.RowKit
theorem own_far {w:World} {B N:Nat} {t:TypeId} {v:Value} {n:Nat} {xs:List Value} (h:w.ownsRow B t 1 v n xs) (hN:N ≤ B):From N v:=fun k hk=>Nat.le_trans hN (h.lt k hk).1
theorem IsInts.set3 {w:World} {v:Value} {l:List Int} {B g:Nat} (h:IsInts w v l) (hf:From B v) (hg:g < B) (x y z:Value):IsInts (((w.setCell ⟨g,0,none⟩ x).setCell ⟨g,1,none⟩ y).setCell ⟨g,2,none⟩ z) v l :=
  ((h.far hf (p:=⟨g,0,none⟩) hg x).far hf (p:=⟨g,1,none⟩) hg y).far hf (p:=⟨g,2,none⟩) hg z
set_option maxHeartbeats 4000000 in
theorem decTimes_any (v:Value) (d:Dc) (n:Int) (w:World) (ha:IsInts w v d.l) (da:Dg d.l) (hl:d.l.length ≤ 100) (hs:d.s ≤ 1000) (hn:n.natAbs ≤ 1000) :
    Calls Tryz.prog 467 #[dv v d, .int .i64 n] w fun e w'=>∃ sl,e = .returned (.tuple #[dv sl (trimD ⟨d.neg != decide (n < 0),digs (n.natAbs * num d.l),d.s⟩), .int .i64 0]) ∧
      IsInts w' sl (trimD ⟨d.neg != decide (n < 0),digs (n.natAbs * num d.l),d.s⟩).l∧From w.heap.size sl∧Below w.heap.size w w':=by
  obtain ⟨td,htd⟩:∃ td,trimD ⟨d.neg != decide (n < 0),digs (n.natAbs * num d.l),d.s⟩ = td:=⟨_,rfl⟩
  have hlen:(digs (n.natAbs * num d.l)).length ≤ 1000000:=by
    have:(digs (n.natAbs * num d.l)).length ≤ 104:=digs_len_le (by
      have h1:=num_lt da
      have h2:10 ^ d.l.length ≤ 10 ^ 100:=Nat.pow_le_pow_right (by omega) hl
      have h3:n.natAbs * num d.l ≤ 1000 * num d.l:=Nat.mul_le_mul_right _ hn
      have h4:(10:Nat) ^ 104 = 10000 * 10 ^ 100:=by rw [show (104:Nat) = 4 + 100 from rfl,Nat.pow_add]
      rw [h4]
      generalize (10:Nat) ^ 100 = P at *
      omega)
    omega
  obtain ⟨L,hL⟩:∃ L,digs (n.natAbs * num d.l) = L:=⟨_,rfl⟩
  obtain ⟨W2,hW2,hsz2,z1,z2,hB2⟩:=boxes2 w (.bool d.neg) v (.int .i64 d.s) (.bool false) (.slice none 0 0) (.int .i64 0)
  have HM:=Lib.hid (decMay_any v d W2 (ha.below hB2 (Nat.le_refl _)) da hs)
  have HT:=Lib.hid (fun W (hB:Below W2.heap.size W2 W)=>dtimes_any v d.l n.natAbs W ((ha.below hB2 (Nat.le_refl _)).below hB (Nat.le_refl _)) da hl hn)
  rw [hL] at HT htd hlen
  rw [hL,htd]
  have HR:=Lib.hid (fun (W:World) (sl:Value) (h:IsInts W sl L)=>by have:=decTrim_any sl ⟨!(d.neg == decide (n < 0)),L,d.s⟩ W h hlen hs; rw [show (!(d.neg == decide (n < 0))) = (d.neg != decide (n < 0)) from rfl,htd] at this; exact (show Calls Tryz.prog 21 #[dv sl ⟨!(d.neg == decide (n < 0)),L,d.s⟩] W _ from this))
  have HW2:=Lib.hid hW2
  have HZ:=Lib.hid (fun W (hB:Below W2.heap.size W2 W)=>(z1.below hB (by omega)).bx)
  have Z2:=Lib.hid z2
  have HB2:=Lib.hid hB2
  have hg1:decide (n < -1000) = false:=decide_eq_false (by omega)
  have hg2:decide ((1000:Int) < n) = false:=decide_eq_false (by omega)
  have hw1:IntKind.i64.wrap (-n) = -n:=wrap_in _ (by omega) (by omega)
  have hmx:max n (-n) = ((n.natAbs:Nat):Int):=by omega
  have q0:=z1.c0
  have q1:=z1.c1
  have q2:=z1.c2
  obtain ⟨dn,l,s⟩:=d
  simp only [dv] at *
  clear hW2 z1 z2 hB2 ha da hL htd
  go_enter Tryz.func467,Tryz.ntmps467
  go_wp2_with fail
  rw [HW2.out]
  go_wp2_with (first
    | (go_at_call 72; refine HM.out.mono ?_; rintro e w3 ⟨rfl,b3⟩; have Z3:=HZ.out _ b3; have c0:=Z3.c0; have c1:=Z3.c1; have c2:=Z3.c2; clear q0 q1 q2)
    | (go_at_call 471; refine (HT.out _ b3).mono ?_; rintro e w4 ⟨v4,rfl,o4,b4'⟩; obtain ⟨A4,c4,rfl⟩:=own_form o4; have b4:=b3.trans (b4'.mono b3.size); have Z4:=HZ.out _ b4; have d0:=Z4.c0; have d1:=Z4.c1; have d2:=Z4.c2; clear c0 c1 c2)
    | (go_at_call 21; refine (HR.out _ _ (IsInts.of_own o4)).mono ?_; rintro e w5 ⟨v5,rfl,i5,f5,b5'⟩; obtain ⟨A5,c5,rfl⟩:=i5.form; have b5:=b4.trans (b5'.mono b4.size); have Z5:=(Z2.out.below b5 (by omega)).bx; have e0:=Z5.c0; have e1:=Z5.c1; have e2:=Z5.c2; have ef:=Z5.fz))
  have F5:=aside (And.intro i5 (And.intro f5 b5))
  have hs4:=b4.size
  refine bodyPost_ret_by (results_cell_two (by rfl) _ _ (w.heap.size + 1) _ _ _ _ _ rfl rfl (Blk3.setAll (Z2.out.below b5 (by omega)) _ _ _) Tryz.underlying73 rfl (by kernel_rfl)) rfl ?_
  refine ⟨.slice A5 td.l.length c5,rfl,?_,fun q hq=>?_,Below.set3 (HB2.out.trans (b5.mono (by omega))) (by omega) _ _ _⟩
  · exact i5.set3 f5 (by omega) _ _ _
  · have:=f5 q hq
    omega
end Go.Proofs.YteiomfgehlojeaaGreatDoor
end
section
namespace Go.Proofs.YteiomfgehlojeaaGreatDoor
open Go.RowKit
def padZ (l:List Int) (k:Nat):List Int:=l ++ List.replicate k 0
theorem padZ_len (l:List Int) (k:Nat):(padZ l k).length = l.length + k:=by simp [padZ]
theorem padZ_dg {l:List Int} (h:Dg l) (k:Nat):Dg (padZ l k):=h.append (Dg.replicate k)
theorem padZ_num (l:List Int) (k:Nat):num (padZ l k) = num l * 10 ^ k:=num_shift l k
set_option maxHeartbeats 4000000 in
theorem level_any (v u:Value) (a b:Dc) (w:World) (ha:IsInts w v a.l) (hb:IsInts w u b.l) (da:Dg a.l) (db:Dg b.l) (la:a.l.length ≤ 40) (lb:b.l.length ≤ 40) (sa:a.s ≤ 40) (sb:b.s ≤ 40) :
    Calls Tryz.prog 146 #[dv v a,dv u b] w fun e w'=>∃ A c A' c',e = .returned (.tuple #[.slice A (padZ a.l (max a.s b.s - a.s)).length c, .slice A' (padZ b.l (max a.s b.s - b.s)).length c', .int .i64 (max a.s b.s:Nat)]) ∧
      IsInts w' (.slice A (padZ a.l (max a.s b.s - a.s)).length c) (padZ a.l (max a.s b.s - a.s))∧IsInts w' (.slice A' (padZ b.l (max a.s b.s - b.s)).length c') (padZ b.l (max a.s b.s - b.s)) ∧
      From w.heap.size (.slice A (padZ a.l (max a.s b.s - a.s)).length c)∧From w.heap.size (.slice A' (padZ b.l (max a.s b.s - b.s)).length c')∧Below w.heap.size w w':=by
  obtain ⟨K,hK⟩:∃ K,max a.s b.s = K:=⟨_,rfl⟩
  rw [hK]
  obtain ⟨W2,hW2,hsz2,z1,z2,hB2⟩:=boxes2 w (.bool a.neg) v (.int .i64 a.s) (.bool b.neg) u (.int .i64 b.s)
  have h1:=fun W (hB:Below W2.heap.size W2 W)=>dshift_any v a.l (K - a.s) W ((ha.below hB2 (Nat.le_refl _)).below hB (Nat.le_refl _)) da (by omega) (by omega)
  have h2:=fun W (hB:Below W2.heap.size W2 W)=>dshift_any u b.l (K - b.s) W ((hb.below hB2 (Nat.le_refl _)).below hB (Nat.le_refl _)) db (by omega) (by omega)
  obtain ⟨x,hx⟩:∃ x,a.l ++ List.replicate (K - a.s) 0 = x:=⟨_,rfl⟩
  obtain ⟨y,hy⟩:∃ y,b.l ++ List.replicate (K - b.s) 0 = y:=⟨_,rfl⟩
  rw [hx] at h1
  rw [hy] at h2
  simp only [padZ,hx,hy]
  obtain ⟨ka,hka⟩:∃ k,K - a.s = k:=⟨_,rfl⟩
  obtain ⟨kb,hkb⟩:∃ k,K - b.s = k:=⟨_,rfl⟩
  rw [hka] at h1
  rw [hkb] at h2
  have H1:=Lib.hid h1
  have H2:=Lib.hid h2
  have hw1:IntKind.i64.wrap ((K:Int) - (a.s:Int)) = (ka:Int):=by rw [wrap_in _ (by omega) (by omega)]; omega
  have hw2:IntKind.i64.wrap ((K:Int) - (b.s:Int)) = (kb:Int):=by rw [wrap_in _ (by omega) (by omega)]; omega
  have hmx:max (a.s:Int) (b.s:Int) = (K:Int):=by omega
  have HW2:=Lib.hid hW2
  have HZ:=Lib.hid (fun W (hB:Below W2.heap.size W2 W)=>And.intro (z1.below hB (by omega)).bx (z2.below hB (by omega)).bx)
  have HB2:=Lib.hid hB2
  have q0:=z1.c0
  have q1:=z1.c1
  have q2:=z1.c2
  have r0:=z2.c0
  have r1:=z2.c1
  have r2:=z2.c2
  obtain ⟨na,l,s⟩:=a
  obtain ⟨nb,l',s'⟩:=b
  simp only [dv] at *
  have B0:Below W2.heap.size W2 W2:=Below.refl _ _
  clear hW2 z1 z2 hB2 ha da hb db hx hy h1 h2 hka hkb
  go_enter Tryz.func146,Tryz.ntmps146
  go_wp2_with fail
  rw [HW2.out]
  go_wp2_with fail
  refine (H1.out _ B0).mono ?_
  rintro e w4 ⟨v4,rfl,o4,b4⟩
  obtain ⟨A4,c4,rfl⟩:=own_form o4
  have Z4:=HZ.out _ b4
  have c0:=Z4.1.c0
  have c1:=Z4.1.c1
  have c2:=Z4.1.c2
  have d0:=Z4.2.c0
  have d1:=Z4.2.c1
  have d2:=Z4.2.c2
  clear q0 q1 q2 r0 r1 r2
  go_wp2_with fail
  refine (H2.out _ b4).mono ?_
  rintro e w5 ⟨v5,rfl,o5,b5⟩
  obtain ⟨A5,c5,rfl⟩:=own_form o5
  have hs4:=b4.size
  have b6:=b4.trans (b5.mono hs4)
  have i4:=IsInts.of_own o4
  have i5:=IsInts.of_own o5
  have f4:=own_far o4 (Nat.le_refl _)
  have f5:=own_far o5 (Nat.le_refl _)
  have X:=aside (And.intro (i4.below b5 (Nat.le_refl _)) (And.intro i5 (And.intro f4 (And.intro f5 b6))))
  clear i4 i5 f4 f5 o4 o5 b6
  go_wp2
  refine bodyPost_ret_by (results_tmp3 (by rfl) _ _ _) rfl ⟨A4,c4,A5,c5,rfl,X.out.1,X.out.2.1,fun k hk=>?_,fun k hk=>?_,HB2.out.trans (X.out.2.2.2.2.mono (by omega))⟩
  · have:=X.out.2.2.1 k hk; omega
  · have:=X.out.2.2.2.1 k hk; omega
end Go.Proofs.YteiomfgehlojeaaGreatDoor
end
section
namespace Go.Proofs.YteiomfgehlojeaaGreatDoor
open Go.RowKit
def cmpD (a b:Dc):Int :=
  if a.neg = true∧b.neg = true then cmp3 (num (padZ b.l (max a.s b.s - b.s)):Nat) (num (padZ a.l (max a.s b.s - a.s)):Nat)
  else if a.neg = true then -1 else if b.neg = true then 1
  else cmp3 (num (padZ a.l (max a.s b.s - a.s)):Nat) (num (padZ b.l (max a.s b.s - b.s)):Nat)
theorem set6 {w w5:World} {g:Nat} {a b c a' b' c':Value} {s4 s5:Value} {l4 l5:List Int} (h1:Blk3 w5 g a b c) (h2:Blk3 w5 (g + 1) a' b' c') (i4:IsInts w5 s4 l4) (i5:IsInts w5 s5 l5)
    (f4:From (g + 2) s4) (f5:From (g + 2) s5) (hb:Below g w w5) (x y z x' y' z':Value) :
    ∃ W6,((((((w5.setCell ⟨g,0,none⟩ x).setCell ⟨g,1,none⟩ y).setCell ⟨g,2,none⟩ z).setCell ⟨g + 1,0,none⟩ x').setCell ⟨g + 1,1,none⟩ y').setCell ⟨g + 1,2,none⟩ z') = W6 ∧
      Blk3 W6 g x y z∧Blk3 W6 (g + 1) x' y' z'∧IsInts W6 s4 l4∧IsInts W6 s5 l5∧Below g w W6∧W6.heap.size = w5.heap.size:=by
  have k1:=h1.setAll x y z
  have k2:Blk3 (((w5.setCell ⟨g,0,none⟩ x).setCell ⟨g,1,none⟩ y).setCell ⟨g,2,none⟩ z) (g + 1) a' b' c':=((h2.far (p:=⟨g,0,none⟩) (by simp) x).far (p:=⟨g,1,none⟩) (by simp) y).far (p:=⟨g,2,none⟩) (by simp) z
  refine ⟨_,rfl,((k1.far (p:=⟨g + 1,0,none⟩) (by simp) x').far (p:=⟨g + 1,1,none⟩) (by simp) y').far (p:=⟨g + 1,2,none⟩) (by simp) z',k2.setAll x' y' z',?_,?_,?_,by simp⟩
  · exact (i4.set3 f4 (by omega) x y z).set3 f4 (by omega) x' y' z'
  · exact (i5.set3 f5 (by omega) x y z).set3 f5 (by omega) x' y' z'
  · exact Below.set3 (Below.set3 hb (Nat.le_refl _) x y z) (by omega) x' y' z'
set_option maxHeartbeats 4000000 in
theorem decCompare_any (v u:Value) (a b:Dc) (w:World) (ha:IsInts w v a.l) (hb:IsInts w u b.l) (da:Dg a.l) (db:Dg b.l) (la:a.l.length ≤ 40) (lb:b.l.length ≤ 40) (sa:a.s ≤ 40) (sb:b.s ≤ 40) :
    Calls Tryz.prog 66 #[dv v a,dv u b] w fun e w'=>e = .returned (.int .i64 (cmpD (trimD a) (trimD b)))∧Below w.heap.size w w':=by
  obtain ⟨W2,hW2,hsz2,z1,z2,hB2⟩:=boxes2 w (.bool a.neg) v (.int .i64 a.s) (.bool b.neg) u (.int .i64 b.s)
  have h1:=fun W (hB:Below W2.heap.size W2 W)=>decTrim_any v a W ((ha.below hB2 (Nat.le_refl _)).below hB (Nat.le_refl _)) (by omega) (by omega)
  have h2:=fun W (hB:Below W2.heap.size W2 W)=>decTrim_any u b W ((hb.below hB2 (Nat.le_refl _)).below hB (Nat.le_refl _)) (by omega) (by omega)
  have ta:=trimD_dg a da
  have tb:=trimD_dg b db
  have tla:=trimD_len a
  have tlb:=trimD_len b
  have tsa:=trimD_s a
  have tsb:=trimD_s b
  obtain ⟨a',ha'⟩:∃ a',trimD a = a':=⟨_,rfl⟩
  obtain ⟨b',hb'⟩:∃ b',trimD b = b':=⟨_,rfl⟩
  rw [ha'] at h1 ta tla tsa ⊢
  rw [hb'] at h2 tb tlb tsb ⊢
  have hl:=fun W A c A' c' (i1:IsInts W (.slice A a'.l.length c) a'.l) (i2:IsInts W (.slice A' b'.l.length c') b'.l)=>level_any (.slice A a'.l.length c) (.slice A' b'.l.length c') a' b' W i1 i2 ta tb (by omega) (by omega) (by omega) (by omega)
  have hcx:=fun W X Y (i1:IsInts W X (padZ a'.l (max a'.s b'.s - a'.s))) (i2:IsInts W Y (padZ b'.l (max a'.s b'.s - b'.s))) =>
    dcmp_any X Y _ _ W i1 i2 (padZ_dg ta _) (padZ_dg tb _) (by rw [padZ_len]; omega) (by rw [padZ_len]; omega)
  have hcy:=fun W X Y (i1:IsInts W X (padZ a'.l (max a'.s b'.s - a'.s))) (i2:IsInts W Y (padZ b'.l (max a'.s b'.s - b'.s))) =>
    dcmp_any Y X _ _ W i2 i1 (padZ_dg tb _) (padZ_dg ta _) (by rw [padZ_len]; omega) (by rw [padZ_len]; omega)
  obtain ⟨r,hr⟩:∃ r,cmpD a' b' = r:=⟨_,rfl⟩
  have hrr:=hr
  unfold cmpD at hrr
  rw [hr]
  obtain ⟨x,hx⟩:∃ x,padZ a'.l (max a'.s b'.s - a'.s) = x:=⟨_,rfl⟩
  obtain ⟨y,hy⟩:∃ y,padZ b'.l (max a'.s b'.s - b'.s) = y:=⟨_,rfl⟩
  rw [hx,hy] at hrr
  simp only [hx,hy] at hl hcx hcy
  have H1:=Lib.hid h1
  have H2:=Lib.hid h2
  have HL:=Lib.hid hl
  have HX:=Lib.hid hcx
  have HY:=Lib.hid hcy
  have HW2:=Lib.hid hW2
  have HZ:=Lib.hid (fun W (hB:Below W2.heap.size W2 W)=>And.intro (z1.below hB (by omega)) (z2.below hB (by omega)))
  have HB2:=Lib.hid hB2
  have q0:=z1.c0
  have q1:=z1.c1
  have q2:=z1.c2
  have r0:=z2.c0
  have r1:=z2.c1
  have r2:=z2.c2
  obtain ⟨na,l,s⟩:=a
  obtain ⟨nb,l',s'⟩:=b
  obtain ⟨na',la',sa'⟩:=a'
  obtain ⟨nb',lb',sb'⟩:=b'
  simp only [dv] at *
  have B0:Below W2.heap.size W2 W2:=Below.refl _ _
  clear hW2 z1 z2 hB2 ha da hb db hx hy h1 h2 hl hcx hcy ha' hb' hr ta tb
  go_enter Tryz.func66,Tryz.ntmps66
  go_wp2_with fail
  rw [HW2.out]
  go_wp2_with fail
  go_region_with (first
    | (go_at_call 21; refine (H2.out _ b4').mono ?_; rintro e w5 ⟨v5,rfl,i5,f5,b5⟩; obtain ⟨A5,c5,rfl⟩:=i5.form; have b6:=b4'.trans (b5.mono b4'.size); have Z5:=HZ.out _ b6; have e0:=Z5.1.c0; have e1:=Z5.1.c1; have e2:=Z5.1.c2; have ef:=Z5.1.fz; have g0:=Z5.2.c0; have g1:=Z5.2.c1; have g2:=Z5.2.c2; have gf:=Z5.2.fz)
    | (go_at_call 21; refine (H1.out W2.drew ⟨B0.os,B0.tape,B0.output,B0.size,B0.block⟩).mono ?_; rintro e w4 ⟨v4,rfl,i4,f4,b4⟩; have b4':Below W2.heap.size W2 w4:=⟨b4.os,b4.tape,b4.output,b4.size,b4.block⟩; obtain ⟨A4,c4,rfl⟩:=i4.form; have Z4:=(HZ.out _ b4').2.bx; have d0:=Z4.c0; have d1:=Z4.c1; have d2:=Z4.c2))
  all_goals
    have hs4:=b4.size
    have hs4':=b4'.size
    simp only [World.drew] at hs4
    have F4:From (w.heap.size + 2) (.slice A4 la'.length c4):=fun k hk=>by have:=f4 k hk; simp only [World.drew] at this; omega
    have F5:From (w.heap.size + 2) (.slice A5 lb'.length c5):=fun k hk=>by have:=f5 k hk; omega
    obtain ⟨W6,hW6,K1,K2,K4,K5,KB,Ks⟩:=set6 Z5.1 Z5.2 (i4.below b5 (Nat.le_refl _)) i5 F4 F5 (HB2.out.trans (b6.mono (by omega))) (.bool na') (.slice A4 la'.length c4) (.int .i64 sa') (.bool nb') (.slice A5 lb'.length c5) (.int .i64 sb')
    rw [hW6]
    have p0:=K1.c0
    have p1:=K1.c1
    have p2:=K1.c2
    have s0:=K2.c0
    have s1:=K2.c1
    have s2:=K2.c2
    have HL2:=Lib.hid (HL.out W6 A4 c4 A5 c5 K4 K5)
    have hs6:=b6.size
    have HF:=Lib.hid (fun W (hB:Below W6.heap.size W6 W)=>And.intro (K1.below hB (by omega)).bx (K2.below hB (by omega)).bx)
    have KK:=aside KB
    clear b4 b4' i4 f4 Z4 d0 d1 d2 b5 i5 f5 b6 Z5 e0 e1 e2 ef g0 g1 g2 gf K1 K2 K4 K5 KB hW6 F4 F5 q0 q1 q2 r0 r1 r2 hs4 hs4' H1 H2 HZ HL
    cases na' <;> cases nb'
    · simp at hrr
      go_wp2_with (first
        | (go_at_call 147; refine (HX.out _ _ _ i7 i8).mono ?_; rintro e w8 ⟨rfl,b8⟩)
        | (go_at_call 146; refine HL2.out.mono ?_; rintro e w7 ⟨A7,c7,A8,c8,rfl,i7,i8,-,-,b7⟩; have Z7:=HF.out _ b7; have u0:=Z7.1.c0; have u1:=Z7.2.c0))
      go_ret
      exact ⟨by rw [← hrr]; rfl,KK.out.trans ((b7.mono (by omega)).trans (b8.mono (by have:=b7.size; omega)))⟩
    · simp at hrr
      subst hrr
      go_wp2_with (first
        | (go_at_call 146; refine HL2.out.mono ?_; rintro e w7 ⟨A7,c7,A8,c8,rfl,i7,i8,-,-,b7⟩; have Z7:=HF.out _ b7; have u0:=Z7.1.c0; have u1:=Z7.2.c0))
      go_ret
      exact ⟨rfl,KK.out.trans (b7.mono (by omega))⟩
    · simp at hrr
      subst hrr
      go_wp2_with (first
        | (go_at_call 146; refine HL2.out.mono ?_; rintro e w7 ⟨A7,c7,A8,c8,rfl,i7,i8,-,-,b7⟩; have Z7:=HF.out _ b7; have u0:=Z7.1.c0; have u1:=Z7.2.c0))
      go_ret
      exact ⟨rfl,KK.out.trans (b7.mono (by omega))⟩
    · simp at hrr
      go_wp2_with (first
        | (go_at_call 147; refine (HY.out _ _ _ i7 i8).mono ?_; rintro e w8 ⟨rfl,b8⟩)
        | (go_at_call 146; refine HL2.out.mono ?_; rintro e w7 ⟨A7,c7,A8,c8,rfl,i7,i8,-,-,b7⟩; have Z7:=HF.out _ b7; have u0:=Z7.1.c0; have u1:=Z7.2.c0))
      go_ret
      exact ⟨by rw [← hrr]; rfl,KK.out.trans ((b7.mono (by omega)).trans (b8.mono (by have:=b7.size; omega)))⟩
end Go.Proofs.YteiomfgehlojeaaGreatDoor
end
section
namespace Go.Proofs.YteiomfgehlojeaaGreatDoor
open Go.RowKit
theorem boxes3 (w:World) (a b c a' b' c' x y z:Value):∃ W2,((w.alloc (Obj.cells #[a,b,c] 73)).alloc (Obj.cells #[a',b',c'] 73)).alloc (Obj.cells #[x,y,z] 73) = W2∧W2.heap.size = w.heap.size + 3 ∧
    Blk3 W2 w.heap.size a b c∧Blk3 W2 (w.heap.size + 1) a' b' c'∧Blk3 W2 (w.heap.size + 2) x y z∧Below w.heap.size w W2:=by
  obtain ⟨W1,h1,s1,k1,k2,kb⟩:=boxes2 w a b c a' b' c'
  refine ⟨_,rfl,by simp,?_,?_,?_,?_⟩
  · rw [h1]; exact k1.keep (heap_alloc_old _ _ (by omega))
  · rw [h1]; exact k2.keep (heap_alloc_old _ _ (by omega))
  · rw [h1]; have:=Blk3.new W1 x y z; rw [s1] at this; exact this
  · rw [h1]; exact kb.alloc (by omega) _
set_option maxHeartbeats 4000000 in
theorem decAdd_same (v u:Value) (a b:Dc) (w:World) (ha:IsInts w v a.l) (hb:IsInts w u b.l) (da:Dg a.l) (db:Dg b.l) (la:a.l.length ≤ 40) (lb:b.l.length ≤ 40) (sa:a.s ≤ 40) (sb:b.s ≤ 40)
    (hne:a.neg = b.neg) :
    Calls Tryz.prog 468 #[dv v a,dv u b] w fun e w'=>∃ sl,e = .returned (.tuple #[dv sl (trimD ⟨a.neg,digs (num (padZ a.l (max a.s b.s - a.s)) + num (padZ b.l (max a.s b.s - b.s))),max a.s b.s⟩), .int .i64 0])∧IsInts w' sl (trimD ⟨a.neg,digs (num (padZ a.l (max a.s b.s - a.s)) + num (padZ b.l (max a.s b.s - b.s))),max a.s b.s⟩).l∧From w.heap.size sl∧Below w.heap.size w w':=by
  obtain ⟨W2,hW2,hsz2,z1,z2,z3,hB2⟩:=boxes3 w (.bool a.neg) v (.int .i64 a.s) (.bool b.neg) u (.int .i64 b.s) (.bool false) (.slice none 0 0) (.int .i64 0)
  have hm1:=fun W (hB:Below W2.heap.size W2 W)=>decMay_any v a W ((ha.below hB2 (Nat.le_refl _)).below hB (Nat.le_refl _)) da (by omega)
  have hm2:=fun W (hB:Below W2.heap.size W2 W)=>decMay_any u b W ((hb.below hB2 (Nat.le_refl _)).below hB (Nat.le_refl _)) db (by omega)
  have hl:=fun W (hB:Below W2.heap.size W2 W)=>level_any v u a b W ((ha.below hB2 (Nat.le_refl _)).below hB (Nat.le_refl _)) ((hb.below hB2 (Nat.le_refl _)).below hB (Nat.le_refl _)) da db (by omega) (by omega) (by omega) (by omega)
  have dx:=padZ_dg da (max a.s b.s - a.s)
  have dy:=padZ_dg db (max a.s b.s - b.s)
  have lx:=padZ_len a.l (max a.s b.s - a.s)
  have ly:=padZ_len b.l (max a.s b.s - b.s)
  obtain ⟨K,hK⟩:∃ K,max a.s b.s = K:=⟨_,rfl⟩
  have hK40:K ≤ 40:=by omega
  simp only [hK] at hl dx dy lx ly ⊢
  obtain ⟨x,hx⟩:∃ x,padZ a.l (K - a.s) = x:=⟨_,rfl⟩
  obtain ⟨y,hy⟩:∃ y,padZ b.l (K - b.s) = y:=⟨_,rfl⟩
  simp only [hx,hy] at hl dx dy lx ly ⊢
  have hx80:x.length ≤ 80:=by omega
  have hy80:y.length ≤ 80:=by omega
  have hs:=fun (W:World) (g:Nat) X Y (i1:IsInts W X x) (i2:IsInts W Y y) (h0:W.cell? ⟨g,0,none⟩ = some X) (h1:W.cell? ⟨g,1,none⟩ = some Y)=>dsum_any X Y x y g W i1 i2 dx dy (by omega) (by omega) h0 h1
  have hlen:(digs (num x + num y)).length ≤ 1000000:=by
    have:(digs (num x + num y)).length ≤ 101:=digs_len_le (by
      have h1:=num_lt dx
      have h2:=num_lt dy
      have h3:10 ^ x.length ≤ 10 ^ 100:=Nat.pow_le_pow_right (by omega) (by omega)
      have h4:10 ^ y.length ≤ 10 ^ 100:=Nat.pow_le_pow_right (by omega) (by omega)
      have h5:(10:Nat) ^ 101 = 10 * 10 ^ 100:=by rw [show (101:Nat) = 1 + 100 from rfl,Nat.pow_add]
      rw [h5]
      generalize (10:Nat) ^ 100 = P at *
      omega)
    omega
  obtain ⟨L,hL⟩:∃ L,digs (num x + num y) = L:=⟨_,rfl⟩
  rw [hL] at hlen ⊢
  simp only [hL] at hs
  have HS:=Lib.hid hs
  clear hs hL lx ly
  obtain ⟨td,htd⟩:∃ td,trimD ⟨a.neg,L,K⟩ = td:=⟨_,rfl⟩
  rw [htd]
  have HR:=Lib.hid (fun (W:World) (sl:Value) (h:IsInts W sl L)=>by have:=decTrim_any sl ⟨a.neg,L,K⟩ W h hlen (by simp only; omega); rw [htd] at this; exact this)
  have H1:=Lib.hid hm1
  have H2:=Lib.hid hm2
  have HL:=Lib.hid hl
  have HW2:=Lib.hid hW2
  have HZ:=Lib.hid (fun W (hB:Below W2.heap.size W2 W)=>And.intro (z1.below hB (by omega)).bx (z2.below hB (by omega)).bx)
  have ZB:=Lib.hid (fun W (hB:Below W2.heap.size W2 W)=>z1.below hB (by omega))
  have Z3:=Lib.hid (fun W (hB:Below W2.heap.size W2 W)=>z3.below hB (by omega))
  have HB2:=Lib.hid hB2
  have q0:=z1.c0
  have q1:=z1.c1
  have q2:=z1.c2
  have r0:=z2.c0
  have r1:=z2.c1
  have r2:=z2.c2
  obtain ⟨na,l,s⟩:=a
  obtain ⟨nb,l',s'⟩:=b
  simp only [dv] at *
  have B0:Below W2.heap.size W2 W2:=Below.refl _ _
  clear hW2 z1 z2 z3 hB2 ha da hb db hx hy hm1 hm2 hl htd
  subst hne
  go_enter Tryz.func468,Tryz.ntmps468
  go_wp2_with fail
  rw [HW2.out]
  go_wp2_with fail
  refine (H1.out _ B0).mono ?_
  rintro e w3 ⟨rfl,b3⟩
  have Z:=HZ.out _ b3
  have c0:=Z.1.c0
  have c1:=Z.1.c1
  have c2:=Z.1.c2
  have d0:=Z.2.c0
  have d1:=Z.2.c1
  have d2:=Z.2.c2
  clear q0 q1 q2 r0 r1 r2 Z
  go_wp2_with fail
  refine (H2.out _ b3).mono ?_
  rintro e w4 ⟨rfl,b4'⟩
  have b4:=b3.trans (b4'.mono b3.size)
  have Z:=HZ.out _ b4
  have q0:=Z.1.c0
  have q1:=Z.1.c1
  have q2:=Z.1.c2
  have r0:=Z.2.c0
  have r1:=Z.2.c1
  have r2:=Z.2.c2
  clear c0 c1 c2 d0 d1 d2 Z
  go_wp2_with fail
  refine (HL.out _ b4).mono ?_
  rintro e w5 ⟨A5,c5,A6,c6,rfl,i5,i6,f5',f6',b5'⟩
  have hs4:=b4.size
  have f5:From (w.heap.size + 3) (.slice A5 x.length c5):=fun k hk=>by have:=f5' k hk; omega
  have f6:From (w.heap.size + 3) (.slice A6 y.length c6):=fun k hk=>by have:=f6' k hk; omega
  have b5:=b4.trans (b5'.mono b4.size)
  have Z:=HZ.out _ b5
  have c0:=Z.1.c0
  have c1:=Z.1.c1
  have c2:=Z.1.c2
  have d0:=Z.2.c0
  have d1:=Z.2.c1
  have d2:=Z.2.c2
  have cf:=Z.1.fz
  clear q0 q1 q2 r0 r1 r2 Z b3 b4' b5' b4 f5' f6' hs4
  go_wp2_with fail
  have hs5:=b5.size
  have k0:(w5.alloc (Obj.cells #[.slice A5 x.length c5, .slice A6 y.length c6] 24)).cell? ⟨w5.heap.size,0,none⟩ = some (.slice A5 x.length c5):=by simp
  have k1:(w5.alloc (Obj.cells #[.slice A5 x.length c5, .slice A6 y.length c6] 24)).cell? ⟨w5.heap.size,1,none⟩ = some (.slice A6 y.length c6):=by simp
  refine (HS.out _ w5.heap.size _ _ (i5.alloc _) (i6.alloc _) k0 k1).mono ?_
  rintro e w7 ⟨v7,rfl,o7,b7'⟩
  obtain ⟨A7,c7,rfl⟩:=own_form o7
  have b7:=(b5.alloc hs5 (Obj.cells #[.slice A5 x.length c5, .slice A6 y.length c6] 24)).trans (b7'.mono (by simp; omega))
  have Z:=HZ.out _ b7
  have q0:=Z.1.c0
  have q1:=Z.1.c1
  have q2:=Z.1.c2
  clear c0 c1 c2 d0 d1 d2 Z b5 k0 k1 i5 i6
  go_wp2_with fail
  refine (HR.out _ _ (IsInts.of_own o7)).mono ?_
  rintro e w8 ⟨v8,rfl,i8,f8,b8'⟩
  obtain ⟨A8,c8,rfl⟩:=i8.form
  have b8:=b7.trans (b8'.mono b7.size)
  have Z8:=Z3.out _ b8
  have e0:=Z8.c0
  have e1:=Z8.c1
  have e2:=Z8.c2
  have ef:=Z8.fz
  have hs7:=b7.size
  go_wp2
  refine bodyPost_ret_by (results_cell_two (by rfl) _ _ (w.heap.size + 2) _ _ _ _ _ rfl rfl (Z8.setAll _ _ _) Tryz.underlying73 rfl (by kernel_rfl)) rfl ?_
  refine ⟨.slice A8 td.l.length c8,rfl,?_,fun q hq=>?_,Below.set3 (HB2.out.trans (b8.mono (by omega))) (by omega) _ _ _⟩
  · exact i8.set3 f8 (by omega) _ _ _
  · have:=f8 q hq
    omega
set_option maxHeartbeats 4000000 in
theorem decAdd_less (v u:Value) (a b:Dc) (w:World) (ha:IsInts w v a.l) (hb:IsInts w u b.l) (da:Dg a.l) (db:Dg b.l) (la:a.l.length ≤ 40) (lb:b.l.length ≤ 40) (sa:a.s ≤ 40) (sb:b.s ≤ 40)
    (hne:a.neg ≠ b.neg) (hcp:num (padZ a.l (max a.s b.s - a.s)) < num (padZ b.l (max a.s b.s - b.s))) :
    Calls Tryz.prog 468 #[dv v a,dv u b] w fun e w'=>∃ sl,e = .returned (.tuple #[dv sl (trimD ⟨b.neg,digs (num (padZ b.l (max a.s b.s - b.s)) - num (padZ a.l (max a.s b.s - a.s))),max a.s b.s⟩), .int .i64 0])∧IsInts w' sl (trimD ⟨b.neg,digs (num (padZ b.l (max a.s b.s - b.s)) - num (padZ a.l (max a.s b.s - a.s))),max a.s b.s⟩).l∧From w.heap.size sl∧Below w.heap.size w w':=by
  obtain ⟨Au,cu,rfl⟩:=hb.form
  obtain ⟨W2,hW2,hsz2,z1,z2,z3,hB2⟩:=boxes3 w (.bool a.neg) v (.int .i64 a.s) (.bool b.neg) (.slice Au b.l.length cu) (.int .i64 b.s) (.bool false) (.slice none 0 0) (.int .i64 0)
  have hm1:=fun W (hB:Below W2.heap.size W2 W)=>decMay_any v a W ((ha.below hB2 (Nat.le_refl _)).below hB (Nat.le_refl _)) da (by omega)
  have hm2:=fun W (hB:Below W2.heap.size W2 W)=>decMay_any (.slice Au b.l.length cu) b W ((hb.below hB2 (Nat.le_refl _)).below hB (Nat.le_refl _)) db (by omega)
  have hl:=fun W (hB:Below W2.heap.size W2 W)=>level_any v (.slice Au b.l.length cu) a b W ((ha.below hB2 (Nat.le_refl _)).below hB (Nat.le_refl _)) ((hb.below hB2 (Nat.le_refl _)).below hB (Nat.le_refl _)) da db (by omega) (by omega) (by omega) (by omega)
  have dx:=padZ_dg da (max a.s b.s - a.s)
  have dy:=padZ_dg db (max a.s b.s - b.s)
  have lx:=padZ_len a.l (max a.s b.s - a.s)
  have ly:=padZ_len b.l (max a.s b.s - b.s)
  obtain ⟨K,hK⟩:∃ K,max a.s b.s = K:=⟨_,rfl⟩
  have hK40:K ≤ 40:=by omega
  simp only [hK] at hl dx dy lx ly ⊢ hcp
  obtain ⟨x,hx⟩:∃ x,padZ a.l (K - a.s) = x:=⟨_,rfl⟩
  obtain ⟨y,hy⟩:∃ y,padZ b.l (K - b.s) = y:=⟨_,rfl⟩
  simp only [hx,hy] at hl dx dy lx ly ⊢ hcp
  have hx80:x.length ≤ 80:=by omega
  have hy80:y.length ≤ 80:=by omega
  have hs:=fun (W:World) X Y (i1:IsInts W X y) (i2:IsInts W Y x)=>dsub_any X Y y x W i1 i2 dy dx (by omega) (by omega) (by omega)
  have hcm:=fun (W:World) X Y (i1:IsInts W X x) (i2:IsInts W Y y)=>dcmp_any X Y x y W i1 i2 dx dy (by omega) (by omega)
  have hlen:(digs (num y - num x)).length ≤ 1000000:=by
    have:(digs (num y - num x)).length ≤ 80:=digs_len_le (by
      have h1:=num_lt dy
      have h3:10 ^ y.length ≤ 10 ^ 80:=Nat.pow_le_pow_right (by omega) (by omega)
      omega)
    omega
  obtain ⟨L,hL⟩:∃ L,digs (num y - num x) = L:=⟨_,rfl⟩
  rw [hL] at hlen ⊢
  simp only [hL] at hs
  have hr:cmp3 ((num x:Nat):Int) ((num y:Nat):Int) = -1:=cmp3_lt (by omega)
  simp only [hr] at hcm
  have HS:=Lib.hid hs
  have HC:=Lib.hid hcm
  clear hs hcm hL lx ly hr hcp dx dy
  obtain ⟨td,htd⟩:∃ td,trimD ⟨b.neg,L,K⟩ = td:=⟨_,rfl⟩
  rw [htd]
  have HR:=Lib.hid (fun (W:World) (sl:Value) (h:IsInts W sl L)=>by have:=decTrim_any sl ⟨b.neg,L,K⟩ W h hlen (by simp only; omega); rw [htd] at this; exact this)
  have H1:=Lib.hid hm1
  have H2:=Lib.hid hm2
  have HL:=Lib.hid hl
  have HW2:=Lib.hid hW2
  have HZ:=Lib.hid (fun W (hB:Below W2.heap.size W2 W)=>And.intro (z1.below hB (by omega)).bx (z2.below hB (by omega)).bx)
  have ZB:=Lib.hid (fun W (hB:Below W2.heap.size W2 W)=>z1.below hB (by omega))
  have Z3:=Lib.hid (fun W (hB:Below W2.heap.size W2 W)=>z3.below hB (by omega))
  have HB2:=Lib.hid hB2
  have q0:=z1.c0
  have q1:=z1.c1
  have q2:=z1.c2
  have r0:=z2.c0
  have r1:=z2.c1
  have r2:=z2.c2
  obtain ⟨na,l,s⟩:=a
  obtain ⟨nb,l',s'⟩:=b
  simp only [dv] at *
  have B0:Below W2.heap.size W2 W2:=Below.refl _ _
  clear hW2 z1 z2 z3 hB2 ha da hb db hx hy hm1 hm2 hl htd
  have hbe:(na == nb) = false:=by cases na <;> cases nb <;> simp_all
  clear hne
  go_enter Tryz.func468,Tryz.ntmps468
  go_wp2_with fail
  rw [HW2.out]
  go_wp2_with fail
  refine (H1.out _ B0).mono ?_
  rintro e w3 ⟨rfl,b3⟩
  have Z:=HZ.out _ b3
  have c0:=Z.1.c0
  have c1:=Z.1.c1
  have c2:=Z.1.c2
  have d0:=Z.2.c0
  have d1:=Z.2.c1
  have d2:=Z.2.c2
  clear q0 q1 q2 r0 r1 r2 Z
  go_wp2_with fail
  refine (H2.out _ b3).mono ?_
  rintro e w4 ⟨rfl,b4'⟩
  have b4:=b3.trans (b4'.mono b3.size)
  have Z:=HZ.out _ b4
  have q0:=Z.1.c0
  have q1:=Z.1.c1
  have q2:=Z.1.c2
  have r0:=Z.2.c0
  have r1:=Z.2.c1
  have r2:=Z.2.c2
  clear c0 c1 c2 d0 d1 d2 Z
  go_wp2_with fail
  refine (HL.out _ b4).mono ?_
  rintro e w5 ⟨A5,c5,A6,c6,rfl,i5,i6,f5',f6',b5'⟩
  have hs4:=b4.size
  have f5:From (w.heap.size + 3) (.slice A5 x.length c5):=fun k hk=>by have:=f5' k hk; omega
  have f6:From (w.heap.size + 3) (.slice A6 y.length c6):=fun k hk=>by have:=f6' k hk; omega
  have b5:=b4.trans (b5'.mono b4.size)
  have Z:=HZ.out _ b5
  have c0:=Z.1.c0
  have c1:=Z.1.c1
  have c2:=Z.1.c2
  have d0:=Z.2.c0
  have d1:=Z.2.c1
  have d2:=Z.2.c2
  have cf:=Z.1.fz
  clear q0 q1 q2 r0 r1 r2 Z b3 b4' b5' b4 f5' f6' hs4
  go_wp2_with fail
  refine (HC.out _ _ _ i5 i6).mono ?_
  rintro e w6 ⟨rfl,b6'⟩
  have hs5:=b5.size
  have b6:=b5.trans (b6'.mono hs5)
  have j5:=i5.below b6' (Nat.le_refl _)
  have j6:=i6.below b6' (Nat.le_refl _)
  have Z:=HZ.out _ b6
  have q0:=Z.1.c0
  have q1:=Z.1.c1
  have q2:=Z.1.c2
  have r0:=Z.2.c0
  have r1:=Z.2.c1
  have r2:=Z.2.c2
  have rf:=Z.1.fz
  clear c0 c1 c2 d0 d1 d2 cf i5 i6 Z b5 b6'
  have hs6:=b6.size
  obtain ⟨W9,hW9,K1,K3,m5,m6,B9,S9⟩:∃ W9,(((w6.setCell ⟨w.heap.size,0,none⟩ (.bool nb)).setCell ⟨w.heap.size,1,none⟩ (.slice Au l'.length cu)).setCell ⟨w.heap.size,2,none⟩ (.int .i64 s')) = W9∧Blk3 W9 w.heap.size (.bool nb) (.slice Au l'.length cu) (.int .i64 s') ∧
      Blk3 W9 (w.heap.size + 2) (.bool false) (.slice none 0 0) (.int .i64 0)∧IsInts W9 (.slice A5 x.length c5) x∧IsInts W9 (.slice A6 y.length c6) y∧Below w.heap.size w W9∧W9.heap.size = w6.heap.size :=
    ⟨_,rfl,(ZB.out _ b6).setAll _ _ _,(((Z3.out _ b6).far (p:=⟨w.heap.size,0,none⟩) (by simp) _).far (p:=⟨w.heap.size,1,none⟩) (by simp) _).far (p:=⟨w.heap.size,2,none⟩) (by simp) _,j5.set3 f5 (by omega) _ _ _,j6.set3 f6 (by omega) _ _ _,
      Below.set3 (HB2.out.trans (b6.mono (by omega))) (Nat.le_refl _) _ _ _,by simp⟩
  have D1:=Lib.hid (fun W (hB:Below W9.heap.size W9 W)=>(K1.below hB (by omega)).bx)
  have D3:=Lib.hid (fun W (hB:Below W9.heap.size W9 W)=>K3.below hB (by omega))
  have BB:=Lib.hid B9
  clear b6 j5 j6 K1 K3 B9
  go_wp2_with fail
  clear hW9 q0 q1 q2 r0 r1 r2 rf
  refine (HS.out _ _ _ m6 m5).mono ?_
  rintro e w7 ⟨v7,rfl,o7,b7⟩
  obtain ⟨A7,c7,rfl⟩:=own_form o7
  have Z:=D1.out _ b7
  have q0:=Z.c0
  have q1:=Z.c1
  have q2:=Z.c2
  clear m5 m6 Z
  go_wp2_with fail
  refine (HR.out _ _ (IsInts.of_own o7)).mono ?_
  rintro e w8 ⟨v8,rfl,i8,f8,b8'⟩
  obtain ⟨A8,c8,rfl⟩:=i8.form
  have hs7:=b7.size
  have b8:=b7.trans (b8'.mono hs7)
  have Z8:=D3.out _ b8
  have e0:=Z8.c0
  have e1:=Z8.c1
  have e2:=Z8.c2
  have ef:=Z8.fz
  go_wp2
  refine bodyPost_ret_by (results_cell_two (by rfl) _ _ (w.heap.size + 2) _ _ _ _ _ rfl rfl (Z8.setAll _ _ _) Tryz.underlying73 rfl (by kernel_rfl)) rfl ?_
  refine ⟨.slice A8 td.l.length c8,rfl,?_,fun q hq=>?_,Below.set3 (BB.out.trans (b8.mono (by omega))) (by omega) _ _ _⟩
  · exact i8.set3 f8 (by omega) _ _ _
  · have:=f8 q hq
    omega
set_option maxHeartbeats 4000000 in
theorem decAdd_more (v u:Value) (a b:Dc) (w:World) (ha:IsInts w v a.l) (hb:IsInts w u b.l) (da:Dg a.l) (db:Dg b.l) (la:a.l.length ≤ 40) (lb:b.l.length ≤ 40) (sa:a.s ≤ 40) (sb:b.s ≤ 40)
    (hne:a.neg ≠ b.neg) (hcp:num (padZ b.l (max a.s b.s - b.s)) ≤ num (padZ a.l (max a.s b.s - a.s))) :
    Calls Tryz.prog 468 #[dv v a,dv u b] w fun e w'=>∃ sl,e = .returned (.tuple #[dv sl (trimD ⟨a.neg,digs (num (padZ a.l (max a.s b.s - a.s)) - num (padZ b.l (max a.s b.s - b.s))),max a.s b.s⟩), .int .i64 0])∧IsInts w' sl (trimD ⟨a.neg,digs (num (padZ a.l (max a.s b.s - a.s)) - num (padZ b.l (max a.s b.s - b.s))),max a.s b.s⟩).l∧From w.heap.size sl∧Below w.heap.size w w':=by
  obtain ⟨W2,hW2,hsz2,z1,z2,z3,hB2⟩:=boxes3 w (.bool a.neg) v (.int .i64 a.s) (.bool b.neg) u (.int .i64 b.s) (.bool false) (.slice none 0 0) (.int .i64 0)
  have hm1:=fun W (hB:Below W2.heap.size W2 W)=>decMay_any v a W ((ha.below hB2 (Nat.le_refl _)).below hB (Nat.le_refl _)) da (by omega)
  have hm2:=fun W (hB:Below W2.heap.size W2 W)=>decMay_any u b W ((hb.below hB2 (Nat.le_refl _)).below hB (Nat.le_refl _)) db (by omega)
  have hl:=fun W (hB:Below W2.heap.size W2 W)=>level_any v u a b W ((ha.below hB2 (Nat.le_refl _)).below hB (Nat.le_refl _)) ((hb.below hB2 (Nat.le_refl _)).below hB (Nat.le_refl _)) da db (by omega) (by omega) (by omega) (by omega)
  have dx:=padZ_dg da (max a.s b.s - a.s)
  have dy:=padZ_dg db (max a.s b.s - b.s)
  have lx:=padZ_len a.l (max a.s b.s - a.s)
  have ly:=padZ_len b.l (max a.s b.s - b.s)
  obtain ⟨K,hK⟩:∃ K,max a.s b.s = K:=⟨_,rfl⟩
  have hK40:K ≤ 40:=by omega
  simp only [hK] at hl dx dy lx ly ⊢ hcp
  obtain ⟨x,hx⟩:∃ x,padZ a.l (K - a.s) = x:=⟨_,rfl⟩
  obtain ⟨y,hy⟩:∃ y,padZ b.l (K - b.s) = y:=⟨_,rfl⟩
  simp only [hx,hy] at hl dx dy lx ly ⊢ hcp
  have hx80:x.length ≤ 80:=by omega
  have hy80:y.length ≤ 80:=by omega
  have hs:=fun (W:World) X Y (i1:IsInts W X x) (i2:IsInts W Y y)=>dsub_any X Y x y W i1 i2 dx dy (by omega) (by omega) (by omega)
  have hcm:=fun (W:World) X Y (i1:IsInts W X x) (i2:IsInts W Y y)=>dcmp_any X Y x y W i1 i2 dx dy (by omega) (by omega)
  have hlen:(digs (num x - num y)).length ≤ 1000000:=by
    have:(digs (num x - num y)).length ≤ 80:=digs_len_le (by
      have h1:=num_lt dx
      have h3:10 ^ x.length ≤ 10 ^ 80:=Nat.pow_le_pow_right (by omega) (by omega)
      omega)
    omega
  obtain ⟨L,hL⟩:∃ L,digs (num x - num y) = L:=⟨_,rfl⟩
  rw [hL] at hlen ⊢
  simp only [hL] at hs
  obtain ⟨r,hr⟩:∃ r,cmp3 ((num x:Nat):Int) ((num y:Nat):Int) = r:=⟨_,rfl⟩
  have hr0:decide (r < 0) = false:=by
    rcases cmp3_ge (show ((num y:Nat):Int) ≤ ((num x:Nat):Int) by omega) with h | h <;> (rw [← hr,h]; rfl)
  simp only [hr] at hcm
  have HS:=Lib.hid hs
  have HC:=Lib.hid hcm
  clear hs hcm hL lx ly hr hcp dx dy
  obtain ⟨td,htd⟩:∃ td,trimD ⟨a.neg,L,K⟩ = td:=⟨_,rfl⟩
  rw [htd]
  have HR:=Lib.hid (fun (W:World) (sl:Value) (h:IsInts W sl L)=>by have:=decTrim_any sl ⟨a.neg,L,K⟩ W h hlen (by simp only; omega); rw [htd] at this; exact this)
  have H1:=Lib.hid hm1
  have H2:=Lib.hid hm2
  have HL:=Lib.hid hl
  have HW2:=Lib.hid hW2
  have HZ:=Lib.hid (fun W (hB:Below W2.heap.size W2 W)=>And.intro (z1.below hB (by omega)).bx (z2.below hB (by omega)).bx)
  have ZB:=Lib.hid (fun W (hB:Below W2.heap.size W2 W)=>z1.below hB (by omega))
  have Z3:=Lib.hid (fun W (hB:Below W2.heap.size W2 W)=>z3.below hB (by omega))
  have HB2:=Lib.hid hB2
  have q0:=z1.c0
  have q1:=z1.c1
  have q2:=z1.c2
  have r0:=z2.c0
  have r1:=z2.c1
  have r2:=z2.c2
  obtain ⟨na,l,s⟩:=a
  obtain ⟨nb,l',s'⟩:=b
  simp only [dv] at *
  have B0:Below W2.heap.size W2 W2:=Below.refl _ _
  clear hW2 z1 z2 z3 hB2 ha da hb db hx hy hm1 hm2 hl htd
  have hbe:(na == nb) = false:=by cases na <;> cases nb <;> simp_all
  clear hne
  go_enter Tryz.func468,Tryz.ntmps468
  go_wp2_with fail
  rw [HW2.out]
  go_wp2_with fail
  refine (H1.out _ B0).mono ?_
  rintro e w3 ⟨rfl,b3⟩
  have Z:=HZ.out _ b3
  have c0:=Z.1.c0
  have c1:=Z.1.c1
  have c2:=Z.1.c2
  have d0:=Z.2.c0
  have d1:=Z.2.c1
  have d2:=Z.2.c2
  clear q0 q1 q2 r0 r1 r2 Z
  go_wp2_with fail
  refine (H2.out _ b3).mono ?_
  rintro e w4 ⟨rfl,b4'⟩
  have b4:=b3.trans (b4'.mono b3.size)
  have Z:=HZ.out _ b4
  have q0:=Z.1.c0
  have q1:=Z.1.c1
  have q2:=Z.1.c2
  have r0:=Z.2.c0
  have r1:=Z.2.c1
  have r2:=Z.2.c2
  clear c0 c1 c2 d0 d1 d2 Z
  go_wp2_with fail
  refine (HL.out _ b4).mono ?_
  rintro e w5 ⟨A5,c5,A6,c6,rfl,i5,i6,f5',f6',b5'⟩
  have hs4:=b4.size
  have f5:From (w.heap.size + 3) (.slice A5 x.length c5):=fun k hk=>by have:=f5' k hk; omega
  have f6:From (w.heap.size + 3) (.slice A6 y.length c6):=fun k hk=>by have:=f6' k hk; omega
  have b5:=b4.trans (b5'.mono b4.size)
  have Z:=HZ.out _ b5
  have c0:=Z.1.c0
  have c1:=Z.1.c1
  have c2:=Z.1.c2
  have d0:=Z.2.c0
  have d1:=Z.2.c1
  have d2:=Z.2.c2
  have cf:=Z.1.fz
  clear q0 q1 q2 r0 r1 r2 Z b3 b4' b5' b4 f5' f6' hs4
  go_wp2_with fail
  refine (HC.out _ _ _ i5 i6).mono ?_
  rintro e w6 ⟨rfl,b6'⟩
  have hs5:=b5.size
  have b6:=b5.trans (b6'.mono hs5)
  have j5:=i5.below b6' (Nat.le_refl _)
  have j6:=i6.below b6' (Nat.le_refl _)
  clear c0 c1 c2 d0 d1 d2 cf i5 i6 b5 b6'
  go_wp2_with fail
  refine (HS.out _ _ _ j5 j6).mono ?_
  rintro e w7 ⟨v7,rfl,o7,b7'⟩
  obtain ⟨A7,c7,rfl⟩:=own_form o7
  have b7:=b6.trans (b7'.mono b6.size)
  have Z:=HZ.out _ b7
  have q0:=Z.1.c0
  have q1:=Z.1.c1
  have q2:=Z.1.c2
  clear j5 j6 Z
  go_wp2_with fail
  refine (HR.out _ _ (IsInts.of_own o7)).mono ?_
  rintro e w8 ⟨v8,rfl,i8,f8,b8'⟩
  obtain ⟨A8,c8,rfl⟩:=i8.form
  have b8:=b7.trans (b8'.mono b7.size)
  have Z8:=Z3.out _ b8
  have e0:=Z8.c0
  have e1:=Z8.c1
  have e2:=Z8.c2
  have ef:=Z8.fz
  have hs7:=b7.size
  go_wp2
  refine bodyPost_ret_by (results_cell_two (by rfl) _ _ (w.heap.size + 2) _ _ _ _ _ rfl rfl (Z8.setAll _ _ _) Tryz.underlying73 rfl (by kernel_rfl)) rfl ?_
  refine ⟨.slice A8 td.l.length c8,rfl,?_,fun q hq=>?_,Below.set3 (HB2.out.trans (b8.mono (by omega))) (by omega) _ _ _⟩
  · exact i8.set3 f8 (by omega) _ _ _
  · have:=f8 q hq
    omega
end Go.Proofs.YteiomfgehlojeaaGreatDoor
end
section
namespace Go.Proofs.YteiomfgehlojeaaGreatDoor
open Go.RowKit
def alignD (d:Dc) (K:Nat):Dc:=⟨(trimD d).neg,trimL (padZ (trimD d).l (K - (trimD d).s)),K⟩
set_option maxHeartbeats 4000000 in
theorem decAlign_any (v:Value) (d:Dc) (K:Nat) (w:World) (ha:IsInts w v d.l) (da:Dg d.l) (hl:d.l.length ≤ 40) (hs:d.s ≤ 40) (hK:K ≤ 40) (hge:(trimD d).s ≤ K) :
    Calls Tryz.prog 482 #[dv v d, .int .i64 K] w fun e w'=>∃ sl,e = .returned (.tuple #[dv sl (alignD d K), .int .i64 0])∧IsInts w' sl (alignD d K).l∧From w.heap.size sl∧Below w.heap.size w w':=by
  obtain ⟨W2,hW2,hsz2,z1,z2,hB2⟩:=boxes2 w (.bool d.neg) v (.int .i64 d.s) (.bool false) (.slice none 0 0) (.int .i64 0)
  have hm:=decMay_any v d W2 (ha.below hB2 (Nat.le_refl _)) da (by omega)
  have ht:=fun W (hB:Below W2.heap.size W2 W)=>decTrim_any v d W ((ha.below hB2 (Nat.le_refl _)).below hB (Nat.le_refl _)) (by omega) (by omega)
  have td:=trimD_dg d da
  have tl:=trimD_len d
  have ts:=trimD_s d
  unfold alignD
  obtain ⟨t,htd⟩:∃ t,trimD d = t:=⟨_,rfl⟩
  rw [htd] at ht td tl ts hge ⊢
  have hsh:=fun W X (i:IsInts W X t.l)=>dshift_any X t.l (K - t.s) W i td (by omega) (by omega)
  have pl:=padZ_len t.l (K - t.s)
  obtain ⟨p,hp⟩:∃ p,padZ t.l (K - t.s) = p:=⟨_,rfl⟩
  have hp':t.l ++ List.replicate (K - t.s) 0 = p:=hp
  rw [hp] at pl ⊢
  rw [hp'] at hsh
  have htr:=fun W X (i:IsInts W X p)=>dtrim_any X p W i (by omega)
  obtain ⟨q,hq⟩:∃ q,trimL p = q:=⟨_,rfl⟩
  rw [hq] at htr ⊢
  obtain ⟨k,hk⟩:∃ k,K - t.s = k:=⟨_,rfl⟩
  rw [hk] at hsh
  have hw1:IntKind.i64.wrap ((K:Int) - (t.s:Int)) = (k:Int):=by rw [wrap_in _ (by omega) (by omega)]; omega
  have hg1:decide ((K:Int) < (t.s:Int)) = false:=decide_eq_false (by omega)
  have hg2:decide ((1000:Int) < (K:Int)) = false:=decide_eq_false (by omega)
  have HM:=Lib.hid hm
  have HT:=Lib.hid ht
  have HS:=Lib.hid hsh
  have HD:=Lib.hid htr
  have HW2:=Lib.hid hW2
  have HZ:=Lib.hid (fun W (hB:Below W2.heap.size W2 W)=>(z1.below hB (by omega)).bx)
  have Z2:=Lib.hid (fun W (hB:Below W2.heap.size W2 W)=>z2.below hB (by omega))
  have HB2:=Lib.hid hB2
  have q0:=z1.c0
  have q1:=z1.c1
  have q2:=z1.c2
  obtain ⟨na,l,s⟩:=d
  obtain ⟨tn,tl',ts'⟩:=t
  simp only [dv] at *
  clear hW2 z1 z2 hB2 ha da hm ht hsh htr htd hp hp' hq td pl
  go_enter Tryz.func482,Tryz.ntmps482
  go_wp2_with fail
  rw [HW2.out]
  go_wp2_with fail
  refine HM.out.mono ?_
  rintro e w3 ⟨rfl,b3⟩
  have Z:=HZ.out _ b3
  have c0:=Z.c0
  have c1:=Z.c1
  have c2:=Z.c2
  clear q0 q1 q2 Z
  go_wp2_with fail
  refine (HT.out _ b3).mono ?_
  rintro e w4 ⟨v4,rfl,i4,f4,b4'⟩
  obtain ⟨A4,c4,rfl⟩:=i4.form
  have b4:=b3.trans (b4'.mono b3.size)
  clear c0 c1 c2 b3 b4'
  go_wp2_with fail
  have hs4:=b4.size
  obtain ⟨W5,hW5,k5,i5,B5,S5⟩:∃ W5,w4.alloc (Obj.cells #[.bool tn, .slice A4 tl'.length c4, .int .i64 ts'] 73) = W5∧Blk3 W5 w4.heap.size (.bool tn) (.slice A4 tl'.length c4) (.int .i64 ts') ∧
      IsInts W5 (.slice A4 tl'.length c4) tl'∧Below W2.heap.size W2 W5∧W5.heap.size = w4.heap.size + 1 :=
    ⟨_,rfl,Blk3.new _ _ _ _,i4.alloc _,b4.alloc hs4 _,by simp⟩
  rw [hW5]
  clear hW5 i4 f4 b4
  refine (HS.out W5 _ i5).mono ?_
  rintro e w6 ⟨v6,rfl,o6,b6'⟩
  obtain ⟨A6,c6,rfl⟩:=own_form o6
  have b6:=B5.trans (b6'.mono B5.size)
  have i6:=IsInts.of_own o6
  have Z:=(k5.below b6' (by omega)).bx
  have c0:=Z.c0
  have HK:=Lib.hid (fun W (hB:Below w6.heap.size w6 W)=>((k5.below b6' (by omega)).below hB (by have:=b6'.size; omega)).bx)
  clear Z i5 b6' k5
  go_wp2_with fail
  go_region_with (go_at_call 54; refine (HD.out w6.drew _ i6).mono ?_; rintro e w7 ⟨v7,rfl,o7,b7⟩; obtain ⟨A7,c7,rfl⟩:=own_form o7; have b7':Below w6.heap.size w6 w7:=⟨b7.os,b7.tape,b7.output,b7.size,b7.block⟩; have b8:=b6.trans (b7'.mono b6.size); have Z7:=(HK.out _ b7'); have d0:=Z7.c0; have Z8:=Z2.out _ b8; have e0:=Z8.c0; have e1:=Z8.c1; have e2:=Z8.c2; have ef:=Z8.fz)
  all_goals
    have hs6:=b6.size
    have f7:From (w.heap.size + 2) (.slice A7 q.length c7):=fun j hj=>by have:=(o7.lt j hj).1; simp only [World.drew] at this; omega
    go_wp2
    refine bodyPost_ret_by (results_cell_two (by rfl) _ _ (w.heap.size + 1) _ _ _ _ _ rfl rfl (Z8.setAll _ _ _) Tryz.underlying73 rfl (by kernel_rfl)) rfl ?_
    refine ⟨.slice A7 q.length c7,rfl,?_,fun j hj=>?_,Below.set3 (HB2.out.trans (b8.mono (by omega))) (by omega) _ _ _⟩
    · exact (IsInts.of_own o7).set3 f7 (by omega) _ _ _
    · have:=f7 j hj
      omega
end Go.Proofs.YteiomfgehlojeaaGreatDoor
end
section
namespace Go.Proofs.YteiomfgehlojeaaGreatDoor
open Go.RowKit
def wideL (l:List Int) (n:Nat):List Int:=List.replicate (n - l.length) 0 ++ l
theorem wideL_len (l:List Int) (n:Nat):(wideL l n).length = max l.length n:=by simp [wideL]; omega
theorem madeCells_one (n:Nat):(madeCells (Value.int .i64 0).cells (n * 1)).toList = List.replicate n (Value.int .i64 0):=by
  have h:(Value.int .i64 0).cells = #[Value.int .i64 0]:=rfl
  rw [h]
  apply List.ext_getElem
  · simp [madeCells]
  · intro i h1 h2
    simp [madeCells,Nat.mod_one]
theorem row_of_own {w:World} {B g n:Nat} {t:TypeId} {xs:List Value} (h:w.ownsRow B t 1 (.slice (some ⟨g,0,none⟩) n n) n xs):w.heap[g]? = some (.cells xs.toArray t (0,0)):=by
  rcases h.2 with ⟨h0,_⟩ | ⟨g',cap,cur,he,_,hg,_,_,hs,ht⟩
  · cases h0
  · injection he with e1 e2 e3
    injection e1 with e1
    injection e1 with e1
    subst e1 e3
    rw [hg]
    have:cur.toList = xs:=by rw [← ht,List.take_of_length_le (by simp; omega)]
    rw [← this]
set_option maxHeartbeats 8000000 in
theorem wide_any (v:Value) (d:Dc) (n:Nat) (w:World) (ha:IsInts w v d.l) (la:d.l.length ≤ 100) (hn:n ≤ 100) :
    Calls Tryz.prog 74 #[dv v d, .int .i64 n] w fun e w'=>∃ v',e = .returned v'∧w'.ownsRow w.heap.size 3 1 v' (wideL d.l n).length (ints (wideL d.l n))∧Below w.heap.size w w':=by
  obtain ⟨na,l,s⟩:=d
  obtain ⟨A,c,rfl⟩:=ha.form
  simp only [dv] at *
  obtain ⟨m,hm⟩:∃ m,max l.length n = m:=⟨_,rfl⟩
  obtain ⟨k,hk⟩:∃ k,m - l.length = k:=⟨_,rfl⟩
  have hmx:max (l.length:Int) (n:Int) = (m:Int):=by omega
  have hw1:IntKind.i64.wrap ((m:Int) - (l.length:Int)) = (k:Int):=by rw [wrap_in _ (by omega) (by omega)]; omega
  have hkm:k ≤ m:=by omega
  obtain ⟨i0,hi,hz0,hz1,hz2⟩:=info_parts info_int
  obtain ⟨W1,hW1⟩:∃ W1,w.alloc (Obj.cells #[.bool na, .slice A l.length c, .int .i64 s] 73) = W1:=⟨_,rfl⟩
  have hs1:W1.heap.size = w.heap.size + 1:=by rw [← hW1]; simp
  have z1:Blk3 W1 w.heap.size (.bool na) (.slice A l.length c) (.int .i64 s):=by rw [← hW1]; exact Blk3.new _ _ _ _
  have hB1:Below w.heap.size w W1:=by rw [← hW1]; exact (Below.refl _ w).alloc (Nat.le_refl _) _
  have q1:=z1.c1
  have HW:=Lib.hid hW1
  have HI:=Lib.hid (ha.below hB1 (Nat.le_refl _))
  have HZ:=Lib.hid z1
  have HB:=Lib.hid hB1
  clear hW1 z1 hB1 ha
  go_enter Tryz.func74,Tryz.ntmps74
  go_wp2_with (first | (at_make; refine wpList_make_full _ rfl _ _ 24 rfl (w.heap.size + 1) 3 i0 (.int .i64 0) 1 Tryz.underlying24 hi hz0 hz1 .i64 .i64 _ _ m rfl rfl rfl rfl (by rw [hz2]; omega) (by unfold maxLen; omega) (by simp) ?_; intro w5 hown hgrow; rw [HW.out] at hown hgrow; have hq:w5.cell? ⟨w.heap.size,1,none⟩ = some (.slice A l.length c):=hgrow.cell q1 (by simp)))
  rw [madeCells_one,hs1] at hown
  try rw [hs1]
  have hrow:=row_of_own hown
  have b5:Below w.heap.size w w5:=HB.out.grown hgrow (by omega) (fun k h=>by cases h)
  have HI5:=Lib.hid (HI.out.keep (w':=w5) (fun b o hb=>World.cell?_of_block (hgrow.block b hb (by simp))))
  have hml:m - k = l.length:=by omega
  have s1:Hid ((ints l).length = Nat.min l.length (m - k)):=by rw [hml]; show _ = _; simp [ints]
  have s2:Hid (0 < (ints l).length→(if m = k then some (⟨w.heap.size + 1,0,none⟩:Addr) else some ⟨w.heap.size + 1,k,none⟩) = some ⟨w.heap.size + 1,k,none⟩∧∃ ad,A = some ad∧∀ j u,(ints l)[j]? = some u→w5.drew.cell? (ad.add j) = some u):=by
    intro h0
    have hl0:0 < l.length:=by simpa [ints] using h0
    refine ⟨by rw [if_neg (by omega)],?_⟩
    obtain ⟨A',c',he,_,_,hA⟩:=HI5.out
    injection he with e1 e2 e3
    subst e1
    obtain ⟨b,off,rfl,hc⟩:=hA hl0
    refine ⟨_,rfl,fun j u hu=>?_⟩
    have hj:j < l.length:=by
      have:=(List.getElem?_eq_some_iff.1 hu).1
      simpa [ints] using this
    have hx:u = .int .i64 (l.getD j 0):=by
      simp [ints,List.getElem?_eq_getElem hj] at hu
      rw [← hu]
      simp [List.getD_eq_getElem?_getD,List.getElem?_eq_getElem hj]
    rw [hx]
    have hadd:(⟨b,off,none⟩:Addr).add j = ⟨b,off + j,none⟩:=by unfold Addr.add; split <;> simp_all
    rw [hadd]
    exact hc j hj
  have s3:Hid (k + (ints l).length ≤ (List.replicate m (Value.int .i64 0)).length):=by show _ ≤ _; simp [ints]; omega
  have s4:Hid (∀ u ∈ ints l,u.oneCell' = true):=by
    intro u hu
    obtain ⟨x,_,rfl⟩:=List.mem_map.1 hu
    rfl
  have s5:Hid (Below w.heap.size w w5.drew):=⟨b5.os,b5.tape,b5.output,b5.size,b5.block⟩
  have s6:Hid ((Tryz.prog.info? 3).map (·.size) = some 1):=by show _ = _; rw [hi]; simp [hz1]
  have hrow2:w5.drew.heap[w.heap.size + 1]? = some (.cells (List.replicate m (Value.int .i64 0)).toArray 3 (0,0)):=hrow
  clear hgrow hown hmx hml
  go_region_law (refine step_copy_splice rfl (.tmp 19) (.tmp 21) 24 24 rfl 3 Tryz.underlying24 s6.out (if m = k then some ⟨w.heap.size + 1,0,none⟩ else some ⟨w.heap.size + 1,k,none⟩) A (m - k) (m - k) l.length c (by simp [Act.eval,Act.put]) (by simp [Act.eval,Act.put]) (w.heap.size + 1) k (List.replicate m (.int .i64 0)) 3 hrow2 (ints l) s1.out s2.out s3.out s4.out w.heap.size w s5.out (by omega) ?_; intro w6 hg6 hb6)
  all_goals
    clear s1 s2 s3 s4 s5 s6 hrow hrow2 hq hw1 b5 HI5 q1
    have HK:=Lib.hid (And.intro hm (And.intro hk hkm))
    clear hm hk hkm
    have HG:=Lib.hid hg6.out
    clear hg6
    generalize (if m = k then some (⟨w.heap.size + 1,0,none⟩:Addr) else some ⟨w.heap.size + 1,k,none⟩) = DD
    generalize (ints l).length = LL
    go_wp2
    obtain ⟨hm,hk,hkm⟩:=HK.out
    go_ret
    have hwl:(wideL l n).length = m:=by rw [wideL_len,hm]
    rw [hwl]
    have hsp:splice (List.replicate m (Value.int .i64 0)) k (ints l) = ints (wideL l n):=by
      have hkl:k + (ints l).length = m:=by rw [ints_length]; omega
      have hkn:n - l.length = k:=by omega
      unfold splice
      rw [hkl,List.drop_of_length_le (by simp),List.append_nil,List.take_replicate,Nat.min_eq_left hkm]
      simp [wideL,ints,hkn]
    have hg7:=HG.out
    rw [hsp] at hg7
    exact ⟨_,rfl,⟨by rw [ints_length,hwl]; omega, .inr ⟨w.heap.size + 1,m,_,rfl,by omega,hg7,Nat.le_refl _,by unfold maxLen; omega,by simp [ints_length,hwl],by simp [List.take_of_length_le,ints_length,hwl]⟩⟩,hb6⟩
end Go.Proofs.YteiomfgehlojeaaGreatDoor
end
section
namespace Go.Proofs.YteiomfgehlojeaaGreatDoor
open Go.RowKit
def wholeD (d:Dc):List Int:=trimL ((wideL d.l d.s).take ((wideL d.l d.s).length - d.s))
def restD (d:Dc):List Int:=(wideL d.l d.s).drop ((wideL d.l d.s).length - d.s)
set_option maxHeartbeats 8000000 in
theorem parts_any (v:Value) (d:Dc) (w:World) (ha:IsInts w v d.l) (la:d.l.length ≤ 100) (hs:d.s ≤ 100) :
    Calls Tryz.prog 196 #[dv v d] w fun e w'=>∃ v1 v2,e = .returned (.tuple #[v1,v2])∧IsInts w' v1 (wholeD d)∧IsInts w' v2 (restD d)∧From w.heap.size v1∧From w.heap.size v2∧Below w.heap.size w w':=by
  obtain ⟨W1,hW1⟩:∃ W1,w.alloc (Obj.cells #[.bool d.neg,v, .int .i64 d.s] 73) = W1:=⟨_,rfl⟩
  have hs1:W1.heap.size = w.heap.size + 1:=by rw [← hW1]; simp
  have z1:Blk3 W1 w.heap.size (.bool d.neg) v (.int .i64 d.s):=by rw [← hW1]; exact Blk3.new _ _ _ _
  have hB1:Below w.heap.size w W1:=by rw [← hW1]; exact (Below.refl _ w).alloc (Nat.le_refl _) _
  have hw:=wide_any v d d.s W1 (ha.below hB1 (Nat.le_refl _)) la hs
  unfold wholeD restD
  have hwl:=wideL_len d.l d.s
  obtain ⟨x,hx⟩:∃ x,wideL d.l d.s = x:=⟨_,rfl⟩
  rw [hx] at hw hwl ⊢
  obtain ⟨k,hk⟩:∃ k,x.length - d.s = k:=⟨_,rfl⟩
  rw [hk]
  have hkx:k ≤ x.length:=by omega
  have hx100:x.length ≤ 100:=by omega
  have hw1:IntKind.i64.wrap ((x.length:Int) - (d.s:Int)) = (k:Int):=by rw [wrap_in _ (by omega) (by omega)]; omega
  have htr:=fun W X (i:IsInts W X (x.take k))=>dtrim_any X (x.take k) W i (by simp; omega)
  obtain ⟨y,hy⟩:∃ y,trimL (x.take k) = y:=⟨_,rfl⟩
  simp only [hy] at htr ⊢
  have HT:=Lib.hid htr
  have HW:=Lib.hid hw
  have HE:=Lib.hid hW1
  have HB:=Lib.hid hB1
  have q0:=z1.c0
  have q1:=z1.c1
  have q2:=z1.c2
  have HZ:=Lib.hid z1
  obtain ⟨na,l,s⟩:=d
  simp only [dv] at *
  obtain ⟨N,hN⟩:∃ N,x.length = N:=⟨_,rfl⟩
  clear hW1 z1 hB1 ha htr hw hwl hx hk hy
  go_enter Tryz.func196,Tryz.ntmps196
  go_wp2_with fail
  rw [HE.out]
  go_wp2_with fail
  refine HW.out.mono ?_
  rintro e w3 ⟨v3,rfl,o3,b3⟩
  obtain ⟨A3,c3,rfl⟩:=own_form o3
  have Z:=(HZ.out.below b3 (by omega)).bx
  have c0:=Z.c0
  have c1:=Z.c1
  have c2:=Z.c2
  have i3:=IsInts.of_own o3
  have hcap:x.length ≤ c3∧c3 ≤ 9223372036854775807:=by
    obtain ⟨A',c',he,h0,h1,_⟩:=i3
    injection he with e1 e2 e3
    subst e3
    exact ⟨h0,h1⟩
  have j1:=Lib.hid (i3.take_ k hkx)
  have j2:=Lib.hid (i3.drop_ k hkx)
  rw [hN] at hkx hx100 hw1 hcap
  have hkc:k ≤ c3:=by omega
  have hf3:=own_far o3 (Nat.le_refl _)
  rw [hN] at j2 o3 hf3
  clear q0 q1 q2 Z i3
  have hA:(∃ g,A3 = some ⟨g,0,none⟩)∨(A3 = none∧N = 0∧c3 = 0):=by
    rcases o3.2 with ⟨he,h0⟩ | ⟨g,cap,cur,he,_⟩
    · injection he with e1 e2 e3
      exact .inr ⟨e1,h0,e3⟩
    · injection he with e1 e2 e3
      exact .inl ⟨g,e1⟩
  rcases hA with ⟨g,rfl⟩ | ⟨rfl,hN0,hc0⟩
  · by_cases hck:c3 = k
    · subst hck
      clear hkc
      obtain rfl:N = c3:=by omega
      clear hkx hcap
      go_wp2_with fail
      go_region_with (go_at_call 54; refine (HT.out w3.drew _ j1.out).mono ?_; rintro e w4 ⟨v4,rfl,o4,b4⟩; obtain ⟨A4,c4,rfl⟩:=own_form o4)
      all_goals
        go_wp2
        have hs3:=b3.size
        have b4':Below W1.heap.size W1 w4:=b3.trans (show Below W1.heap.size w3 w4 from ⟨b4.os,b4.tape,b4.output,by have:=b4.size; simp only [World.drew] at this; omega,fun q hq=>b4.block q (by simp only [World.drew]; omega)⟩)
        have j5:IsInts w4 (.slice (some ⟨g,0,none⟩) 0 0) (x.drop N):=by
          have h:=j2.out
          simp only [if_true,Nat.sub_self] at h
          exact h.keep fun b o hb=>World.cell?_of_block (a:=⟨b,o,none⟩) (b4.block b (show b < w3.drew.heap.size from hb))
        go_ret2
        refine ⟨.slice A4 y.length c4, .slice (some ⟨g,0,none⟩) 0 0,rfl,IsInts.of_own o4,j5,fun q hq=>?_,fun q hq=>?_,HB.out.trans (b4'.mono (by omega))⟩
        · have:=(o4.lt q hq).1
          simp only [World.drew] at this
          omega
        · have:=hf3 q (by simpa [Value.ownBlock] using hq)
          omega
    · go_wp2_with fail
      go_region_with (go_at_call 54; refine (HT.out w3.drew _ j1.out).mono ?_; rintro e w4 ⟨v4,rfl,o4,b4⟩; obtain ⟨A4,c4,rfl⟩:=own_form o4)
      all_goals
        go_wp2
        have hs3:=b3.size
        have b4':Below W1.heap.size W1 w4:=b3.trans (show Below W1.heap.size w3 w4 from ⟨b4.os,b4.tape,b4.output,by have:=b4.size; simp only [World.drew] at this; omega,fun q hq=>b4.block q (by simp only [World.drew]; omega)⟩)
        have j5:IsInts w4 (.slice (some ⟨g,k,none⟩) (N - k) (c3 - k)) (x.drop k):=by
          have h:=j2.out
          rw [if_neg hck] at h
          simp only [Option.map] at h
          have hadd:(⟨g,0,none⟩:Addr).add k = ⟨g,k,none⟩:=by unfold Addr.add; split <;> simp_all
          rw [hadd] at h
          exact h.keep fun b o hb=>World.cell?_of_block (a:=⟨b,o,none⟩) (b4.block b (show b < w3.drew.heap.size from hb))
        go_ret2
        refine ⟨.slice A4 y.length c4, .slice (some ⟨g,k,none⟩) (N - k) (c3 - k),rfl,IsInts.of_own o4,j5,fun q hq=>?_,fun q hq=>?_,HB.out.trans (b4'.mono (by omega))⟩
        · have:=(o4.lt q hq).1
          simp only [World.drew] at this
          omega
        · have:=hf3 q (by simpa [Value.ownBlock] using hq)
          omega
  · obtain rfl:c3 = k:=by omega
    obtain rfl:N = c3:=by omega
    have HN:=Lib.hid hN0
    clear hkc hkx hcap hN0 hc0
    go_wp2_with fail
    go_region_with (go_at_call 54; refine (HT.out w3.drew _ j1.out).mono ?_; rintro e w4 ⟨v4,rfl,o4,b4⟩; obtain ⟨A4,c4,rfl⟩:=own_form o4)
    all_goals
      go_wp2
      have hs3:=b3.size
      have b4':Below W1.heap.size W1 w4:=b3.trans (show Below W1.heap.size w3 w4 from ⟨b4.os,b4.tape,b4.output,by have:=b4.size; simp only [World.drew] at this; omega,fun q hq=>b4.block q (by simp only [World.drew]; omega)⟩)
      have hx0:x = []:=List.eq_nil_of_length_eq_zero (hN.trans HN.out)
      go_ret2
      refine ⟨.slice A4 y.length c4, .slice none 0 0,rfl,IsInts.of_own o4,by rw [hx0,List.drop_nil]; exact IsInts.nil_ _ _ _ (by omega),fun q hq=>?_,fun q hq=>by simp [Value.ownBlock] at hq,HB.out.trans (b4'.mono (by omega))⟩
      have:=(o4.lt q hq).1
      simp only [World.drew] at this
      omega
end Go.Proofs.YteiomfgehlojeaaGreatDoor
end
section
namespace Go.Proofs.YteiomfgehlojeaaGreatDoor
open Go.RowKit
structure Dr where
  neg:Bool
  int:List Int
  sep:Bool
  frac:List Int
def drv (vi vf:Value) (d:Dr):Value:=.agg #[.bool d.neg,vi, .bool d.sep,vf]
structure DrOK (w:World) (vi vf:Value) (d:Dr):Prop where
  ii:IsInts w vi d.int
  jf:IsInts w vf d.frac
  di:Dg d.int
  df:Dg d.frac
  li:d.int.length ≤ 40
  lf:d.frac.length ≤ 40
  sp:d.sep = true∨d.frac = []
theorem DrOK.below {w w':World} {vi vf:Value} {d:Dr} {B:Nat} (h:DrOK w vi vf d) (hb:Below B w w') (hB:w.heap.size ≤ B):DrOK w' vi vf d :=
  ⟨h.ii.below hb hB,h.jf.below hb hB,h.di,h.df,h.li,h.lf,h.sp⟩
set_option maxHeartbeats 8000000 in
theorem drMay_any (vi vf:Value) (d:Dr) (w:World) (h:DrOK w vi vf d) :
    Calls Tryz.prog 68 #[drv vi vf d] w fun e w'=>e = .returned (.bool true)∧Below w.heap.size w w':=by
  obtain ⟨A2,c2,rfl⟩:=h.jf.form
  have H1:=Lib.hid (fun W (hB:Below w.heap.size w W)=>dmay_any vi d.int W (h.ii.below hB (Nat.le_refl _)) h.di)
  have H2:=Lib.hid (fun W (hB:Below w.heap.size w W)=>dmay_any _ d.frac W (h.jf.below hB (Nat.le_refl _)) h.df)
  have HB:=Lib.hid (fun o=>(Below.refl w.heap.size w).alloc (Nat.le_refl _) o)
  have hsp:=h.sp
  obtain ⟨n,li,sp,lf⟩:=d
  simp only [drv] at *
  clear h
  rcases hsp with rfl | rfl
  · go_enter Tryz.func68,Tryz.ntmps68
    go_wp2_with fail
    refine (H1.out _ (HB.out _)).mono ?_
    rintro e w' ⟨rfl,rfl⟩
    go_wp2_with fail
    refine (H2.out _ (HB.out _)).mono ?_
    rintro e w' ⟨rfl,rfl⟩
    go_wp2
    go_ret
    exact ⟨rfl,HB.out _⟩
  · cases sp
    all_goals
      go_enter Tryz.func68,Tryz.ntmps68
      go_wp2_with fail
      refine (H1.out _ (HB.out _)).mono ?_
      rintro e w' ⟨rfl,rfl⟩
      go_wp2_with fail
      refine (H2.out _ (HB.out _)).mono ?_
      rintro e w' ⟨rfl,rfl⟩
      go_wp2
      go_ret
      exact ⟨rfl,HB.out _⟩
def atomsL (d:Dr):List Int:=d.int ++ (if d.sep then [10] else []) ++ d.frac
end Go.Proofs.YteiomfgehlojeaaGreatDoor
end
section
namespace Go.Proofs.YteiomfgehlojeaaGreatDoor
open Go.RowKit
theorem IsInts.news {w:World} {a:Addr} {n c:Nat} {l:List Int} (h:IsInts w (.slice (some a) n c) l) (hl:0 < l.length):∀ j u,(ints l)[j]? = some u→w.cell? (a.add j) = some u:=by
  obtain ⟨A',c',he,_,_,hA⟩:=h
  injection he with e1 e2 e3
  subst e1
  obtain ⟨b,off,hb,hc⟩:=hA hl
  injection hb with hb
  subst hb
  intro j u hu
  have hj:j < l.length:=by
    have:=(List.getElem?_eq_some_iff.1 hu).1
    simpa [ints] using this
  have hx:=ints_get l j hj
  rw [hx] at hu
  injection hu with hu
  subst hu
  have hadd:(⟨b,off,none⟩:Addr).add j = ⟨b,off + j,none⟩:=by unfold Addr.add; split <;> simp_all
  rw [hadd]
  exact hc j hj
section
variable {P:Program} (w:World)
theorem run_append_ints (base:Nat) (t ty e:TypeId) (i:TypeInfo) (ht:P.underlying t = some (.slice e)) (hi:P.info? e = some i) (hz:i.zero = some (.int .i64 0)) (hsize:i.size = 1) (hby:i.bytes = 8)
    (v:Value) (n:Nat) (xs:List Value) (hown:w.ownsRow base e 1 v n xs) (u:Value) (l:List Int) (hu:IsInts w u l) (hnm:n + l.length ≤ 1000000) (hbase:base ≤ w.heap.size) :
    ∃ v' w',(Builtin.append_ #[t,t] ty #[v,u]).run P w = .ok v' w'∧w'.ownsRow base e 1 v' (n + l.length) (xs ++ ints l)∧w.grownBy w' v.ownBlock:=by
  obtain ⟨A,c,rfl⟩:=hu.form
  by_cases hl:0 < l.length
  · obtain ⟨a,rfl⟩:∃ a,A = some a:=by
      obtain ⟨A',c',he,_,_,hA⟩:=hu
      injection he with e1 e2 e3
      subst e1
      obtain ⟨b,off,hb,_⟩:=hA hl
      exact ⟨_,hb⟩
    obtain ⟨v',w',k1,k2,k3,_⟩:=run_append_own (P:=P) w base t ty e i (.int .i64 0) 1 8 ht hi hz hsize hby rfl (by decide) v n xs hown a l.length c (ints l) (by rw [ints_length]; omega) (hu.news hl) (ints_one l) (by unfold maxLen; omega) (by omega) hbase
    exact ⟨v',w',k1,k2,k3⟩
  · obtain rfl:l = []:=List.eq_nil_of_length_eq_zero (by omega)
    refine ⟨v,w,?_,by simpa [ints] using hown,⟨rfl,rfl,rfl,Nat.le_refl _,fun _ _ _=>rfl⟩⟩
    rcases hown.2 with ⟨rfl,rfl⟩ | ⟨g,cap,cur,rfl,_,_,hnc,_⟩
    · cases A <;> simp [Builtin.append_,run_underlying ht,sizeOf,typeInfo,hi,Builtin.lenOf,Builtin.firstCells,loadCells,loadCellsFrom]
    · cases A <;> simp [Builtin.append_,run_underlying ht,sizeOf,typeInfo,hi,Builtin.lenOf,Builtin.firstCells,loadCells,loadCellsFrom,hnc,storeCells]
theorem wpList_append_ints {ops:Array Oper} {rest:List Oper} {o:Oper} {a:Act} {Q:Exit→Act→World→Prop} (hgd:o.guard = none) (s x:Operand) (t:TypeId)
    (ho:o.op = .call { callee:=.builtin .append,args:=#[s,x],argTypes:=#[t,t] })
    (base:Nat) (e:TypeId) (i:TypeInfo) (ht:P.underlying t = some (.slice e)) (hi:P.info? e = some i) (hz:i.zero = some (.int .i64 0)) (hsize:i.size = 1) (hby:i.bytes = 8)
    (v:Value) (n:Nat) (xs:List Value) (hs:a.eval s = v) (hown:w.ownsRow base e 1 v n xs) (u:Value) (l:List Int) (hx:a.eval x = u) (hu:IsInts w u l) (hnm:n + l.length ≤ 1000000) (hbase:base ≤ w.heap.size)
    (h:∀ v' w',w'.ownsRow base e 1 v' (n + l.length) (xs ++ ints l)→w.grownBy w' v.ownBlock→wpList P ops Q rest (a.put o.dst v') w') :
    wpList P ops Q (o :: rest) a w:=by
  refine wpList_plain hgd fun K hK=>?_
  obtain ⟨v',w',hr,h2,h3⟩:=run_append_ints (P:=P) w base t o.type e i ht hi hz hsize hby v n xs hown u l hu hnm hbase
  unfold Oper.wp execOp
  simp only [ho,resolve,invoke,builtin,Sem.run_bind,Sem.run_pure,Result.andThen_ok,List.map_toArray,List.map_cons,List.map_nil,hs,hx,hr]
  exact hK _ _ (h v' w' h2 h3)
end
end Go.Proofs.YteiomfgehlojeaaGreatDoor
end
section
namespace Go.Proofs.YteiomfgehlojeaaGreatDoor
open Go.RowKit
theorem trimL_at:∀ (k:Nat) (l:List Int),k ≤ l.length→(∀ j,j < k→l.getD j 0 = 0)→(k < l.length→l.getD k 0 ≠ 0)→trimL l = l.drop k
  | 0,[],_,_,_=>rfl
  | 0,x :: l,_,_,h=>by
    have hx:x ≠ 0:=by simpa using h (by simp)
    unfold trimL
    rw [List.dropWhile_cons_of_neg (by simpa using hx)]
    rfl
  | k + 1,[],h,_,_=>by simp at h
  | k + 1,x :: l,hk,h0,h=>by
    have hx:x = 0:=by simpa using h0 0 (by omega)
    subst hx
    have ih:=trimL_at k l (by simpa using hk) (fun j hj=>by simpa using h0 (j + 1) (by omega)) (fun hl=>by simpa using h (by simpa using hl))
    unfold trimL at ih ⊢
    rw [List.dropWhile_cons_of_pos (by simp),ih]
    rfl
set_option maxHeartbeats 1000000 in
theorem rfMay_any (v:Value) (l:List Int) (w:World) (h:IsInts w v l) (hd:Dg l) :
    Calls Tryz.prog 78 #[v] w fun e w'=>e = .returned (.bool true)∧w = w':=by
  obtain ⟨A,c,rfl,hlc,hcm,hA⟩:=h
  by_cases h0:0 < l.length
  · obtain ⟨b,off,rfl,hcell⟩:=hA h0
    have HD:=Lib.hid hd
    clear hA hd
    go_enter Tryz.func78,Tryz.ntmps78
    go_wp2
    go_loop [3] (fun i=>∃ k:Nat,i = .int .i64 k∧k ≤ l.length) (fun i=>l.length - (intOf i).toNat)
    case atStart=>exact ⟨0,rfl,Nat.zero_le _⟩
    case round =>
      obtain ⟨k,rfl,hk⟩:=hrel
      by_cases hlt:k < l.length
      · have c1:=hcell k hlt
        have hx:=HD.out.getD k
        obtain ⟨x,hxe⟩:∃ x,l.getD k 0 = x:=⟨_,rfl⟩
        rw [hxe] at c1 hx
        obtain ⟨hx0,hx9⟩:=hx
        have g1:decide (x < 0) = false:=decide_eq_false (by omega)
        have g2:decide ((9:Int) < x) = false:=decide_eq_false (by omega)
        clear hxe hcell
        go_wp2
        go_round
        case rel=>exact ⟨k + 1,by go_num,by omega⟩
        case measure=>simp [intOf]; omega
      · obtain rfl:k = l.length:=by omega
        clear hcell
        go_wp2
        go_ret
        exact ⟨rfl,rfl⟩
  · have hl:l = []:=List.eq_nil_of_length_eq_zero (by omega)
    subst hl
    clear hA
    go_enter Tryz.func78,Tryz.ntmps78
    go_wp2
    go_loop [3] (fun i=>i = .int .i64 0) (fun i=>0)
    case atStart=>rfl
    case round =>
      subst hrel
      go_wp2
      go_ret
      exact ⟨rfl,rfl⟩
set_option maxHeartbeats 400000 in
theorem rfDigit_any (v:Value) (l:List Int) (i:Nat) (w:World) (h:IsInts w v l) (hi:i ≤ 1000000) :
    Calls Tryz.prog 83 #[v, .int .i64 i] w fun e w'=>e = .returned (.int .i64 (fromL l i))∧w = w':=by
  obtain ⟨A,c,rfl,hlc,hcm,hA⟩:=h
  obtain ⟨r,hr⟩:∃ r,fromL l i = r:=⟨_,rfl⟩
  rw [hr]
  by_cases hlt:i < l.length
  · obtain ⟨b,off,rfl,hcell⟩:=hA (by omega)
    have c1:=hcell (l.length - 1 - i) (by omega)
    unfold fromL at hr
    rw [if_neg (by omega)] at hr
    rw [hr] at c1
    clear hcell hA hr
    have e1:((l.length:Int) - 1 - (i:Int)).toNat = l.length - 1 - i:=by omega
    go_enter Tryz.func83,Tryz.ntmps83
    go_wp2
    go_ret
    exact ⟨rfl,rfl⟩
  · unfold fromL at hr
    rw [if_pos (by omega)] at hr
    subst hr
    clear hA
    go_enter Tryz.func83,Tryz.ntmps83
    go_wp2
    go_ret
    exact ⟨rfl,rfl⟩
theorem IsInts.drop_at {w:World} {b off n c:Nat} {l:List Int} (h:IsInts w (.slice (some ⟨b,off,none⟩) n c) l) (k:Nat) (hk:k ≤ l.length) (hc:¬ c = k):IsInts w (.slice (some ⟨b,off + k,none⟩) (n - k) (c - k)) (l.drop k):=by
  have:=h.drop_ k hk
  rw [if_neg hc] at this
  simp only [Option.map_some] at this
  have hadd:(⟨b,off,none⟩:Addr).add k = ⟨b,off + k,none⟩:=by unfold Addr.add; split <;> simp_all
  rw [hadd] at this
  exact this
set_option maxHeartbeats 4000000 in
theorem rfTrim_any (v:Value) (l:List Int) (w:World) (h:IsInts w v l) (dl:Dg l) (hl:l.length ≤ 1000000) :
    Calls Tryz.prog 82 #[v] w fun e w'=>∃ v',e = .returned v'∧w'.ownsRow w.heap.size 3 1 v' (trimL l).length (ints (trimL l))∧Below w.heap.size w w':=by
  obtain ⟨i0,hi,hz0,hz1,hz2⟩:=info_parts info_int
  obtain ⟨t,ht⟩:∃ t,trimL l = t:=⟨_,rfl⟩
  rw [ht]
  have HT:=Lib.hid ht
  clear ht
  have HI:=Lib.hid h
  have HG:=Lib.hid (fun k=>dl.getD k)
  clear dl
  obtain ⟨A,c,rfl,hlc,hcm,hA⟩:=h
  by_cases h0:0 < l.length
  · obtain ⟨b,off,rfl,hcell⟩:=hA h0
    have HC:=Lib.hid hcell
    clear hA hcell
    go_enter Tryz.func82,Tryz.ntmps82
    go_wp2
    go_loop [3] (fun i=>∃ k:Nat,i = .int .i64 k∧k ≤ l.length∧Aside (∀ j,j < k→l.getD j 0 = 0)) (fun i=>l.length - (intOf i).toNat)
    case atStart=>exact ⟨0,rfl,Nat.zero_le _,fun j hj=>absurd hj (by omega)⟩
    case round =>
      obtain ⟨k,rfl,hk,HS⟩:=hrel
      by_cases hlt:k < l.length
      · have c1:=HC.out k hlt
        obtain ⟨x,hx⟩:∃ x,l.getD k 0 = x:=⟨_,rfl⟩
        rw [hx] at c1
        have HX:=Lib.hid hx
        clear hx
        by_cases hx0:x = 0
        · subst hx0
          go_wp2
          go_round
          case rel =>
            refine ⟨k + 1,by go_num,by omega,fun j hj=>?_⟩
            by_cases hjk:j < k
            · exact HS.out j hjk
            · obtain rfl:j = k:=by omega
              exact HX.out
          case measure=>simp [intOf]; omega
        · have hx1:1 ≤ x:=by have:=(HG.out k).1; rw [HX.out] at this; omega
          have hd:Hid (t = l.drop k):=by
            rw [← HT.out]
            exact trimL_at k l hk HS.out (fun _=>by rw [HX.out]; exact hx0)
          have hck:¬ (c = k):=by omega
          have j1:=Lib.hid (HI.out.drop_at k hk hck)
          clear hx0
          have hdl:=Lib.hid (show 0 + (l.drop k).length ≤ 1000000 by simp; omega)
          have hb0:=Lib.hid (show (x == 0) = false by simp; omega)
          iterate 40 (first | go_values | go_skip | go_guarded | go_step | go_upon | go_back)
          rw [hb0.out]
          go_wp2_with (first
            | (at_builtin
               refine wpList_append_ints _ rfl _ _ 24 rfl w.heap.size 3 i0 Tryz.underlying24 hi hz0 hz1 hz2 (.slice none 0 0) 0 [] (by simp [Act.eval,Act.put]) (World.ownsRow_nil _ _ _ _) (.slice (some ⟨b,off + k,none⟩) (l.length - k) (c - k)) (l.drop k) (by simp [Act.eval,Act.put]) j1.out hdl.out (Nat.le_refl _) ?_
               intro v4 w4 hown4 hgrow4
               have X4:Aside (w4.ownsRow w.heap.size 3 1 v4 t.length (ints t)∧Below w.heap.size w w4):=⟨by rw [hd.out]; simpa using hown4,(Below.refl w.heap.size w).grown hgrow4 (Nat.le_refl _) (fun j hj=>by simp [Value.ownBlock] at hj)⟩
               clear hown4 hgrow4))
          go_ret
          exact ⟨v4,rfl,X4.out.1,X4.out.2⟩
      · obtain rfl:k = l.length:=by omega
        have hd:Hid (t = l.drop l.length):=by
          rw [← HT.out]
          exact trimL_at _ l hk HS.out (fun h=>absurd h (by omega))
        have hdl:=Lib.hid (show 0 + (l.drop l.length).length ≤ 1000000 by simp)
        by_cases hck:c = l.length
        · have j1:Hid (IsInts w (.slice (some ⟨b,off,none⟩) 0 0) (l.drop l.length)):=by
            rw [List.drop_length]; exact IsInts.nil_ _ _ _ (by omega)
          go_wp2_with (first
            | (at_builtin
               refine wpList_append_ints _ rfl _ _ 24 rfl w.heap.size 3 i0 Tryz.underlying24 hi hz0 hz1 hz2 (.slice none 0 0) 0 [] (by simp [Act.eval,Act.put]) (World.ownsRow_nil _ _ _ _) (.slice (some ⟨b,off,none⟩) 0 0) (l.drop l.length) (by simp [Act.eval,Act.put,hck]) j1.out hdl.out (Nat.le_refl _) ?_
               intro v4 w4 hown4 hgrow4
               have X4:Aside (w4.ownsRow w.heap.size 3 1 v4 t.length (ints t)∧Below w.heap.size w w4):=⟨by rw [hd.out]; simpa using hown4,(Below.refl w.heap.size w).grown hgrow4 (Nat.le_refl _) (fun j hj=>by simp [Value.ownBlock] at hj)⟩
               clear hown4 hgrow4))
          go_ret
          exact ⟨v4,rfl,X4.out.1,X4.out.2⟩
        · have j1:=Lib.hid (HI.out.drop_at l.length hk hck)
          go_wp2_with (first
            | (at_builtin
               refine wpList_append_ints _ rfl _ _ 24 rfl w.heap.size 3 i0 Tryz.underlying24 hi hz0 hz1 hz2 (.slice none 0 0) 0 [] (by simp [Act.eval,Act.put]) (World.ownsRow_nil _ _ _ _) (.slice (some ⟨b,off + l.length,none⟩) (l.length - l.length) (c - l.length)) (l.drop l.length) (by simp [Act.eval,Act.put,hck]) j1.out hdl.out (Nat.le_refl _) ?_
               intro v4 w4 hown4 hgrow4
               have X4:Aside (w4.ownsRow w.heap.size 3 1 v4 t.length (ints t)∧Below w.heap.size w w4):=⟨by rw [hd.out]; simpa using hown4,(Below.refl w.heap.size w).grown hgrow4 (Nat.le_refl _) (fun j hj=>by simp [Value.ownBlock] at hj)⟩
               clear hown4 hgrow4))
          go_ret
          exact ⟨v4,rfl,X4.out.1,X4.out.2⟩
  · have hl0:l = []:=List.eq_nil_of_length_eq_zero (by omega)
    subst hl0
    have ht0:t = []:=HT.out.symm
    subst ht0
    clear hA HI
    go_enter Tryz.func82,Tryz.ntmps82
    go_wp2
    go_loop [3] (fun i=>i = .int .i64 0) (fun i=>0)
    case atStart=>rfl
    case round =>
      subst hrel
      go_wp2_with (first
        | (at_builtin
           refine wpList_append_ints _ rfl _ _ 24 rfl w.heap.size 3 i0 Tryz.underlying24 hi hz0 hz1 hz2 (.slice none 0 0) 0 [] (by simp [Act.eval,Act.put]) (World.ownsRow_nil _ _ _ _) (.slice _ 0 _) [] (by simp [Act.eval,Act.put]; exact ⟨rfl,rfl⟩) (IsInts.nil_ _ _ _ (by omega)) (by simp) (Nat.le_refl _) ?_
           intro v4 w4 hown4 hgrow4
           have X4:Aside (w4.ownsRow w.heap.size 3 1 v4 ([]:List Int).length (ints [])∧Below w.heap.size w w4):=⟨by simpa using hown4,(Below.refl w.heap.size w).grown hgrow4 (Nat.le_refl _) (fun j hj=>by simp [Value.ownBlock] at hj)⟩
           clear hown4 hgrow4))
      go_ret
      exact ⟨v4,rfl,X4.out.1,X4.out.2⟩
end Go.Proofs.YteiomfgehlojeaaGreatDoor
end
section
namespace Go.Proofs.YteiomfgehlojeaaGreatDoor
open Go.RowKit
set_option maxHeartbeats 4000000 in
theorem rfFront_any (d:Int) (v:Value) (l:List Int) (w:World) (h:IsInts w v l) (hl:l.length ≤ 100000) :
    Calls Tryz.prog 84 #[.int .i64 d,v] w fun e w'=>∃ v',e = .returned v'∧w'.ownsRow w.heap.size 3 1 v' (d :: l).length (ints (d :: l))∧Below w.heap.size w w':=by
  obtain ⟨i0,hi,hz0,hz1,hz2⟩:=info_parts info_int
  obtain ⟨A,c,rfl⟩:=h.form
  have HI:=Lib.hid (fun W (hB:Below w.heap.size w W)=>h.below hB (Nat.le_refl _))
  clear h
  go_enter Tryz.func84,Tryz.ntmps84
  go_wp2_with (first
    | (at_builtin
       refine wpList_append_own _ rfl _ _ 24 rfl w.heap.size 3 i0 (.int .i64 0) 1 8 Tryz.underlying24 hi hz0 hz1 hz2 rfl (by decide) (.slice none 0 0) 0 [] (by simp [Act.eval,Act.put]) (World.ownsRow_nil _ _ _ _) ⟨w.heap.size,0,none⟩ 1 1 [.int .i64 d] (by simp [Act.eval,Act.put]) rfl (cell_one_new _ _ _) (fun x hx=>by simp at hx; subst hx; rfl) (by unfold maxLen; omega) (by omega) (by simp) ?_
       intro v3 w3 hown3 hgrow3 hnil3
       have B3:Below w.heap.size w w3:=((Below.refl w.heap.size w).alloc (Nat.le_refl _) _).grown hgrow3 (by simp) (fun j hj=>by simp [Value.ownBlock] at hj)
       have X3:=aside (And.intro hown3 B3)
       clear hown3 hgrow3 hnil3)
    | (at_builtin
       refine wpList_append_ints _ rfl _ _ 24 rfl w.heap.size 3 i0 Tryz.underlying24 hi hz0 hz1 hz2 v3 _ _ (by simp [Act.eval,Act.put]) X3.out.1 (.slice A l.length c) l (by simp [Act.eval,Act.put]) (HI.out _ X3.out.2) (by omega) X3.out.2.size ?_
       intro v4 w4 hown4 hgrow4
       have X4:=aside (And.intro hown4 (X3.out.2.grown hgrow4 X3.out.2.size (fun j hj=>(X3.out.1.lt j hj).1)))
       clear hown4 hgrow4))
  go_ret
  refine ⟨v4,rfl,?_,X4.out.2⟩
  have:=X4.out.1
  rw [show 0 + 1 + l.length = (d :: l).length by simp; omega] at this
  exact this
end Go.Proofs.YteiomfgehlojeaaGreatDoor
end
section
namespace Go.Proofs.YteiomfgehlojeaaGreatDoor
open Go.RowKit
theorem lowI_rev (o:List Int):lowI o.reverse = (num o:Nat):=by unfold lowI; rw [List.reverse_reverse]
theorem carry_cons {f:Nat→Int} {i:Nat} {o:List Int} {rest:Int} (h:((num o:Nat):Int) + rest * 10 ^ i = totI f i) (hl:o.length = i) :
    ((num ((rest + f i) % 10 :: o):Nat):Int) + (rest + f i) / 10 * 10 ^ (i + 1) = totI f (i + 1):=by
  have:=carry_step (f:=f) (i:=i) (o:=o.reverse) (rest:=rest) (by rw [lowI_rev]; exact h) (by simpa using hl)
  rw [show o.reverse ++ [(rest + f i) % 10] = ((rest + f i) % 10 :: o).reverse by simp,lowI_rev] at this
  exact this
theorem num_cons_pos (d:Int) (o:List Int) (h:0 ≤ d):((num (d :: o):Nat):Int) = d * 10 ^ o.length + (num o:Nat):=by
  rw [num_cons]
  push_cast
  rw [Int.toNat_of_nonneg h]
set_option maxHeartbeats 8000000 in
theorem rfAdd_any (v u:Value) (a b:List Int) (w:World) (ha:IsInts w v a) (hb:IsInts w u b) (da:Dg a) (db:Dg b) (la:a.length ≤ 100) (lb:b.length ≤ 100) :
    Calls Tryz.prog 49 #[v,u] w fun e w'=>∃ v',e = .returned v'∧w'.ownsRow w.heap.size 3 1 v' (digs (num a + num b)).length (ints (digs (num a + num b)))∧Below w.heap.size w w':=by
  obtain ⟨N,hN⟩:∃ N,max a.length b.length = N:=⟨_,rfl⟩
  have hfl:∀ i,0 ≤ fromL a i + fromL b i∧fromL a i + fromL b i ≤ 18:=fun i=>by have:=fromL_dg da i; have:=fromL_dg db i; omega
  have htot:totI (fun i=>fromL a i + fromL b i) N = ((num a + num b:Nat):Int):=by
    rw [tot_add,tot_all a da N (by omega),tot_all b db N (by omega)]; push_cast; rfl
  have hD1:=fun W (hB:Below w.heap.size w W) i (hi:i ≤ 1000000)=>rfDigit_any v a i W (ha.below hB (Nat.le_refl _)) hi
  have hD2:=fun W (hB:Below w.heap.size w W) i (hi:i ≤ 1000000)=>rfDigit_any u b i W (hb.below hB (Nat.le_refl _)) hi
  obtain ⟨A,c,rfl⟩:=ha.form
  obtain ⟨B,d,rfl⟩:=hb.form
  obtain ⟨R,hR⟩:∃ R,digs (num a + num b) = R:=⟨_,rfl⟩
  rw [hR]
  have HD1:=Lib.hid hD1
  have HD2:=Lib.hid hD2
  have HF:=Lib.hid hfl
  have HT:=Lib.hid htot
  have HR:=Lib.hid hR
  obtain ⟨n1,hn1⟩:∃ n,a.length = n:=⟨_,rfl⟩
  obtain ⟨n2,hn2⟩:∃ n,b.length = n:=⟨_,rfl⟩
  rw [hn1,hn2] at hN
  rw [hn1] at la HD1 ⊢
  rw [hn2] at lb HD2 ⊢
  clear ha hb da db hD1 hD2 hfl htot hR hn1 hn2
  go_enter Tryz.func49,Tryz.ntmps49
  go_wp2
  go_loopw [5,6,7] (fun v o i wr=>∃ (k:Nat) (out:List Int) (over:Int),i = .int .i64 k∧o = .int .i64 over∧k ≤ N∧0 ≤ over∧over ≤ 9∧Aside (IsInts wr v out∧Below w.heap.size w wr∧out.length = k∧Dg out∧((num out:Nat):Int) + over * 10 ^ k = totI (fun i=>fromL a i + fromL b i) k)) (fun _ _ i _=>N - (intOf i).toNat)
  case atStart=>exact ⟨0,[],0,rfl,rfl,Nat.zero_le _,by omega,by omega,IsInts.nil_ _ _ _ (by omega),Below.refl _ _,rfl,Dg.nil,by simp [num_nil,totI]⟩
  case round =>
    obtain ⟨k,out,over,rfl,rfl,hk,ho0,ho1,HA⟩:=hrel
    by_cases hlt:k < N
    · have hsum:=HF.out k
      have f1:=HD1.out wr HA.out.2.1 k (by omega)
      have f2:=HD2.out wr HA.out.2.1 k (by omega)
      have hx:=fun (h:Dg out)=>h
      obtain ⟨x,hxe⟩:∃ x,fromL a k = x:=⟨_,rfl⟩
      obtain ⟨y,hye⟩:∃ y,fromL b k = y:=⟨_,rfl⟩
      rw [hxe] at f1 hsum
      rw [hye] at f2 hsum
      obtain ⟨s,hs⟩:∃ s,x + y + over = s:=⟨_,rfl⟩
      have hw1:IntKind.i64.wrap (x + y) = x + y:=wrap_in _ (by omega) (by omega)
      have hw2:IntKind.i64.wrap (x + y + over) = s:=by rw [hs]; exact wrap_in _ (by omega) (by omega)
      obtain ⟨dd,hdd⟩:∃ dd,s % 10 = dd:=⟨_,rfl⟩
      obtain ⟨q,hq⟩:∃ q,s / 10 = q:=⟨_,rfl⟩
      have hm1:s.tmod 10 = dd:=by rw [tmod10 _ (by omega)]; exact hdd
      have hq1:s.tdiv 10 = q:=by rw [tdiv10 _ (by omega)]; exact hq
      have hd0:0 ≤ dd∧dd ≤ 9:=by omega
      have hqb:0 ≤ q∧q ≤ 9:=by omega
      have hw3:IntKind.i64.wrap dd = dd:=wrap_in _ (by omega) (by omega)
      have hw4:IntKind.i64.wrap q = q:=wrap_in _ (by omega) (by omega)
      have HN:Hid (Dg (dd :: out)∧((num (dd :: out):Nat):Int) + q * 10 ^ (k + 1) = totI (fun i=>fromL a i + fromL b i) (k + 1)):=by
        refine ⟨Dg.cons hd0.1 hd0.2 HA.out.2.2.2.1,?_⟩
        have:=carry_cons (f:=fun i=>fromL a i + fromL b i) HA.out.2.2.2.2 HA.out.2.2.1
        rw [hxe,hye,show over + (x + y) = s by omega,hdd,hq] at this
        exact this
      have HFR:=Lib.hid (rfFront_any dd _ out wr HA.out.1 (by have:=HA.out.2.2.1; omega))
      have hf:∀ (V:Value) (r:Int),(V = .slice A n1 c∧r = x)∨(V = .slice B n2 d∧r = y)→Calls Tryz.prog 83 #[V, .int .i64 k] wr fun e w'=>e = .returned (.int .i64 r)∧wr = w':=by
        rintro V r (⟨rfl,rfl⟩ | ⟨rfl,rfl⟩)
        · exact f1
        · exact f2
      clear f1 f2 hdd hq hs hxe hye hsum
      by_cases h1:k < n1
      all_goals
        go_wp2_with (first
          | (go_at_call 83; refine (hf _ _ (by first | exact .inl ⟨rfl,rfl⟩ | exact .inr ⟨rfl,rfl⟩)).mono ?_; rintro e w' ⟨rfl,rfl⟩)
          | (go_at_call 84; refine HFR.out.mono ?_; rintro e w2 ⟨v2,rfl,o2,b2⟩))
        go_roundw
        case rel=>exact ⟨k + 1,dd :: out,q,by go_num,rfl,by omega,by omega,by omega,IsInts.of_own o2,HA.out.2.1.trans (b2.mono HA.out.2.1.size),by have:=HA.out.2.2.1; simp [this],HN.out.1,HN.out.2⟩
        case measure=>simp [intOf]; omega
    · obtain rfl:k = N:=by omega
      have hnum:num (over :: out) = num a + num b:=by
        have h1:=num_cons_pos over out ho0
        have h2:=HA.out.2.2.2.2
        rw [HA.out.2.2.1] at h1
        rw [HT.out] at h2
        omega
      have HFR:=Lib.hid (rfFront_any over _ out wr HA.out.1 (by have:=HA.out.2.2.1; omega))
      have HTR:=Lib.hid (fun V W (h:IsInts W V (over :: out))=>by
        have:=rfTrim_any V (over :: out) W h (Dg.cons ho0 ho1 HA.out.2.2.2.1) (by have:=HA.out.2.2.1; simp; omega)
        rw [trim_digs (Dg.cons ho0 ho1 HA.out.2.2.2.1),hnum,HR.out] at this
        exact this)
      clear hnum
      have hk1:¬ k < n1:=by omega
      have hk2:¬ k < n2:=by omega
      go_wp2_with (first
        | (go_at_call 84; refine HFR.out.mono ?_; rintro e w2 ⟨v2,rfl,o2,b2⟩; have X2:=aside (And.intro o2 b2); clear o2 b2)
        | (go_at_call 82; refine (HTR.out _ _ (IsInts.of_own X2.out.1)).mono ?_; rintro e w3 ⟨v3,rfl,o3,b3⟩; have X3:=aside (And.intro o3 b3); clear o3 b3))
      go_ret
      have hb2:=HA.out.2.1.trans (X2.out.2.mono HA.out.2.1.size)
      exact ⟨v3,rfl,own_base X3.out.1 hb2.size,hb2.trans (X3.out.2.mono hb2.size)⟩
end Go.Proofs.YteiomfgehlojeaaGreatDoor
end
section
namespace Go.Proofs.YteiomfgehlojeaaGreatDoor
open Go.RowKit
set_option maxHeartbeats 8000000 in
theorem rfLess_any (v u:Value) (a b:List Int) (w:World) (ha:IsInts w v a) (hb:IsInts w u b) (da:Dg a) (db:Dg b) (la:a.length ≤ 100) (lb:b.length ≤ 100) (hge:num b ≤ num a) :
    Calls Tryz.prog 51 #[v,u] w fun e w'=>∃ v',e = .returned v'∧w'.ownsRow w.heap.size 3 1 v' (digs (num a - num b)).length (ints (digs (num a - num b)))∧Below w.heap.size w w':=by
  obtain ⟨N,hN⟩:∃ N,max a.length b.length = N:=⟨_,rfl⟩
  have hfl:∀ i,-9 ≤ fromL a i - fromL b i∧fromL a i - fromL b i ≤ 9:=fun i=>by have:=fromL_dg da i; have:=fromL_dg db i; omega
  have htot:totI (fun i=>fromL a i - fromL b i) N = ((num a - num b:Nat):Int):=by
    rw [tot_sub,tot_all a da N (by omega),tot_all b db N (by omega)]; omega
  have hD1:=fun W (hB:Below w.heap.size w W) i (hi:i ≤ 1000000)=>rfDigit_any v a i W (ha.below hB (Nat.le_refl _)) hi
  have hD2:=fun W (hB:Below w.heap.size w W) i (hi:i ≤ 1000000)=>rfDigit_any u b i W (hb.below hB (Nat.le_refl _)) hi
  obtain ⟨A,c,rfl⟩:=ha.form
  obtain ⟨B,d,rfl⟩:=hb.form
  obtain ⟨R,hR⟩:∃ R,digs (num a - num b) = R:=⟨_,rfl⟩
  rw [hR]
  have HD1:=Lib.hid hD1
  have HD2:=Lib.hid hD2
  have HF:=Lib.hid hfl
  have HT:=Lib.hid htot
  have HR:=Lib.hid hR
  obtain ⟨n1,hn1⟩:∃ n,a.length = n:=⟨_,rfl⟩
  obtain ⟨n2,hn2⟩:∃ n,b.length = n:=⟨_,rfl⟩
  rw [hn1,hn2] at hN
  rw [hn1] at la HD1 ⊢
  rw [hn2] at lb HD2 ⊢
  clear ha hb da db hD1 hD2 hfl htot hR hn1 hn2 hge
  go_enter Tryz.func51,Tryz.ntmps51
  go_wp2
  go_loopw [5,6,7] (fun v o i wr=>∃ (k:Nat) (out:List Int) (lent:Int),i = .int .i64 k∧o = .int .i64 lent∧k ≤ N∧0 ≤ lent∧lent ≤ 1∧Aside (IsInts wr v out∧Below w.heap.size w wr∧out.length = k∧Dg out∧((num out:Nat):Int) + (-lent) * 10 ^ k = totI (fun i=>fromL a i - fromL b i) k)) (fun _ _ i _=>N - (intOf i).toNat)
  case atStart=>exact ⟨0,[],0,rfl,rfl,Nat.zero_le _,by omega,by omega,IsInts.nil_ _ _ _ (by omega),Below.refl _ _,rfl,Dg.nil,by simp [num_nil,totI]⟩
  case round =>
    obtain ⟨k,out,lent,rfl,rfl,hk,ho0,ho1,HA⟩:=hrel
    by_cases hlt:k < N
    · have hsum:=HF.out k
      have f1:=HD1.out wr HA.out.2.1 k (by omega)
      have f2:=HD2.out wr HA.out.2.1 k (by omega)
      obtain ⟨x,hxe⟩:∃ x,fromL a k = x:=⟨_,rfl⟩
      obtain ⟨y,hye⟩:∃ y,fromL b k = y:=⟨_,rfl⟩
      rw [hxe] at f1 hsum
      rw [hye] at f2 hsum
      obtain ⟨s,hs⟩:∃ s,x - y - lent = s:=⟨_,rfl⟩
      have hw1:IntKind.i64.wrap (x - y) = x - y:=wrap_in _ (by omega) (by omega)
      have hw2:IntKind.i64.wrap (x - y - lent) = s:=by rw [hs]; exact wrap_in _ (by omega) (by omega)
      have hw3:IntKind.i64.wrap (s + 10) = s + 10:=wrap_in _ (by omega) (by omega)
      have hsb:-10 ≤ s∧s ≤ 9:=by omega
      have HN:Hid (∀ dd q,s % 10 = dd→s / 10 = -q→Dg (dd :: out)∧((num (dd :: out):Nat):Int) + (-q) * 10 ^ (k + 1) = totI (fun i=>fromL a i - fromL b i) (k + 1)):=by
        intro dd q hdd hq
        refine ⟨Dg.cons (by omega) (by omega) HA.out.2.2.2.1,?_⟩
        have:=carry_cons (f:=fun i=>fromL a i - fromL b i) HA.out.2.2.2.2 HA.out.2.2.1
        rw [hxe,hye,show -lent + (x - y) = s by omega,hdd,hq] at this
        exact this
      have HFR:=Lib.hid (fun dd=>rfFront_any dd _ out wr HA.out.1 (by have:=HA.out.2.2.1; omega))
      have hf:∀ (V:Value) (r:Int),(V = .slice A n1 c∧r = x)∨(V = .slice B n2 d∧r = y)→Calls Tryz.prog 83 #[V, .int .i64 k] wr fun e w'=>e = .returned (.int .i64 r)∧wr = w':=by
        rintro V r (⟨rfl,rfl⟩ | ⟨rfl,rfl⟩)
        · exact f1
        · exact f2
      clear f1 f2 hs hxe hye hsum
      by_cases h1:k < n1
      all_goals
        by_cases hs0:s < 0
        · go_wp2_with (first
            | (go_at_call 83; refine (hf _ _ (by first | exact .inl ⟨rfl,rfl⟩ | exact .inr ⟨rfl,rfl⟩)).mono ?_; rintro e w' ⟨rfl,rfl⟩)
            | (go_at_call 84; refine (HFR.out _).mono ?_; rintro e w2 ⟨v2,rfl,o2,b2⟩))
          go_roundw
          case rel=>exact ⟨k + 1,(s + 10) :: out,1,by go_num,rfl,by omega,by omega,by omega,IsInts.of_own o2,HA.out.2.1.trans (b2.mono HA.out.2.1.size),by have:=HA.out.2.2.1; simp [this],HN.out (s + 10) 1 (by omega) (by omega)⟩
          case measure=>simp [intOf]; omega
        · go_wp2_with (first
            | (go_at_call 83; refine (hf _ _ (by first | exact .inl ⟨rfl,rfl⟩ | exact .inr ⟨rfl,rfl⟩)).mono ?_; rintro e w' ⟨rfl,rfl⟩)
            | (go_at_call 84; refine (HFR.out _).mono ?_; rintro e w2 ⟨v2,rfl,o2,b2⟩))
          go_roundw
          case rel=>exact ⟨k + 1,s :: out,0,by go_num,rfl,by omega,by omega,by omega,IsInts.of_own o2,HA.out.2.1.trans (b2.mono HA.out.2.1.size),by have:=HA.out.2.2.1; simp [this],HN.out s 0 (by omega) (by omega)⟩
          case measure=>simp [intOf]; omega
    · obtain rfl:k = N:=by omega
      have hnum:num out = num a - num b:=by
        have h2:=HA.out.2.2.2.2
        have h3:=carry_rest (o:=out.reverse) (rest:=-lent) (t:=totI (fun i=>fromL a i - fromL b i) k) HA.out.2.2.2.1.reverse (by rw [lowI_rev,List.length_reverse,HA.out.2.2.1]; exact h2) (by rw [HT.out]; omega)
        rw [HT.out,show lent = 0 by omega] at h2
        omega
      have HTR:=Lib.hid (by
        have:=rfTrim_any _ out wr HA.out.1 HA.out.2.2.2.1 (by have:=HA.out.2.2.1; omega)
        rw [trim_digs HA.out.2.2.2.1,hnum,HR.out] at this
        exact this)
      clear hnum
      have hk1:¬ k < n1:=by omega
      have hk2:¬ k < n2:=by omega
      go_wp2_with (first
        | (go_at_call 82; refine HTR.out.mono ?_; rintro e w3 ⟨v3,rfl,o3,b3⟩; have X3:=aside (And.intro o3 b3); clear o3 b3))
      go_ret
      exact ⟨v3,rfl,own_base X3.out.1 HA.out.2.1.size,HA.out.2.1.trans (X3.out.2.mono HA.out.2.1.size)⟩
set_option maxHeartbeats 8000000 in
theorem rfTimes_any (v:Value) (a:List Int) (m:Nat) (w:World) (ha:IsInts w v a) (da:Dg a) (la:a.length ≤ 100) (hm:m ≤ 1000) :
    Calls Tryz.prog 47 #[v, .int .i64 m] w fun e w'=>∃ v',e = .returned v'∧w'.ownsRow w.heap.size 3 1 v' (digs (m * num a)).length (ints (digs (m * num a)))∧Below w.heap.size w w':=by
  obtain ⟨N,hN⟩:∃ N,a.length = N:=⟨_,rfl⟩
  have hfl:∀ i,0 ≤ fromL a i∧fromL a i ≤ 9:=fun i=>fromL_dg da i
  have htot:totI (fun i=>(m:Int) * fromL a i) N = ((m * num a:Nat):Int):=by
    rw [tot_mul,tot_all a da N (by omega)]; push_cast; rfl
  have hD1:=fun W (hB:Below w.heap.size w W) i (hi:i ≤ 1000000)=>rfDigit_any v a i W (ha.below hB (Nat.le_refl _)) hi
  obtain ⟨A,c,rfl⟩:=ha.form
  obtain ⟨R,hR⟩:∃ R,digs (m * num a) = R:=⟨_,rfl⟩
  rw [hR]
  have HD1:=Lib.hid hD1
  have HF:=Lib.hid hfl
  have HT:=Lib.hid htot
  have HR:=Lib.hid hR
  rw [hN] at la HD1 ⊢
  clear ha da hD1 hfl htot hR hN
  go_enter Tryz.func47,Tryz.ntmps47
  go_wp2
  go_loopw [5,6,7] (fun v o i wr=>∃ (k:Nat) (out:List Int) (over:Int),i = .int .i64 k∧o = .int .i64 over∧k ≤ N∧0 ≤ over∧over ≤ 10000∧Aside (IsInts wr v out∧Below w.heap.size w wr∧out.length = k∧Dg out∧((num out:Nat):Int) + over * 10 ^ k = totI (fun i=>(m:Int) * fromL a i) k)) (fun _ _ i _=>N - (intOf i).toNat)
  case atStart=>exact ⟨0,[],0,rfl,rfl,Nat.zero_le _,by omega,by omega,IsInts.nil_ _ _ _ (by omega),Below.refl _ _,rfl,Dg.nil,by simp [num_nil,totI]⟩
  case round =>
    obtain ⟨k,out,over,rfl,rfl,hk,ho0,ho1,HA⟩:=hrel
    by_cases hlt:k < N
    · have hx:=HF.out k
      have f1:=Lib.hid (HD1.out wr HA.out.2.1 k (by omega))
      obtain ⟨x,hxe⟩:∃ x,fromL a k = x:=⟨_,rfl⟩
      rw [hxe] at f1 hx
      have hp0:0 ≤ x * (m:Int):=Int.mul_nonneg hx.1 (by omega)
      have hp1:x * (m:Int) ≤ 9 * (m:Int):=Int.mul_le_mul_of_nonneg_right hx.2 (by omega)
      have hcm:(m:Int) * x = x * (m:Int):=Int.mul_comm _ _
      obtain ⟨p,hp⟩:∃ p,x * (m:Int) = p:=⟨_,rfl⟩
      rw [hp] at hp0 hp1 hcm
      obtain ⟨s,hs⟩:∃ s,p + over = s:=⟨_,rfl⟩
      have hw1:IntKind.i64.wrap (x * (m:Int)) = p:=by rw [hp]; exact wrap_in _ (by omega) (by omega)
      have hw2:IntKind.i64.wrap (p + over) = s:=by rw [hs]; exact wrap_in _ (by omega) (by omega)
      obtain ⟨dd,hdd⟩:∃ dd,s % 10 = dd:=⟨_,rfl⟩
      obtain ⟨q,hq⟩:∃ q,s / 10 = q:=⟨_,rfl⟩
      have hm1:s.tmod 10 = dd:=by rw [tmod10 _ (by omega)]; exact hdd
      have hq1:s.tdiv 10 = q:=by rw [tdiv10 _ (by omega)]; exact hq
      have hd0:0 ≤ dd∧dd ≤ 9:=by omega
      have hqb:0 ≤ q∧q ≤ 10000:=by omega
      have hw3:IntKind.i64.wrap dd = dd:=wrap_in _ (by omega) (by omega)
      have hw4:IntKind.i64.wrap q = q:=wrap_in _ (by omega) (by omega)
      have HN:Hid (Dg (dd :: out)∧((num (dd :: out):Nat):Int) + q * 10 ^ (k + 1) = totI (fun i=>(m:Int) * fromL a i) (k + 1)):=by
        refine ⟨Dg.cons hd0.1 hd0.2 HA.out.2.2.2.1,?_⟩
        have:=carry_cons (f:=fun i=>(m:Int) * fromL a i) HA.out.2.2.2.2 HA.out.2.2.1
        rw [hxe,hcm,show over + p = s by omega,hdd,hq] at this
        exact this
      have HFR:=Lib.hid (rfFront_any dd _ out wr HA.out.1 (by have:=HA.out.2.2.1; omega))
      clear hdd hq hs hp hcm hxe
      go_wp2_with (first
        | (go_at_call 83; refine f1.out.mono ?_; rintro e w' ⟨rfl,rfl⟩)
        | (go_at_call 84; refine HFR.out.mono ?_; rintro e w2 ⟨v2,rfl,o2,b2⟩))
      go_roundw
      case rel=>exact ⟨k + 1,dd :: out,q,by go_num,rfl,by omega,by omega,by omega,IsInts.of_own o2,HA.out.2.1.trans (b2.mono HA.out.2.1.size),by have:=HA.out.2.2.1; simp [this],HN.out.1,HN.out.2⟩
      case measure=>simp [intOf]; omega
    · obtain rfl:k = N:=by omega
      have HA2:Hid ((out.length:Int) ≤ (k:Int)∧((num out:Nat):Int) + over * 10 ^ out.length = totI (fun i=>(m:Int) * fromL a i) k):=⟨by rw [HA.out.2.2.1]; omega,by rw [HA.out.2.2.1]; exact HA.out.2.2.2.2⟩
      go_wp2
      go_loopw [5,6] (fun v o wr=>∃ (out:List Int) (over:Int),o = .int .i64 over∧0 ≤ over∧over ≤ 10000∧Aside (IsInts wr v out∧Below w.heap.size w wr∧(out.length:Int) + over ≤ (k:Int) + 10000∧Dg out∧((num out:Nat):Int) + over * 10 ^ out.length = totI (fun i=>(m:Int) * fromL a i) k)) (fun _ o _=>(intOf o).toNat)
      case atStart=>exact ⟨out,over,rfl,ho0,ho1,HA.out.1,HA.out.2.1,by have:=HA2.out.1; omega,HA.out.2.2.2.1,HA2.out.2⟩
      case round =>
        obtain ⟨o2,r2,rfl,hr20,hr21,HB⟩:=hrel
        by_cases hp:0 < r2
        · obtain ⟨dd,hdd⟩:∃ dd,r2 % 10 = dd:=⟨_,rfl⟩
          obtain ⟨q,hq⟩:∃ q,r2 / 10 = q:=⟨_,rfl⟩
          have hm1:r2.tmod 10 = dd:=by rw [tmod10 _ (by omega)]; exact hdd
          have hq1:r2.tdiv 10 = q:=by rw [tdiv10 _ (by omega)]; exact hq
          have hd0:0 ≤ dd∧dd ≤ 9:=by omega
          have hqb:0 ≤ q∧q < r2:=by omega
          have hw4:IntKind.i64.wrap dd = dd:=wrap_in _ (by omega) (by omega)
          have hw6:IntKind.i64.wrap q = q:=wrap_in _ (by omega) (by omega)
          have HN:Hid (Dg (dd :: o2)∧((num (dd :: o2):Nat):Int) + q * 10 ^ (dd :: o2).length = totI (fun i=>(m:Int) * fromL a i) k):=by
            refine ⟨Dg.cons hd0.1 hd0.2 HB.out.2.2.2.1,?_⟩
            have:=carry_more (o:=o2.reverse) (rest:=r2) (t:=totI (fun i=>(m:Int) * fromL a i) k) (by rw [lowI_rev,List.length_reverse]; exact HB.out.2.2.2.2) (by omega)
            rw [show o2.reverse ++ [r2 % 10] = (r2 % 10 :: o2).reverse by simp,lowI_rev,List.length_reverse,hdd,hq] at this
            exact this
          have HFR:=Lib.hid (rfFront_any dd _ o2 wr HB.out.1 (by have:=HB.out.2.2.1; omega))
          clear hdd hq
          go_wp2_with (first
            | (go_at_call 84; refine HFR.out.mono ?_; rintro e w2 ⟨v2,rfl,o2',b2⟩))
          go_roundw
          case rel=>exact ⟨dd :: o2,q,rfl,by omega,by omega,IsInts.of_own o2',HB.out.2.1.trans (b2.mono HB.out.2.1.size),by have:=HB.out.2.2.1; simp; omega,HN.out.1,HN.out.2⟩
          case measure=>simp [intOf]; omega
        · obtain rfl:r2 = 0:=by omega
          have hnum:num o2 = m * num a:=by
            have h2:=HB.out.2.2.2.2
            rw [HT.out] at h2
            omega
          have HTR:=Lib.hid (by
            have:=rfTrim_any _ o2 wr HB.out.1 HB.out.2.2.2.1 (by have:=HB.out.2.2.1; omega)
            rw [trim_digs HB.out.2.2.2.1,hnum,HR.out] at this
            exact this)
          clear hnum
          go_wp2_with (first
            | (go_at_call 82; refine HTR.out.mono ?_; rintro e w3 ⟨v3,rfl,o3,b3⟩; have X3:=aside (And.intro o3 b3); clear o3 b3))
          go_ret
          exact ⟨v3,rfl,own_base X3.out.1 HB.out.2.1.size,HB.out.2.1.trans (X3.out.2.mono HB.out.2.1.size)⟩
end Go.Proofs.YteiomfgehlojeaaGreatDoor
end
section
namespace Go.Proofs.YteiomfgehlojeaaGreatDoor
open Go.RowKit
theorem padZ_succ (l:List Int) (k:Nat):padZ l (k + 1) = padZ l k ++ [0]:=by
  unfold padZ
  rw [List.replicate_succ',List.append_assoc]
set_option maxHeartbeats 4000000 in
theorem rfShift_any (v:Value) (l:List Int) (n:Nat) (w:World) (h:IsInts w v l) (hl:l.length ≤ 1000) (hn:n ≤ 1000) :
    Calls Tryz.prog 48 #[v, .int .i64 n] w fun e w'=>∃ v',e = .returned v'∧w'.ownsRow w.heap.size 3 1 v' (padZ l n).length (ints (padZ l n))∧Below w.heap.size w w':=by
  obtain ⟨i0,hi,hz0,hz1,hz2⟩:=info_parts info_int
  obtain ⟨A,c,rfl⟩:=h.form
  have HI:=Lib.hid h
  have HL:=Lib.hid hl
  obtain ⟨N,hN⟩:∃ N,l.length = N:=⟨_,rfl⟩
  rw [hN] at HI HL ⊢
  have HNN:=Lib.hid hN
  clear h hl hN
  have hg:¬ ((n:Int) < 0):=by omega
  go_enter Tryz.func48,Tryz.ntmps48
  go_wp2_with (first
    | (at_builtin
       refine wpList_append_ints _ rfl _ _ 24 rfl w.heap.size 3 i0 Tryz.underlying24 hi hz0 hz1 hz2 (.slice none 0 0) 0 [] (by simp [Act.eval,Act.put]) (World.ownsRow_nil _ _ _ _) (.slice A N c) l (by simp [Act.eval,Act.put]) HI.out (by have:=HL.out; rw [HNN.out]; omega) (Nat.le_refl _) ?_
       intro v3 w3 hown3 hgrow3
       have X3:Aside (w3.ownsRow w.heap.size 3 1 v3 (padZ l 0).length (ints (padZ l 0))∧Below w.heap.size w w3):=⟨by simpa [padZ] using hown3,(Below.refl w.heap.size w).grown hgrow3 (Nat.le_refl _) (fun j hj=>by simp [Value.ownBlock] at hj)⟩
       clear hown3 hgrow3))
  go_loopw [5,6] (fun v i wr=>∃ k:Nat,i = .int .i64 k∧k ≤ n∧Aside (wr.ownsRow w.heap.size 3 1 v (padZ l k).length (ints (padZ l k))∧Below w.heap.size w wr)) (fun _ i _=>n - (intOf i).toNat)
  case atStart=>exact ⟨0,rfl,Nat.zero_le _,X3.out⟩
  case round =>
    obtain ⟨k,rfl,hk,HA⟩:=hrel
    clear X3
    by_cases hlt:k < n
    · have hlen:Hid ((padZ l k).length + 1 ≤ 100000):=by show _ ≤ _; rw [padZ_len]; have:=HL.out; have:=HNN.out; omega
      go_wp2_with (first
        | (at_builtin
           refine wpList_append_own _ rfl _ _ 24 rfl w.heap.size 3 i0 (.int .i64 0) 1 8 Tryz.underlying24 hi hz0 hz1 hz2 rfl (by decide) _ _ _ rfl (HA.out.1.alloc _) ⟨_,0,none⟩ 1 1 [.int .i64 0] rfl rfl (cell_one_new _ _ _) (fun x hx=>by simp at hx; subst hx; rfl) (by have:=hlen.out; unfold maxLen; omega) (by have:=hlen.out; omega) (by have:=HA.out.2.size; simp; omega) ?_
           intro v4 w4 hown4 hgrow4 hnil4
           have X4:Aside (w4.ownsRow w.heap.size 3 1 v4 (padZ l (k + 1)).length (ints (padZ l (k + 1)))∧Below w.heap.size w w4):=by
             refine ⟨by rw [padZ_succ,List.length_append,ints_append]; exact hown4,?_⟩
             exact (HA.out.2.alloc HA.out.2.size _).grown hgrow4 (by have:=HA.out.2.size; simp; omega) (fun j hj=>(HA.out.1.lt j hj).1)
           clear hown4 hgrow4 hnil4))
      go_roundw
      case rel=>exact ⟨k + 1,by go_num,by omega,X4.out⟩
      case measure=>simp [intOf]; omega
    · obtain rfl:k = n:=by omega
      go_wp2
      go_ret
      exact ⟨_,rfl,HA.out.1,HA.out.2⟩
end Go.Proofs.YteiomfgehlojeaaGreatDoor
end
section
namespace Go.Proofs.YteiomfgehlojeaaGreatDoor
open Go.RowKit
theorem same_step (a b:List Int) (hl:a.length = b.length) (k:Nat) (_:k < a.length) (hne:a.getD k 0 ≠ b.getD k 0):decide (a = b) = false:=by
  apply decide_eq_false
  rintro rfl
  exact hne rfl
theorem same_end (a b:List Int) (hl:a.length = b.length) (h:∀ j,j < a.length→a.getD j 0 = b.getD j 0):decide (a = b) = true:=by
  apply decide_eq_true
  apply List.ext_getElem hl
  intro i h1 h2
  have:=h i h1
  simpa [List.getD_eq_getElem?_getD,h1,h2] using this
set_option maxHeartbeats 400000 in
theorem same_any (a b:List Int) (va vb:Value) (w:World) (ha:IsInts w va a) (hb:IsInts w vb b) (hla:a.length ≤ 9223372036854775807) (hlb:b.length ≤ 9223372036854775807) :
    Calls Tryz.prog 53 #[va,vb] w fun e w'=>e = .returned (.bool (decide (a = b)))∧∃ n,w' = w.drewN n:=by
  obtain ⟨A,ca,rfl,_,_,hA⟩:=ha
  obtain ⟨B,cb,rfl,_,_,hB⟩:=hb
  obtain ⟨r,hr⟩:∃ r,decide (a = b) = r:=⟨_,rfl⟩
  have HR:=Lib.hid hr
  rw [hr]; clear hr
  by_cases hl:a.length = b.length
  · have hl1:((a.length:Int) != (b.length:Int)) = false:=by simp [hl]
    have HL:=Lib.hid hl
    have hle1:a.length ≤ b.length:=by omega
    have hle2:b.length ≤ a.length:=by omega
    clear hl
    by_cases h0:0 < a.length
    · obtain ⟨ba,oa,rfl,hca⟩:=hA h0
      obtain ⟨bb,ob,rfl,hcb⟩:=hB (by omega)
      go_enter Tryz.func53,Tryz.ntmps53
      go_wp2
      go_loopw [5] (fun i wr=>∃ k n:Nat,i = .int .i64 k∧k ≤ a.length∧wr = w.drewN n∧Aside (∀ j,j < k→a.getD j 0 = b.getD j 0)) (fun i _=>a.length - (intOf i).toNat)
      case atStart=>exact ⟨0,0,rfl,Nat.zero_le _,rfl,fun j hj=>absurd hj (by omega)⟩
      case round =>
        obtain ⟨k,n,rfl,hk,rfl,HS⟩:=hrel
        by_cases hlt:k < a.length
        · have c1:=hca k hlt
          have c2:=hcb k (by omega)
          clear hca hcb hA hB
          obtain ⟨x,hx⟩:∃ x,a.getD k 0 = x:=⟨_,rfl⟩
          obtain ⟨y,hy⟩:∃ y,b.getD k 0 = y:=⟨_,rfl⟩
          rw [hx] at c1
          rw [hy] at c2
          have HX:=Lib.hid hx
          have HY:=Lib.hid hy
          clear hx hy
          by_cases hxy:x = y
          · obtain rfl:x = y:=hxy
            go_wp2
            go_quiet (fail)
            go_wp2
            go_roundw
            case rel =>
              refine ⟨k + 1,_,by go_num,by omega,rfl,fun j hj=>?_⟩
              by_cases h:j = k
              · rw [h,HX.out,HY.out]
              · exact HS.out j (by omega)
            case measure=>simp [intOf]; omega
          · have hxy':(x != y) = true:=by simpa using hxy
            go_wp2
            go_quiet (fail)
            go_wp2
            go_ret
            exact ⟨ret_bool (by rw [← HR.out,same_step a b HL.out k hlt (by rw [HX.out,HY.out]; exact hxy)]),_,World.drewN_drewN _ _ _⟩
        · clear hca hcb hA hB
          go_wp2
          go_ret
          exact ⟨ret_bool (by rw [← HR.out,same_end a b HL.out (fun j hj=>HS.out j (by omega))]),_,rfl⟩
    · have hz:a.length = 0:=by omega
      obtain rfl:a = []:=List.eq_nil_of_length_eq_zero hz
      obtain rfl:b = []:=List.eq_nil_of_length_eq_zero (by simp at hle2; simp [hle2])
      clear hA hB
      go_enter Tryz.func53,Tryz.ntmps53
      go_wp2
      refine wp_loop_rounds 1 ?_
      rw [rounds_succ]
      go_wp2
      go_ret
      exact ⟨ret_bool (by rw [← HR.out]; rfl),0,rfl⟩
  · have hl1:((a.length:Int) != (b.length:Int)) = true:=by simp; omega
    clear hA hB
    go_enter Tryz.func53,Tryz.ntmps53
    go_wp2
    go_ret
    exact ⟨ret_bool (by rw [← HR.out]; symm; apply decide_eq_false; rintro rfl; exact hl rfl),0,rfl⟩
end Go.Proofs.YteiomfgehlojeaaGreatDoor
end
section
namespace Go.Proofs.YteiomfgehlojeaaGreatDoor
open Go.RowKit
theorem cmpL_digs (a b:Nat) (h:(digs a).length = (digs b).length):cmpL (digs a) (digs b) = cmp3 a b:=by
  have:=cmpL_num (digs_dg a) (digs_dg b) h
  rw [num_digs,num_digs] at this
  exact this
theorem digs_lt {a b:Nat} (h:(digs a).length < (digs b).length):a < b:=by
  have:=trim_len (digs_dg a) (digs_dg b) (by rw [trim_digs (digs_dg a),trim_digs (digs_dg b),num_digs,num_digs]; exact h)
  rw [num_digs,num_digs] at this
  exact this
set_option maxHeartbeats 8000000 in
theorem rfCompare_any (v u:Value) (a b:List Int) (w:World) (ha:IsInts w v a) (hb:IsInts w u b) (da:Dg a) (db:Dg b) (la:a.length ≤ 1000) (lb:b.length ≤ 1000) :
    Calls Tryz.prog 50 #[v,u] w fun e w'=>e = .returned (.int .i64 (cmp3 (num a:Nat) (num b:Nat)))∧Below w.heap.size w w':=by
  have HT1:=Lib.hid (rfTrim_any v a w ha da (by omega))
  have HT2:=Lib.hid (fun W (hB:Below w.heap.size w W)=>rfTrim_any u b W (hb.below hB (Nat.le_refl _)) db (by omega))
  rw [trim_digs da] at HT1
  rw [trim_digs db] at HT2
  obtain ⟨r,hr⟩:∃ r,cmp3 (num a:Nat) (num b:Nat) = r:=⟨_,rfl⟩
  rw [hr]
  have HR:=Lib.hid (show cmp3 (num a:Nat) (num b:Nat) = r from hr)
  have HLL:=Lib.hid (cmpL_digs (num a) (num b))
  have HL1:=Lib.hid (@digs_lt (num a) (num b))
  have HL2:=Lib.hid (@digs_lt (num b) (num a))
  obtain ⟨x,hx⟩:∃ x,digs (num a) = x:=⟨_,rfl⟩
  obtain ⟨y,hy⟩:∃ y,digs (num b) = y:=⟨_,rfl⟩
  rw [hx] at HT1 HLL HL1 HL2
  rw [hy] at HT2 HLL HL1 HL2
  obtain ⟨A0,c0,rfl⟩:=ha.form
  obtain ⟨B0,d0,rfl⟩:=hb.form
  clear ha hb da db la lb hr hx hy
  go_enter Tryz.func50,Tryz.ntmps50
  go_wp2_with fail
  refine HT1.out.mono ?_
  rintro e w4 ⟨v4,rfl,o4,b4⟩
  go_wp2_with fail
  refine (HT2.out w4 b4).mono ?_
  rintro e w5 ⟨v5,rfl,o5,b5⟩
  have B5:=aside (b4.trans (b5.mono b4.size))
  have i4:=(IsInts.of_own o4).below b5 (Nat.le_refl _)
  have i5:=IsInts.of_own o5
  clear o4 o5 b4 b5 HT1 HT2
  obtain ⟨A,c,rfl,hxc,hxcm,hA⟩:=i4
  obtain ⟨B,d,rfl,hyc,hycm,hB⟩:=i5
  rcases Nat.lt_trichotomy x.length y.length with hlen | hlen | hlen
  · have hres:r = -1:=by rw [← HR.out]; exact cmp3_lt (by have:=HL1.out hlen; omega)
    subst hres
    clear hA hB
    go_wp2
    go_ret
    exact ⟨rfl,B5.out⟩
  · have HLEN:=Lib.hid hlen
    have HE:=Lib.hid (HLL.out hlen)
    have hle1:x.length ≤ y.length:=by omega
    have hle2:y.length ≤ x.length:=by omega
    clear hlen
    by_cases h0:0 < x.length
    · obtain ⟨ba,oa,rfl,hca⟩:=hA h0
      obtain ⟨bb,ob,rfl,hcb⟩:=hB (by omega)
      have HCA:=Lib.hid hca
      have HCB:=Lib.hid hcb
      clear hA hB hca hcb
      go_wp2
      go_loopw [7] (fun i wr=>∃ k n:Nat,i = .int .i64 k∧k ≤ x.length∧wr = w5.drewN n∧Aside (∀ j,j < k→x.getD j 0 = y.getD j 0)) (fun i _=>x.length - (intOf i).toNat)
      case atStart=>exact ⟨0,0,rfl,Nat.zero_le _,rfl,fun j hj=>absurd hj (by omega)⟩
      case round =>
        obtain ⟨k,n,rfl,hk,rfl,HS⟩:=hrel
        by_cases hlt:k < x.length
        · have c1:=HCA.out k hlt
          have c2:=HCB.out k (by omega)
          obtain ⟨p,hp⟩:∃ p,x.getD k 0 = p:=⟨_,rfl⟩
          obtain ⟨q,hq⟩:∃ q,y.getD k 0 = q:=⟨_,rfl⟩
          rw [hp] at c1
          rw [hq] at c2
          have HX:=Lib.hid hp
          have HY:=Lib.hid hq
          clear hp hq
          have hlt2:k < y.length:=by omega
          rcases Int.lt_trichotomy p q with hpq | hpq | hpq
          · have hres:r = -1:=by
              rw [← HR.out,← HE.out,cmpL_at hlt hlt2 HS.out (by rw [HX.out,HY.out,cmp3_lt hpq]; omega),HX.out,HY.out,cmp3_lt hpq]
            subst hres
            go_wp2
            go_quiet (fail)
            go_wp2
            go_ret
            exact ⟨rfl,⟨B5.out.os,B5.out.tape,B5.out.output,B5.out.size,B5.out.block⟩⟩
          · subst hpq
            go_wp2
            go_quiet (fail)
            go_wp2
            go_quiet (fail)
            go_wp2
            go_roundw
            case rel =>
              refine ⟨k + 1,_,by go_num,by omega,rfl,fun j hj=>?_⟩
              by_cases h:j = k
              · rw [h,HX.out,HY.out]
              · exact HS.out j (by omega)
            case measure=>simp [intOf]; omega
          · have hres:r = 1:=by
              rw [← HR.out,← HE.out,cmpL_at hlt hlt2 HS.out (by rw [HX.out,HY.out,cmp3_gt hpq]; omega),HX.out,HY.out,cmp3_gt hpq]
            subst hres
            go_wp2
            go_quiet (fail)
            go_wp2
            go_quiet (fail)
            go_wp2
            go_ret
            exact ⟨rfl,⟨B5.out.os,B5.out.tape,B5.out.output,B5.out.size,B5.out.block⟩⟩
        · obtain rfl:k = x.length:=by omega
          have hres:r = 0:=by rw [← HR.out,← HE.out]; exact cmpL_same HLEN.out HS.out
          subst hres
          go_wp2
          go_ret
          exact ⟨rfl,⟨B5.out.os,B5.out.tape,B5.out.output,B5.out.size,B5.out.block⟩⟩
    · have hz:x.length = 0:=by omega
      obtain rfl:x = []:=List.eq_nil_of_length_eq_zero hz
      obtain rfl:y = []:=List.eq_nil_of_length_eq_zero (by simp at hle2; simp [hle2])
      have hres:r = 0:=by rw [← HR.out,← HE.out]; rfl
      subst hres
      clear hA hB
      go_wp2
      refine wp_loop_rounds 1 ?_
      rw [rounds_succ]
      go_wp2
      go_ret
      exact ⟨rfl,B5.out⟩
  · have hres:r = 1:=by rw [← HR.out]; exact cmp3_gt (by have:=HL2.out hlen; omega)
    subst hres
    clear hA hB
    go_wp2
    go_ret
    exact ⟨rfl,B5.out⟩
end Go.Proofs.YteiomfgehlojeaaGreatDoor
end
section
namespace Go.Proofs.YteiomfgehlojeaaGreatDoor
open Go.RowKit
set_option maxHeartbeats 4000000 in
theorem names_any (w:World):Calls Tryz.prog 195 #[] w fun e w'=>∃ cs:Array Value,e = .returned (.slice (some ⟨w.heap.size,0,none⟩) 7 7)∧w' = w.alloc (Obj.cells cs 9)∧∀ i,i < 7→∃ s:ByteArray,cs[i]? = some (.string s)∧s.size ≠ 0∧s ≠ ByteArray.empty:=by
  go_enter Tryz.func195,Tryz.ntmps195
  go_wp2
  go_ret
  refine ⟨_,rfl,rfl,fun i hi=>?_⟩
  rcases (show i = 0∨i = 1∨i = 2∨i = 3∨i = 4∨i = 5∨i = 6 by omega) with rfl | rfl | rfl | rfl | rfl | rfl | rfl
  all_goals exact ⟨_,rfl,by decide,fun h=>absurd (congrArg ByteArray.size h) (by decide)⟩
set_option maxHeartbeats 4000000 in
theorem name_any (m:Nat) (w:World) (hm:m ≤ 6):Calls Tryz.prog 144 #[.int .i64 m] w fun e w'=>∃ s:ByteArray,e = .returned (.string s)∧s.size ≠ 0∧s ≠ ByteArray.empty∧Below w.heap.size w w':=by
  have HN:Hid (Calls Tryz.prog 195 #[] w fun e w'=>∃ s:ByteArray,e = .returned (.slice (some ⟨w.heap.size,0,none⟩) 7 7)∧s.size ≠ 0∧s ≠ ByteArray.empty∧w'.cell? ⟨w.heap.size,m,none⟩ = some (.string s)∧Below w.heap.size w w'):=by
    refine (names_any w).mono ?_
    rintro e w' ⟨cs,rfl,rfl,hel⟩
    obtain ⟨s,h1,h2,h3⟩:=hel m (by omega)
    refine ⟨s,rfl,h2,h3,?_,(Below.refl w.heap.size w).alloc (Nat.le_refl _) _⟩
    rw [cell_of_row _ w.heap.size m cs _ _ (heap_alloc_new w _)]; exact h1
  have hg1:decide ((m:Int) < 0) = false:=decide_eq_false (by omega)
  have hg2:decide ((6:Int) < (m:Int)) = false:=decide_eq_false (by omega)
  go_enter Tryz.func144,Tryz.ntmps144
  go_wp2_with (go_at_call 195; refine HN.out.mono ?_; rintro e w' ⟨s,rfl,h2,h3,hcell,hb⟩)
  go_ret
  exact ⟨s,rfl,h2,h3,hb⟩
end Go.Proofs.YteiomfgehlojeaaGreatDoor
end
section
namespace Go.Proofs.YteiomfgehlojeaaGreatDoor
open Go.RowKit
set_option maxHeartbeats 4000000 in
theorem roundTo_any (v:Value) (d:Dc) (K m:Nat) (w:World) (ha:IsInts w v d.l) (da:Dg d.l) (hl:d.l.length ≤ 40) (hs:d.s ≤ 40) (hK:K ≤ 40) (hm:m ≤ 6) (hge:(trimD d).s ≤ K) :
    Calls Tryz.prog 474 #[dv v d, .int .i64 K, .int .i64 m] w fun e w'=>∃ sl,e = .returned (.tuple #[dv sl (alignD d K), .int .i64 0])∧IsInts w' sl (alignD d K).l∧From w.heap.size sl∧Below w.heap.size w w':=by
  obtain ⟨W2,hW2,hsz2,z1,z2,hB2⟩:=boxes2 w (.bool d.neg) v (.int .i64 d.s) (.bool false) (.slice none 0 0) (.int .i64 0)
  have HM:=Lib.hid (decMay_any v d W2 (ha.below hB2 (Nat.le_refl _)) da (by omega))
  have HN:=Lib.hid (fun W=>name_any m W hm)
  have HA:=Lib.hid (fun W (hB:Below W2.heap.size W2 W)=>decAlign_any v d K W ((ha.below hB2 (Nat.le_refl _)).below hB (Nat.le_refl _)) da hl hs hK hge)
  obtain ⟨t,ht⟩:∃ t,alignD d K = t:=⟨_,rfl⟩
  rw [ht] at HA ⊢
  have hg1:decide ((K:Int) < 0) = false:=decide_eq_false (by omega)
  have hg2:decide ((1000:Int) < (K:Int)) = false:=decide_eq_false (by omega)
  have HW2:=Lib.hid hW2
  have HZ:=Lib.hid (fun W (hB:Below W2.heap.size W2 W)=>(z1.below hB (by omega)).bx)
  have Z2:=Lib.hid (fun W (hB:Below W2.heap.size W2 W)=>z2.below hB (by omega))
  have HB2:=Lib.hid hB2
  have q0:=z1.c0
  have q1:=z1.c1
  have q2:=z1.c2
  obtain ⟨na,l,s⟩:=d
  obtain ⟨tn,tl',ts'⟩:=t
  simp only [dv] at *
  clear hW2 z1 z2 hB2 ha da ht hge
  go_enter Tryz.func474,Tryz.ntmps474
  go_wp2_with fail
  rw [HW2.out]
  go_wp2_with fail
  refine HM.out.mono ?_
  rintro e w3 ⟨rfl,b3⟩
  clear q0 q1 q2
  go_wp2_with fail
  refine (HN.out w3).mono ?_
  rintro e w4 ⟨str,rfl,hs1,hs2,b4'⟩
  have b4:=b3.trans (b4'.mono b3.size)
  have Z:=HZ.out _ b4
  have c0:=Z.c0
  have c1:=Z.c1
  have c2:=Z.c2
  have hz1:str.toList.isEmpty = false:=by
    rw [ByteArray.toList_eq]
    cases h:str.data.toList with
    | nil=>exact absurd (show str.data.size = 0 by rw [← Array.length_toList,h]; rfl) hs1
    | cons a r=>rfl
  have hz2:(str.toList == []) = false:=by
    cases h:str.toList with
    | nil=>rw [h] at hz1; cases hz1
    | cons a r=>rfl
  clear Z b3 b4'
  go_wp2_with fail
  refine (HA.out _ b4).mono ?_
  rintro e w5 ⟨v5,rfl,i5,f5,b5'⟩
  obtain ⟨A5,c5,rfl⟩:=i5.form
  have b5:=b4.trans (b5'.mono b4.size)
  have hs5:=b5.size
  have hs4:=b4.size
  have Z8:=(Z2.out _ b5)
  have Z9:=Z8.keep (w':=w5.alloc (Obj.cells #[.bool tn, .slice A5 tl'.length c5, .int .i64 ts'] 73)) (heap_alloc_old _ _ Z8.lt)
  have e0:=Z9.c0
  have e1:=Z9.c1
  have e2:=Z9.c2
  have ef:=Z9.fz
  clear c0 c1 c2 b5'
  go_wp2_with fail
  refine bodyPost_ret_by (results_cell_two (by rfl) _ _ (w.heap.size + 1) _ _ _ _ _ rfl rfl (Z9.setAll _ _ _) Tryz.underlying73 rfl (by kernel_rfl)) rfl ?_
  have hb:=(HB2.out.trans (b5.mono (by omega))).alloc (by omega) (Obj.cells #[.bool tn, .slice A5 tl'.length c5, .int .i64 ts'] 73)
  refine ⟨.slice A5 tl'.length c5,rfl,?_,fun j hj=>?_,Below.set3 hb (by omega) _ _ _⟩
  · exact (i5.alloc _).set3 f5 (by omega) _ _ _
  · have:=f5 j hj
    omega
end Go.Proofs.YteiomfgehlojeaaGreatDoor
end
section
namespace Go.Proofs.YteiomfgehlojeaaGreatDoor
open Go.RowKit
theorem boxes4 (w:World) (a b c a' b' c' a2 b2 c2 x y z:Value):∃ W2,(((w.alloc (Obj.cells #[a,b,c] 73)).alloc (Obj.cells #[a',b',c'] 73)).alloc (Obj.cells #[a2,b2,c2] 73)).alloc (Obj.cells #[x,y,z] 73) = W2∧W2.heap.size = w.heap.size + 4 ∧
    Blk3 W2 w.heap.size a b c∧Blk3 W2 (w.heap.size + 1) a' b' c'∧Blk3 W2 (w.heap.size + 2) a2 b2 c2∧Blk3 W2 (w.heap.size + 3) x y z∧Below w.heap.size w W2:=by
  obtain ⟨W1,h1,s1,k1,k2,k3,kb⟩:=boxes3 w a b c a' b' c' a2 b2 c2
  refine ⟨_,rfl,by simp,?_,?_,?_,?_,?_⟩
  · rw [h1]; exact k1.keep (heap_alloc_old _ _ (by omega))
  · rw [h1]; exact k2.keep (heap_alloc_old _ _ (by omega))
  · rw [h1]; exact k3.keep (heap_alloc_old _ _ (by omega))
  · rw [h1]; have:=Blk3.new W1 x y z; rw [s1] at this; exact this
  · rw [h1]; exact kb.alloc (by omega) _
def clampD (d lo hi:Dc):Dc:=if cmpD (trimD d) (trimD lo) < 0 then trimD lo else if 0 < cmpD (trimD d) (trimD hi) then trimD hi else trimD d
set_option maxHeartbeats 8000000 in
theorem clamp_any (v v1 v2:Value) (d lo hi:Dc) (w:World) (ha:IsInts w v d.l) (hb:IsInts w v1 lo.l) (hc:IsInts w v2 hi.l) (da:Dg d.l) (db:Dg lo.l) (dc:Dg hi.l)
    (la:d.l.length ≤ 40) (lb:lo.l.length ≤ 40) (lc:hi.l.length ≤ 40) (sa:d.s ≤ 40) (sb:lo.s ≤ 40) (sc:hi.s ≤ 40) (hlh:¬ 0 < cmpD (trimD lo) (trimD hi)) :
    Calls Tryz.prog 475 #[dv v d,dv v1 lo,dv v2 hi] w fun e w'=>∃ sl,e = .returned (.tuple #[dv sl (clampD d lo hi), .int .i64 0])∧IsInts w' sl (clampD d lo hi).l∧From w.heap.size sl∧Below w.heap.size w w':=by
  obtain ⟨W2,hW2,hsz2,z1,z2,z3,z4,hB2⟩:=boxes4 w (.bool d.neg) v (.int .i64 d.s) (.bool lo.neg) v1 (.int .i64 lo.s) (.bool hi.neg) v2 (.int .i64 hi.s) (.bool false) (.slice none 0 0) (.int .i64 0)
  have HA:=fun W (hB:Below W2.heap.size W2 W)=>(ha.below hB2 (Nat.le_refl _)).below hB (Nat.le_refl _)
  have HB:=fun W (hB:Below W2.heap.size W2 W)=>(hb.below hB2 (Nat.le_refl _)).below hB (Nat.le_refl _)
  have HC:=fun W (hB:Below W2.heap.size W2 W)=>(hc.below hB2 (Nat.le_refl _)).below hB (Nat.le_refl _)
  have M1:=Lib.hid (fun W (hB:Below W2.heap.size W2 W)=>decMay_any v d W (HA W hB) da (by omega))
  have M2:=Lib.hid (fun W (hB:Below W2.heap.size W2 W)=>decMay_any v1 lo W (HB W hB) db (by omega))
  have M3:=Lib.hid (fun W (hB:Below W2.heap.size W2 W)=>decMay_any v2 hi W (HC W hB) dc (by omega))
  have K1:=fun W (hB:Below W2.heap.size W2 W)=>decCompare_any v1 v2 lo hi W (HB W hB) (HC W hB) db dc lb lc sb sc
  have K2:=fun W (hB:Below W2.heap.size W2 W)=>decCompare_any v v1 d lo W (HA W hB) (HB W hB) da db la lb sa sb
  have K3:=fun W (hB:Below W2.heap.size W2 W)=>decCompare_any v v2 d hi W (HA W hB) (HC W hB) da dc la lc sa sc
  have T1:=fun W (hB:Below W2.heap.size W2 W)=>decTrim_any v d W (HA W hB) (by omega) (by omega)
  have T2:=fun W (hB:Below W2.heap.size W2 W)=>decTrim_any v1 lo W (HB W hB) (by omega) (by omega)
  have T3:=fun W (hB:Below W2.heap.size W2 W)=>decTrim_any v2 hi W (HC W hB) (by omega) (by omega)
  have hres:(cmpD (trimD d) (trimD lo) < 0∧clampD d lo hi = trimD lo)∨(¬ cmpD (trimD d) (trimD lo) < 0∧0 < cmpD (trimD d) (trimD hi)∧clampD d lo hi = trimD hi)∨(¬ cmpD (trimD d) (trimD lo) < 0∧¬ 0 < cmpD (trimD d) (trimD hi)∧clampD d lo hi = trimD d):=by
    unfold clampD
    by_cases h1:cmpD (trimD d) (trimD lo) < 0
    · exact .inl ⟨h1,if_pos h1⟩
    · by_cases h2:0 < cmpD (trimD d) (trimD hi)
      · exact .inr (.inl ⟨h1,h2,by rw [if_neg h1,if_pos h2]⟩)
      · exact .inr (.inr ⟨h1,h2,by rw [if_neg h1,if_neg h2]⟩)
  obtain ⟨r1,hr1⟩:∃ r,cmpD (trimD lo) (trimD hi) = r:=⟨_,rfl⟩
  obtain ⟨r2,hr2⟩:∃ r,cmpD (trimD d) (trimD lo) = r:=⟨_,rfl⟩
  obtain ⟨r3,hr3⟩:∃ r,cmpD (trimD d) (trimD hi) = r:=⟨_,rfl⟩
  rw [hr1] at hlh
  simp only [hr1] at K1
  simp only [hr2] at K2 hres
  simp only [hr3] at K3 hres
  obtain ⟨td,htd⟩:∃ t,clampD d lo hi = t:=⟨_,rfl⟩
  rw [htd] at hres ⊢
  obtain ⟨t1,ht1⟩:∃ t,trimD d = t:=⟨_,rfl⟩
  obtain ⟨t2,ht2⟩:∃ t,trimD lo = t:=⟨_,rfl⟩
  obtain ⟨t3,ht3⟩:∃ t,trimD hi = t:=⟨_,rfl⟩
  simp only [ht1] at T1 hres
  simp only [ht2] at T2 hres
  simp only [ht3] at T3 hres
  have HK1:=Lib.hid K1
  have HK2:=Lib.hid K2
  have HK3:=Lib.hid K3
  have HT1:=Lib.hid T1
  have HT2:=Lib.hid T2
  have HT3:=Lib.hid T3
  have HW2:=Lib.hid hW2
  have HZ:=Lib.hid (fun W (hB:Below W2.heap.size W2 W)=>And.intro (z1.below hB (by omega)).bx (And.intro (z2.below hB (by omega)).bx (z3.below hB (by omega)).bx))
  have Z4:=Lib.hid (fun W (hB:Below W2.heap.size W2 W)=>z4.below hB (by omega))
  have HB2:=Lib.hid hB2
  have B0:Below W2.heap.size W2 W2:=Below.refl _ _
  have hd1:decide (0 < r1) = false:=decide_eq_false hlh
  clear K1 K2 K3 T1 T2 T3 HA HB HC ha hb hc da db dc hW2 z1 z2 z3 z4 hB2 hr1 hr2 hr3 htd ht1 ht2 ht3
  obtain ⟨n1,l1,s1⟩:=d
  obtain ⟨n2,l2,s2⟩:=lo
  obtain ⟨n3,l3,s3⟩:=hi
  simp only [dv] at *
  have Z:=HZ.out _ B0
  have c0:=Z.1.c0
  have c1:=Z.1.c1
  have c2:=Z.1.c2
  have c3:=Z.2.1.c0
  have c4:=Z.2.1.c1
  have c5:=Z.2.1.c2
  have c6:=Z.2.2.c0
  have c7:=Z.2.2.c1
  have c8:=Z.2.2.c2
  clear Z
  go_enter Tryz.func475,Tryz.ntmps475
  go_wp2_with fail
  rw [HW2.out]
  go_wp2_with fail
  refine (M1.out _ B0).mono ?_
  rintro e w3 ⟨rfl,b3'⟩
  have b3:=B0.trans (b3'.mono B0.size)
  have Z:=HZ.out _ b3
  have d0:=Z.1.c0
  have d1:=Z.1.c1
  have d2:=Z.1.c2
  have d3:=Z.2.1.c0
  have d4:=Z.2.1.c1
  have d5:=Z.2.1.c2
  have d6:=Z.2.2.c0
  have d7:=Z.2.2.c1
  have d8:=Z.2.2.c2
  clear Z
  clear c0 c1 c2 c3 c4 c5 c6 c7 c8 b3'
  go_wp2_with fail
  refine (M2.out _ b3).mono ?_
  rintro e w4 ⟨rfl,b4'⟩
  have b4:=b3.trans (b4'.mono b3.size)
  have Z:=HZ.out _ b4
  have c0:=Z.1.c0
  have c1:=Z.1.c1
  have c2:=Z.1.c2
  have c3:=Z.2.1.c0
  have c4:=Z.2.1.c1
  have c5:=Z.2.1.c2
  have c6:=Z.2.2.c0
  have c7:=Z.2.2.c1
  have c8:=Z.2.2.c2
  clear Z
  clear d0 d1 d2 d3 d4 d5 d6 d7 d8 b4'
  go_wp2_with fail
  refine (M3.out _ b4).mono ?_
  rintro e w5 ⟨rfl,b5'⟩
  have b5:=b4.trans (b5'.mono b4.size)
  have Z:=HZ.out _ b5
  have d0:=Z.1.c0
  have d1:=Z.1.c1
  have d2:=Z.1.c2
  have d3:=Z.2.1.c0
  have d4:=Z.2.1.c1
  have d5:=Z.2.1.c2
  have d6:=Z.2.2.c0
  have d7:=Z.2.2.c1
  have d8:=Z.2.2.c2
  clear Z
  clear c0 c1 c2 c3 c4 c5 c6 c7 c8 b5'
  go_wp2_with fail
  refine (HK1.out _ b5).mono ?_
  rintro e w6 ⟨rfl,b6'⟩
  have b6:=b5.trans (b6'.mono b5.size)
  have Z:=HZ.out _ b6
  have c0:=Z.1.c0
  have c1:=Z.1.c1
  have c2:=Z.1.c2
  have c3:=Z.2.1.c0
  have c4:=Z.2.1.c1
  have c5:=Z.2.1.c2
  have c6:=Z.2.2.c0
  have c7:=Z.2.2.c1
  have c8:=Z.2.2.c2
  clear Z
  clear d0 d1 d2 d3 d4 d5 d6 d7 d8 b6'
  go_wp2_with fail
  refine (HK2.out _ b6).mono ?_
  rintro e w7 ⟨rfl,b7'⟩
  have b7:=b6.trans (b7'.mono b6.size)
  have Z:=HZ.out _ b7
  have d0:=Z.1.c0
  have d1:=Z.1.c1
  have d2:=Z.1.c2
  have d3:=Z.2.1.c0
  have d4:=Z.2.1.c1
  have d5:=Z.2.1.c2
  have d6:=Z.2.2.c0
  have d7:=Z.2.2.c1
  have d8:=Z.2.2.c2
  clear Z
  clear c0 c1 c2 c3 c4 c5 c6 c7 c8 b7'
  rcases hres with ⟨h1,rfl⟩ | ⟨h1,h2,rfl⟩ | ⟨h1,h2,rfl⟩
  · have hd2:=decide_eq_true h1
    go_wp2_with fail
    refine (HT2.out _ b7).mono ?_
    rintro e w8 ⟨v8,rfl,i8,f8,bz'⟩
    obtain ⟨A8,c8,rfl⟩:=i8.form
    have bz:=b7.trans (bz'.mono b7.size)
    have hs7:=b7.size
    have Z8:=Z4.out _ bz
    have e0:=Z8.c0
    have e1:=Z8.c1
    have e2:=Z8.c2
    have ef:=Z8.fz
    go_wp2
    refine bodyPost_ret_by (results_cell_two (by rfl) _ _ (w.heap.size + 3) _ _ _ _ _ rfl rfl (Z8.setAll _ _ _) Tryz.underlying73 rfl (by kernel_rfl)) rfl ?_
    refine ⟨.slice A8 td.l.length c8,rfl,?_,fun q hq=>?_,Below.set3 (HB2.out.trans (bz.mono (by omega))) (by omega) _ _ _⟩
    · exact i8.set3 f8 (by omega) _ _ _
    · have:=f8 q hq
      omega
  · have hd2:decide (r2 < 0) = false:=decide_eq_false (by omega)
    have hd3:=decide_eq_true h2
    go_wp2_with fail
    refine (HK3.out _ b7).mono ?_
    rintro e w8 ⟨rfl,b8'⟩
    have b8:=b7.trans (b8'.mono b7.size)
    have Z:=HZ.out _ b8
    have c0:=Z.1.c0
    have c1:=Z.1.c1
    have c2:=Z.1.c2
    have c3:=Z.2.1.c0
    have c4:=Z.2.1.c1
    have c5:=Z.2.1.c2
    have c6:=Z.2.2.c0
    have c7:=Z.2.2.c1
    have c8:=Z.2.2.c2
    clear Z
    clear d0 d1 d2 d3 d4 d5 d6 d7 d8 b8'
    go_wp2_with fail
    refine (HT3.out _ b8).mono ?_
    rintro e w9 ⟨v8,rfl,i8,f8,bz'⟩
    obtain ⟨A8,c8,rfl⟩:=i8.form
    have bz:=b8.trans (bz'.mono b8.size)
    have hs7:=b8.size
    have Z8:=Z4.out _ bz
    have e0:=Z8.c0
    have e1:=Z8.c1
    have e2:=Z8.c2
    have ef:=Z8.fz
    go_wp2
    refine bodyPost_ret_by (results_cell_two (by rfl) _ _ (w.heap.size + 3) _ _ _ _ _ rfl rfl (Z8.setAll _ _ _) Tryz.underlying73 rfl (by kernel_rfl)) rfl ?_
    refine ⟨.slice A8 td.l.length c8,rfl,?_,fun q hq=>?_,Below.set3 (HB2.out.trans (bz.mono (by omega))) (by omega) _ _ _⟩
    · exact i8.set3 f8 (by omega) _ _ _
    · have:=f8 q hq
      omega
  · have hd2:decide (r2 < 0) = false:=decide_eq_false (by omega)
    have hd3:decide (0 < r3) = false:=decide_eq_false (by omega)
    go_wp2_with fail
    refine (HK3.out _ b7).mono ?_
    rintro e w8 ⟨rfl,b8'⟩
    have b8:=b7.trans (b8'.mono b7.size)
    have Z:=HZ.out _ b8
    have c0:=Z.1.c0
    have c1:=Z.1.c1
    have c2:=Z.1.c2
    have c3:=Z.2.1.c0
    have c4:=Z.2.1.c1
    have c5:=Z.2.1.c2
    have c6:=Z.2.2.c0
    have c7:=Z.2.2.c1
    have c8:=Z.2.2.c2
    clear Z
    clear d0 d1 d2 d3 d4 d5 d6 d7 d8 b8'
    go_wp2_with fail
    refine (HT1.out _ b8).mono ?_
    rintro e w9 ⟨v8,rfl,i8,f8,bz'⟩
    obtain ⟨A8,c8,rfl⟩:=i8.form
    have bz:=b8.trans (bz'.mono b8.size)
    have hs7:=b8.size
    have Z8:=Z4.out _ bz
    have e0:=Z8.c0
    have e1:=Z8.c1
    have e2:=Z8.c2
    have ef:=Z8.fz
    go_wp2
    refine bodyPost_ret_by (results_cell_two (by rfl) _ _ (w.heap.size + 3) _ _ _ _ _ rfl rfl (Z8.setAll _ _ _) Tryz.underlying73 rfl (by kernel_rfl)) rfl ?_
    refine ⟨.slice A8 td.l.length c8,rfl,?_,fun q hq=>?_,Below.set3 (HB2.out.trans (bz.mono (by omega))) (by omega) _ _ _⟩
    · exact i8.set3 f8 (by omega) _ _ _
    · have:=f8 q hq
      omega
end Go.Proofs.YteiomfgehlojeaaGreatDoor
end
section
namespace Go.Proofs.YteiomfgehlojeaaGreatDoor
open Go.RowKit
structure Rl where
  lo:Dc
  hi:Dc
  st:Dc
  vlo:Value
  vhi:Value
  vst:Value
  sg:Bool
  ic:Nat
  fc:Nat
  sc:Nat
  mi:Nat
  mf:Nat
  mo:Nat
  hy:Nat
def Rl.cells (R:Rl):Array Value:=#[.bool R.lo.neg,R.vlo, .int .i64 R.lo.s, .bool R.hi.neg,R.vhi, .int .i64 R.hi.s, .bool R.st.neg,R.vst, .int .i64 R.st.s, .bool R.sg,
  .int .i64 R.ic, .int .i64 R.fc, .int .i64 R.sc, .int .i64 R.mi, .int .i64 R.mf, .int .i64 R.mo, .int .i64 R.hy]
structure RlOK (w:World) (R:Rl):Prop where
  ilo:IsInts w R.vlo R.lo.l
  ihi:IsInts w R.vhi R.hi.l
  ist:IsInts w R.vst R.st.l
  dlo:Dg R.lo.l
  dhi:Dg R.hi.l
  dst:Dg R.st.l
  llo:R.lo.l.length ≤ 40
  lhi:R.hi.l.length ≤ 40
  lst:R.st.l.length ≤ 40
  slo:R.lo.s ≤ 40
  shi:R.hi.s ≤ 40
  sst:R.st.s ≤ 40
  hsc:R.sc ≤ 40
  hmo:R.mo ≤ 6
  hlh:¬ 0 < cmpD (trimD R.lo) (trimD R.hi)
theorem RlOK.below {w w':World} {R:Rl} (h:RlOK w R) {B:Nat} (hb:Below B w w') (hB:w.heap.size ≤ B):RlOK w' R :=
  ⟨h.ilo.below hb hB,h.ihi.below hb hB,h.ist.below hb hB,h.dlo,h.dhi,h.dst,h.llo,h.lhi,h.lst,h.slo,h.shi,h.sst,h.hsc,h.hmo,h.hlh⟩
def RBox (w:World) (g:Nat) (R:Rl):Prop:=w.heap[g]? = some (.cells R.cells 94 (0,0))
theorem RBox.below {w w':World} {g:Nat} {R:Rl} {B:Nat} (h:RBox w g R) (hb:Below B w w') (hB:g < B):RBox w' g R:=(hb.block g hB).trans h
theorem RBox.lt {w:World} {g:Nat} {R:Rl} (h:RBox w g R):g < w.heap.size:=(Array.getElem?_eq_some_iff.1 h).1
structure RB (w:World) (g:Nat) (R:Rl):Prop where
  c0:w.cell? ⟨g,0,none⟩ = some (.bool R.lo.neg)
  c1:w.cell? ⟨g,1,none⟩ = some R.vlo
  c2:w.cell? ⟨g,2,none⟩ = some (.int .i64 R.lo.s)
  c3:w.cell? ⟨g,3,none⟩ = some (.bool R.hi.neg)
  c4:w.cell? ⟨g,4,none⟩ = some R.vhi
  c5:w.cell? ⟨g,5,none⟩ = some (.int .i64 R.hi.s)
  c6:w.cell? ⟨g,6,none⟩ = some (.bool R.st.neg)
  c7:w.cell? ⟨g,7,none⟩ = some R.vst
  c8:w.cell? ⟨g,8,none⟩ = some (.int .i64 R.st.s)
  c9:w.cell? ⟨g,9,none⟩ = some (.bool R.sg)
  c10:w.cell? ⟨g,10,none⟩ = some (.int .i64 R.ic)
  c11:w.cell? ⟨g,11,none⟩ = some (.int .i64 R.fc)
  c12:w.cell? ⟨g,12,none⟩ = some (.int .i64 R.sc)
  c13:w.cell? ⟨g,13,none⟩ = some (.int .i64 R.mi)
  c14:w.cell? ⟨g,14,none⟩ = some (.int .i64 R.mf)
  c15:w.cell? ⟨g,15,none⟩ = some (.int .i64 R.mo)
  c16:w.cell? ⟨g,16,none⟩ = some (.int .i64 R.hy)
theorem RBox.rb {w:World} {g:Nat} {R:Rl} (h:RBox w g R):RB w g R:=by
  constructor <;> (rw [cell_of_row w g _ _ _ _ h]; rfl)
theorem boxesR (w:World) (R:Rl) (a b c x y z:Value):∃ W2,((w.alloc (Obj.cells R.cells 94)).alloc (Obj.cells #[a,b,c] 73)).alloc (Obj.cells #[x,y,z] 73) = W2∧W2.heap.size = w.heap.size + 3 ∧
    RBox W2 w.heap.size R∧Blk3 W2 (w.heap.size + 1) a b c∧Blk3 W2 (w.heap.size + 2) x y z∧Below w.heap.size w W2:=by
  obtain ⟨W1,h1,s1⟩:∃ W1,w.alloc (Obj.cells R.cells 94) = W1∧W1.heap.size = w.heap.size + 1:=⟨_,rfl,by simp⟩
  have k0:RBox W1 w.heap.size R:=by rw [← h1]; exact heap_alloc_new w _
  have kb:Below w.heap.size w W1:=by rw [← h1]; exact (Below.refl _ w).alloc (Nat.le_refl _) _
  obtain ⟨W3,h3,s3,k1,k2,kb2⟩:=boxes2 W1 a b c x y z
  rw [s1] at k1 k2
  refine ⟨W3,by rw [h1,h3],by omega,k0.below kb2 (by omega),k1,k2,kb.trans (kb2.mono (by omega))⟩
theorem alignD_dg {d:Dc} (h:Dg d.l) (K:Nat):Dg (alignD d K).l:=(padZ_dg (trimD_dg d h) _).trim
set_option maxHeartbeats 8000000 in
theorem cfValue_any (v:Value) (R:Rl) (d:Dc) (w:World) (hR:RlOK w R) (ha:IsInts w v d.l) (da:Dg d.l) (la:d.l.length ≤ 40) (sa:d.s ≤ 40) (hge:(trimD d).s ≤ R.sc) (hll:(alignD d R.sc).l.length ≤ 40) :
    Calls Tryz.prog 469 #[.agg R.cells,dv v d] w fun e w'=>∃ sl,e = .returned (.tuple #[dv sl (clampD (alignD d R.sc) R.lo R.hi), .int .i64 0])∧IsInts w' sl (clampD (alignD d R.sc) R.lo R.hi).l∧From w.heap.size sl∧Below w.heap.size w w':=by
  obtain ⟨W2,hW2,hsz2,zR,z1,z2,hB2⟩:=boxesR w R (.bool d.neg) v (.int .i64 d.s) (.bool false) (.slice none 0 0) (.int .i64 0)
  have HTo:=Lib.hid (roundTo_any v d R.sc R.mo W2 (ha.below hB2 (Nat.le_refl _)) da la sa hR.hsc hR.hmo hge)
  have ad:=alignD_dg da R.sc
  have has:(alignD d R.sc).s ≤ 40:=hR.hsc
  obtain ⟨t,ht⟩:∃ t,alignD d R.sc = t:=⟨_,rfl⟩
  rw [ht] at HTo ad has hll ⊢
  have hcl:=fun W X (hB:Below W2.heap.size W2 W) (i:IsInts W X t.l)=>clamp_any X R.vlo R.vhi t R.lo R.hi W i ((hR.ilo.below hB2 (Nat.le_refl _)).below hB (Nat.le_refl _)) ((hR.ihi.below hB2 (Nat.le_refl _)).below hB (Nat.le_refl _)) ad hR.dlo hR.dhi hll hR.llo hR.lhi has hR.slo hR.shi hR.hlh
  obtain ⟨td,htd⟩:∃ td,clampD t R.lo R.hi = td:=⟨_,rfl⟩
  rw [htd] at hcl ⊢
  have HC:=Lib.hid hcl
  have HW2:=Lib.hid hW2
  have HZ:=Lib.hid (fun W (hB:Below W2.heap.size W2 W)=>zR.below hB (by omega))
  have Z2:=Lib.hid (fun W (hB:Below W2.heap.size W2 W)=>z2.below hB (by omega))
  have HB2:=Lib.hid hB2
  have q0:=z1.c0
  have q1:=z1.c1
  have q2:=z1.c2
  have r12:=zR.rb.c12
  have r15:=zR.rb.c15
  have B0:Below W2.heap.size W2 W2:=Below.refl _ _
  obtain ⟨lo,hi,st,vlo,vhi,vst,sg,ic,fc,sc,mi,mf,mo,hy⟩:=R
  obtain ⟨na,l,s⟩:=d
  obtain ⟨tn,tl,ts⟩:=t
  simp only [Rl.cells,dv] at *
  clear hW2 zR z1 z2 hB2 hR ha da hge ht htd hcl
  go_enter Tryz.func469,Tryz.ntmps469
  go_wp2_with fail
  rw [HW2.out]
  go_wp2_with fail
  refine HTo.out.mono ?_
  rintro e w3 ⟨v3,rfl,i3,f3,b3⟩
  obtain ⟨A3,c3,rfl⟩:=i3.form
  have hs3:=b3.size
  obtain ⟨W5,hW5,k5,i5,B5,S5⟩:∃ W5,w3.alloc (Obj.cells #[.bool tn, .slice A3 tl.length c3, .int .i64 ts] 73) = W5∧Blk3 W5 w3.heap.size (.bool tn) (.slice A3 tl.length c3) (.int .i64 ts) ∧
      IsInts W5 (.slice A3 tl.length c3) tl∧Below W2.heap.size W2 W5∧W5.heap.size = w3.heap.size + 1 :=
    ⟨_,rfl,Blk3.new _ _ _ _,i3.alloc _,b3.alloc hs3 _,by simp⟩
  have p0:=k5.c0
  have p1:=k5.c1
  have p2:=k5.c2
  have Z:=(HZ.out _ B5).rb
  have r0:=Z.c0
  have r1:=Z.c1
  have r2:=Z.c2
  have r3:=Z.c3
  have r4:=Z.c4
  have r5:=Z.c5
  clear q0 q1 q2 r12 r15 i3 f3 b3 Z
  go_wp2_with fail
  refine (HC.out W5 _ B5 i5).mono ?_
  rintro e w8 ⟨v8,rfl,i8,f8,b8'⟩
  obtain ⟨A8,c8,rfl⟩:=i8.form
  have b8:=B5.trans (b8'.mono B5.size)
  have Z8:=Z2.out _ b8
  have e0:=Z8.c0
  have e1:=Z8.c1
  have e2:=Z8.c2
  have ef:=Z8.fz
  clear p0 p1 p2 r0 r1 r2 r3 r4 r5
  go_wp2
  refine bodyPost_ret_by (results_cell_two (by rfl) _ _ (w.heap.size + 2) _ _ _ _ _ rfl rfl (Z8.setAll _ _ _) Tryz.underlying73 rfl (by kernel_rfl)) rfl ?_
  refine ⟨.slice A8 td.l.length c8,rfl,?_,fun q hq=>?_,Below.set3 (HB2.out.trans (b8.mono (by omega))) (by omega) _ _ _⟩
  · exact i8.set3 f8 (by omega) _ _ _
  · have:=f8 q hq
    omega
end Go.Proofs.YteiomfgehlojeaaGreatDoor
end
section
namespace Go.Proofs.YteiomfgehlojeaaGreatDoor
open Go.RowKit
def addD (a b:Dc):Dc :=
  if a.neg = b.neg then trimD ⟨a.neg,digs (num (padZ a.l (max a.s b.s - a.s)) + num (padZ b.l (max a.s b.s - b.s))),max a.s b.s⟩
  else if num (padZ a.l (max a.s b.s - a.s)) < num (padZ b.l (max a.s b.s - b.s)) then trimD ⟨b.neg,digs (num (padZ b.l (max a.s b.s - b.s)) - num (padZ a.l (max a.s b.s - a.s))),max a.s b.s⟩
  else trimD ⟨a.neg,digs (num (padZ a.l (max a.s b.s - a.s)) - num (padZ b.l (max a.s b.s - b.s))),max a.s b.s⟩
def timesD (d:Dc) (n:Int):Dc:=trimD ⟨d.neg != decide (n < 0),digs (n.natAbs * num d.l),d.s⟩
theorem addD_dg (a b:Dc):Dg (addD a b).l:=by
  unfold addD
  split
  · exact trimD_dg _ (digs_dg _)
  · split <;> exact trimD_dg _ (digs_dg _)
theorem addD_s (a b:Dc):(addD a b).s ≤ max a.s b.s:=by
  unfold addD
  split
  · exact trimD_s _
  · split <;> exact trimD_s _
theorem timesD_dg (d:Dc) (n:Int):Dg (timesD d n).l:=trimD_dg _ (digs_dg _)
theorem timesD_s (d:Dc) (n:Int):(timesD d n).s ≤ d.s:=trimD_s _
theorem decAdd_any (v u:Value) (a b:Dc) (w:World) (ha:IsInts w v a.l) (hb:IsInts w u b.l) (da:Dg a.l) (db:Dg b.l) (la:a.l.length ≤ 40) (lb:b.l.length ≤ 40) (sa:a.s ≤ 40) (sb:b.s ≤ 40) :
    Calls Tryz.prog 468 #[dv v a,dv u b] w fun e w'=>∃ sl,e = .returned (.tuple #[dv sl (addD a b), .int .i64 0])∧IsInts w' sl (addD a b).l∧From w.heap.size sl∧Below w.heap.size w w':=by
  unfold addD
  split
  · next h=>exact decAdd_same v u a b w ha hb da db la lb sa sb h
  · next h =>
    split
    · next h2=>exact decAdd_less v u a b w ha hb da db la lb sa sb h h2
    · next h2=>exact decAdd_more v u a b w ha hb da db la lb sa sb h (by omega)
set_option maxHeartbeats 8000000 in
theorem cfMove_any (v:Value) (R:Rl) (d:Dc) (n:Int) (w:World) (hR:RlOK w R) (ha:IsInts w v d.l) (da:Dg d.l) (la:d.l.length ≤ 40) (sa:d.s ≤ 40) (hn:n.natAbs ≤ 1000)
    (hfl:(timesD R.st n).l.length ≤ 40) (hxl:(addD d (timesD R.st n)).l.length ≤ 40) (hge:(trimD (addD d (timesD R.st n))).s ≤ R.sc) (hll:(alignD (addD d (timesD R.st n)) R.sc).l.length ≤ 40) :
    Calls Tryz.prog 465 #[.agg R.cells,dv v d, .int .i64 n] w fun e w'=>∃ sl,e = .returned (.tuple #[dv sl (clampD (alignD (addD d (timesD R.st n)) R.sc) R.lo R.hi), .int .i64 0]) ∧
      IsInts w' sl (clampD (alignD (addD d (timesD R.st n)) R.sc) R.lo R.hi).l∧From w.heap.size sl∧Below w.heap.size w w':=by
  obtain ⟨W2,hW2,hsz2,zR,z1,z2,hB2⟩:=boxesR w R (.bool d.neg) v (.int .i64 d.s) (.bool false) (.slice none 0 0) (.int .i64 0)
  have R2:=hR.below hB2 (Nat.le_refl _)
  have HM:=Lib.hid (decMay_any v d W2 (ha.below hB2 (Nat.le_refl _)) da (by omega))
  have ht:=fun W (hB:Below W2.heap.size W2 W)=>decTimes_any R.vst R.st n W (R2.ist.below hB (Nat.le_refl _)) hR.dst (by have:=hR.lst; omega) (by have:=hR.sst; omega) hn
  have td:=timesD_dg R.st n
  have ts:=timesD_s R.st n
  have hs40:=hR.sst
  change ∀ W (hB:Below W2.heap.size W2 W),Calls Tryz.prog 467 #[dv R.vst R.st, .int .i64 n] W fun e w'=>∃ sl,e = .returned (.tuple #[dv sl (timesD R.st n), .int .i64 0])∧IsInts w' sl (timesD R.st n).l∧From W.heap.size sl∧Below W.heap.size W w' at ht
  obtain ⟨f,hf⟩:∃ f,timesD R.st n = f:=⟨_,rfl⟩
  rw [hf] at ht td ts hfl hxl hge hll ⊢
  have hadd:=fun W X (hB:Below W2.heap.size W2 W) (i:IsInts W X f.l)=>decAdd_any v X d f W ((ha.below hB2 (Nat.le_refl _)).below hB (Nat.le_refl _)) i da td la hfl sa (by omega)
  have xd:=addD_dg d f
  have xs:=addD_s d f
  have xs40:(addD d f).s ≤ 40:=by omega
  obtain ⟨x,hx⟩:∃ x,addD d f = x:=⟨_,rfl⟩
  simp only [hx] at hadd xd xs40 hxl hge hll ⊢
  have hval:=fun W X (hB:Below W2.heap.size W2 W) (i:IsInts W X x.l)=>cfValue_any X R x W (R2.below hB (Nat.le_refl _)) i xd hxl xs40 hge hll
  obtain ⟨y,hy⟩:∃ y,clampD (alignD x R.sc) R.lo R.hi = y:=⟨_,rfl⟩
  rw [hy] at hval ⊢
  have HT:=Lib.hid ht
  have HA:=Lib.hid hadd
  have HV:=Lib.hid hval
  have HW2:=Lib.hid hW2
  have HZ:=Lib.hid (fun W (hB:Below W2.heap.size W2 W)=>And.intro (zR.below hB (by omega)) (z1.below hB (by omega)))
  have Z2:=Lib.hid (fun W (hB:Below W2.heap.size W2 W)=>z2.below hB (by omega))
  have HB2:=Lib.hid hB2
  have q0:=z1.c0
  have q1:=z1.c1
  have q2:=z1.c2
  obtain ⟨lo,hi,st,vlo,vhi,vst,sg,ic,fc,sc,mi,mf,mo,hy'⟩:=R
  obtain ⟨na,l,s⟩:=d
  obtain ⟨fn,fl,fs⟩:=f
  obtain ⟨xn,xl,xs'⟩:=x
  simp only [Rl.cells,dv] at *
  clear hW2 zR z1 z2 hB2 hR R2 ha da hge hx hy ht hadd hval hf td ts xd xs hs40 xs40
  go_enter Tryz.func465,Tryz.ntmps465
  go_wp2_with fail
  rw [HW2.out]
  go_wp2_with fail
  refine HM.out.mono ?_
  rintro e w3 ⟨rfl,b3⟩
  have Z:=(HZ.out _ b3).1.rb
  have r6:=Z.c6
  have r7:=Z.c7
  have r8:=Z.c8
  clear q0 q1 q2 Z
  go_wp2_with fail
  refine (HT.out _ b3).mono ?_
  rintro e w4 ⟨v4,rfl,i4,f4,b4'⟩
  obtain ⟨A4,c4,rfl⟩:=i4.form
  have b4:=b3.trans (b4'.mono b3.size)
  have hs4:=b4.size
  obtain ⟨W5,hW5,k5,i5,B5,S5⟩:∃ W5,w4.alloc (Obj.cells #[.bool fn, .slice A4 fl.length c4, .int .i64 fs] 73) = W5∧Blk3 W5 w4.heap.size (.bool fn) (.slice A4 fl.length c4) (.int .i64 fs) ∧
      IsInts W5 (.slice A4 fl.length c4) fl∧Below W2.heap.size W2 W5∧W5.heap.size = w4.heap.size + 1 :=
    ⟨_,rfl,Blk3.new _ _ _ _,i4.alloc _,b4.alloc hs4 _,by simp⟩
  have p0:=k5.c0
  have p1:=k5.c1
  have p2:=k5.c2
  have Z:=(HZ.out _ B5).2.bx
  have q0:=Z.c0
  have q1:=Z.c1
  have q2:=Z.c2
  clear r6 r7 r8 i4 f4 b4' b4 Z k5
  go_wp2_with fail
  refine (HA.out W5 _ B5 i5).mono ?_
  rintro e w6 ⟨v6,rfl,i6,f6,b6'⟩
  obtain ⟨A6,c6,rfl⟩:=i6.form
  have b6:=B5.trans (b6'.mono B5.size)
  have hs6:=b6.size
  obtain ⟨W7,hW7,k7,i7,B7,S7⟩:∃ W7,w6.alloc (Obj.cells #[.bool xn, .slice A6 xl.length c6, .int .i64 xs'] 73) = W7∧Blk3 W7 w6.heap.size (.bool xn) (.slice A6 xl.length c6) (.int .i64 xs') ∧
      IsInts W7 (.slice A6 xl.length c6) xl∧Below W2.heap.size W2 W7∧W7.heap.size = w6.heap.size + 1 :=
    ⟨_,rfl,Blk3.new _ _ _ _,i6.alloc _,b6.alloc hs6 _,by simp⟩
  clear hW5 p0 p1 p2 q0 q1 q2
  have p0:=k7.c0
  have p1:=k7.c1
  have p2:=k7.c2
  have Z:=(HZ.out _ B7).1.rb
  obtain ⟨g0,g1,g2,g3,g4,g5,g6,g7,g8,g9,g10,g11,g12,g13,g14,g15,g16⟩:=Z
  clear i5 B5 i6 f6 b6' b6 k7
  go_wp2_with fail
  refine (HV.out W7 _ B7 i7).mono ?_
  rintro e w8 ⟨v8,rfl,i8,f8,b8'⟩
  obtain ⟨A8,c8,rfl⟩:=i8.form
  have b8:=B7.trans (b8'.mono B7.size)
  have Z8:=Z2.out _ b8
  have e0:=Z8.c0
  have e1:=Z8.c1
  have e2:=Z8.c2
  have ef:=Z8.fz
  have hs7:=B7.size
  clear p0 p1 p2 g0 g1 g2 g3 g4 g5 g6 g7 g8 g9 g10 g11 g12 g13 g14 g15 g16 hW7
  go_wp2
  refine bodyPost_ret_by (results_cell_two (by rfl) _ _ (w.heap.size + 2) _ _ _ _ _ rfl rfl (Z8.setAll _ _ _) Tryz.underlying73 rfl (by kernel_rfl)) rfl ?_
  refine ⟨.slice A8 y.l.length c8,rfl,?_,fun q hq=>?_,Below.set3 (HB2.out.trans (b8.mono (by omega))) (by omega) _ _ _⟩
  · exact i8.set3 f8 (by omega) _ _ _
  · have:=f8 q hq
    omega
end Go.Proofs.YteiomfgehlojeaaGreatDoor
end
section
namespace Go.Proofs.YteiomfgehlojeaaGreatDoor
theorem cz_zero (K:Nat):cz K 0 = ⟨false,[],0⟩:=by
  unfold cz al
  rw [show (0:Int).natAbs = 0 from rfl,digs_zero]
  exact trimD_zero _ _ _ Dg.nil num_nil
theorem atK_nonneg {K:Nat} {d:Dc} (h:d.neg = false):0 ≤ atK K d:=by
  unfold atK
  rw [h,if_neg (by simp)]
  omega
theorem atK_nonpos {K:Nat} {d:Dc} (h:d.neg = true):atK K d ≤ 0:=by
  unfold atK
  rw [h,if_pos rfl]
  omega
theorem cz_neg (K:Nat) (v:Int):(cz K v).neg = decide (v < 0):=by
  rcases Int.lt_trichotomy v 0 with h | h | h
  · cases hn:(cz K v).neg with
    | true=>simp [h]
    | false =>
      have:=atK_nonneg (K:=K) hn
      rw [atK_cz] at this
      omega
  · subst h
    rw [cz_zero]
    rfl
  · cases hn:(cz K v).neg with
    | false=>simp; omega
    | true =>
      have:=atK_nonpos (K:=K) hn
      rw [atK_cz] at this
      omega
theorem cz_num (K:Nat) (v:Int):num (cz K v).l * 10 ^ (K - (cz K v).s) = v.natAbs:=by
  have h:=atK_cz K v
  unfold atK at h
  split at h <;> omega
def Sg (d:Dc):Prop:=d.neg = true→num d.l ≠ 0
theorem cz_sg (K:Nat) (v:Int):Sg (cz K v):=by
  intro hn h0
  have h1:=cz_num K v
  rw [h0,Nat.zero_mul] at h1
  rw [cz_neg] at hn
  have:=of_decide_eq_true hn
  omega
theorem pow_pos10 (k:Nat):0 < 10 ^ k:=Nat.pow_pos (by omega)
theorem atK_pad (K n:Nat) (d:Dc) (h1:d.s ≤ n) (h2:n ≤ K):atK K d = if d.neg = true then -((num (padZ d.l (n - d.s)):Nat):Int) * ((10 ^ (K - n):Nat):Int) else ((num (padZ d.l (n - d.s)):Nat):Int) * ((10 ^ (K - n):Nat):Int):=by
  unfold atK
  rw [padZ_num,show K - d.s = (n - d.s) + (K - n) by omega,Nat.pow_add,← Nat.mul_assoc]
  split
  · push_cast
    rw [Int.neg_mul]
  · push_cast
    rfl
theorem cmp3_mul (x y:Int) (p:Nat) (hp:0 < p):cmp3 (x * (p:Int)) (y * (p:Int)) = cmp3 x y:=by
  have hp':(0:Int) < (p:Int):=by omega
  rcases Int.lt_trichotomy x y with h | h | h
  · rw [cmp3_lt h,cmp3_lt (Int.mul_lt_mul_of_pos_right h hp')]
  · subst h
    rw [cmp3_eq,cmp3_eq]
  · rw [cmp3_gt h,cmp3_gt (Int.mul_lt_mul_of_pos_right h hp')]
theorem cmp3_neg (x y:Int):cmp3 (-x) (-y) = cmp3 y x:=by
  rcases Int.lt_trichotomy x y with h | h | h
  · rw [cmp3_gt h,cmp3_gt (by omega)]
  · subst h
    rw [cmp3_eq,cmp3_eq]
  · rw [cmp3_lt h,cmp3_lt (by omega)]
theorem cmpD_at (K:Nat) (a b:Dc) (ha:Sg a) (hb:Sg b) (sa:a.s ≤ K) (sb:b.s ≤ K):cmpD a b = cmp3 (atK K a) (atK K b):=by
  have h1:=atK_pad K (max a.s b.s) a (by omega) (by omega)
  have h2:=atK_pad K (max a.s b.s) b (by omega) (by omega)
  have hp:=pow_pos10 (K - max a.s b.s)
  have e1:a.neg = true→num (padZ a.l (max a.s b.s - a.s)) ≠ 0:=fun hn h0=>by
    rw [padZ_num] at h0
    rcases Nat.mul_eq_zero.1 h0 with h | h
    · exact ha hn h
    · have:=pow_pos10 (max a.s b.s - a.s); omega
  have e2:b.neg = true→num (padZ b.l (max a.s b.s - b.s)) ≠ 0:=fun hn h0=>by
    rw [padZ_num] at h0
    rcases Nat.mul_eq_zero.1 h0 with h | h
    · exact hb hn h
    · have:=pow_pos10 (max a.s b.s - b.s); omega
  unfold cmpD
  rw [h1,h2]
  generalize num (padZ a.l (max a.s b.s - a.s)) = A at *
  generalize num (padZ b.l (max a.s b.s - b.s)) = B at *
  generalize 10 ^ (K - max a.s b.s) = p at *
  cases hna:a.neg <;> cases hnb:b.neg
  · simp only [Bool.false_eq_true,if_false,and_self]
    exact (cmp3_mul _ _ p hp).symm
  · have:=e2 hnb
    simp only [Bool.false_eq_true,if_false,if_true,false_and]
    rw [cmp3_mul _ _ p hp,cmp3_gt (by omega)]
  · have:=e1 hna
    simp only [Bool.false_eq_true,if_false,if_true,and_false]
    rw [cmp3_mul _ _ p hp,cmp3_lt (by omega)]
  · simp only [if_true,and_self]
    rw [cmp3_mul _ _ p hp,cmp3_neg]
theorem cmpD_cz (K:Nat) (a b:Int):cmpD (cz K a) (cz K b) = cmp3 a b:=by
  rw [cmpD_at K _ _ (cz_sg K a) (cz_sg K b) (cz_s K a) (cz_s K b),atK_cz,atK_cz]
theorem atK_mk (K n m:Nat) (s:Bool) (h:n ≤ K):atK K ⟨s,digs m,n⟩ = if s = true then -((m:Nat):Int) * ((10 ^ (K - n):Nat):Int) else ((m:Nat):Int) * ((10 ^ (K - n):Nat):Int):=by
  unfold atK
  dsimp only
  rw [num_digs]
  split
  · push_cast
    rw [Int.neg_mul]
  · push_cast
    rfl
theorem addD_at (K:Nat) (a b:Dc) (sa:a.s ≤ K) (sb:b.s ≤ K):addD a b = cz K (atK K a + atK K b):=by
  have h1:=atK_pad K (max a.s b.s) a (by omega) (by omega)
  have h2:=atK_pad K (max a.s b.s) b (by omega) (by omega)
  have hmk:=fun (s:Bool) (m:Nat)=>atK_mk K (max a.s b.s) m s (by omega)
  have hK:max a.s b.s ≤ K:=by omega
  unfold addD
  rw [h1,h2]
  generalize num (padZ a.l (max a.s b.s - a.s)) = A at *
  generalize num (padZ b.l (max a.s b.s - b.s)) = B at *
  generalize 10 ^ (K - max a.s b.s) = p at *
  split
  · rename_i h
    rw [trimD_eq K _ (digs_dg _) hK,hmk]
    congr 1
    rw [← h]
    split
    · push_cast; rw [← Int.add_mul,Int.neg_add]
    · push_cast; rw [Int.add_mul]
  · rename_i h
    split
    · rename_i hlt
      rw [trimD_eq K _ (digs_dg _) hK,hmk]
      congr 1
      rw [show ((B - A:Nat):Int) = (B:Int) - (A:Int) by omega]
      cases hna:a.neg <;> cases hnb:b.neg <;> simp only [hna,hnb,Bool.false_eq_true,if_true,if_false,not_true_eq_false] at h ⊢
      · rw [← Int.add_mul]; congr 1 <;> omega
      · rw [← Int.add_mul]; congr 1 <;> omega
    · rename_i hge
      rw [trimD_eq K _ (digs_dg _) hK,hmk]
      congr 1
      rw [show ((A - B:Nat):Int) = (A:Int) - (B:Int) by omega]
      cases hna:a.neg <;> cases hnb:b.neg <;> simp only [hna,hnb,Bool.false_eq_true,if_true,if_false,not_true_eq_false] at h ⊢
      · rw [← Int.add_mul]; congr 1 <;> omega
      · rw [← Int.add_mul]; congr 1 <;> omega
theorem addD_cz (K:Nat) (a b:Int):addD (cz K a) (cz K b) = cz K (a + b):=by
  rw [addD_at K _ _ (cz_s K a) (cz_s K b),atK_cz,atK_cz]
theorem timesD_cz (K:Nat) (a n:Int):timesD (cz K a) n = cz K (a * n):=by
  unfold timesD
  rw [trimD_eq K ⟨(cz K a).neg != decide (n < 0),digs (n.natAbs * num (cz K a).l),(cz K a).s⟩ (digs_dg _) (cz_s K a),atK_mk K _ _ _ (cz_s K a)]
  congr 1
  have h:=cz_num K a
  rw [cz_neg]
  have e:((n.natAbs * num (cz K a).l:Nat):Int) * ((10 ^ (K - (cz K a).s):Nat):Int) = (n.natAbs:Int) * (a.natAbs:Int):=by
    rw [← h]
    push_cast
    rw [Int.mul_assoc]
  have e2:-((n.natAbs * num (cz K a).l:Nat):Int) * ((10 ^ (K - (cz K a).s):Nat):Int) = -((n.natAbs:Int) * (a.natAbs:Int)):=by rw [Int.neg_mul,e]
  rw [e,e2]
  by_cases ha:a < 0 <;> by_cases hn:n < 0
  · rw [if_neg (by simp [ha,hn]),show (n.natAbs:Int) = -n by omega,show (a.natAbs:Int) = -a by omega,Int.neg_mul_neg,Int.mul_comm]
  · rw [if_pos (by simp [ha,hn]),show (n.natAbs:Int) = n by omega,show (a.natAbs:Int) = -a by omega,Int.mul_neg,Int.neg_neg,Int.mul_comm]
  · rw [if_pos (by simp [ha,hn]),show (n.natAbs:Int) = -n by omega,show (a.natAbs:Int) = a by omega,Int.neg_mul,Int.neg_neg,Int.mul_comm]
  · rw [if_neg (by simp [ha,hn]),show (n.natAbs:Int) = n by omega,show (a.natAbs:Int) = a by omega,Int.mul_comm]
theorem alignD_cz (K:Nat) (a:Int):alignD (cz K a) K = al K a:=by
  unfold alignD al
  rw [trim_cz,cz_neg,trim_digs (padZ_dg (cz_dg K a) _),padZ_num,cz_num]
theorem alignD_at (K:Nat) (d:Dc) (hd:Dg d.l) (hs:d.s ≤ K):alignD d K = al K (atK K d):=by
  rw [← alignD_cz K (atK K d),← trimD_eq K d hd hs]
  unfold alignD
  rw [show trimD (trimD d) = trimD d by rw [trimD_eq K d hd hs,trim_cz]]
def clampI (x lo hi:Int):Int:=if x < lo then lo else if hi < x then hi else x
theorem cmp3_neg_iff (x y:Int):cmp3 x y < 0↔x < y:=by
  unfold cmp3
  split
  · omega
  · split <;> omega
theorem cmp3_pos_iff (x y:Int):0 < cmp3 x y↔y < x:=by
  unfold cmp3
  split
  · omega
  · split <;> omega
theorem clampD_cz (K:Nat) (a lo hi:Int):clampD (al K a) (cz K lo) (cz K hi) = cz K (clampI a lo hi):=by
  unfold clampD clampI
  rw [show trimD (al K a) = cz K a from rfl,trim_cz,trim_cz,cmpD_cz,cmpD_cz]
  by_cases h1:a < lo
  · rw [if_pos ((cmp3_neg_iff _ _).2 h1),if_pos h1]
  · rw [if_neg (fun h=>h1 ((cmp3_neg_iff _ _).1 h)),if_neg h1]
    by_cases h2:hi < a
    · rw [if_pos ((cmp3_pos_iff _ _).2 h2),if_pos h2]
    · rw [if_neg (fun h=>h2 ((cmp3_pos_iff _ _).1 h)),if_neg h2]
theorem cz_len (K k:Nat) (a:Int) (h:a.natAbs < 10 ^ k):(cz K a).l.length ≤ k:=Nat.le_trans (trimD_len _) (digs_len_le h)
theorem al_len (K k:Nat) (a:Int) (h:a.natAbs < 10 ^ k):(al K a).l.length ≤ k:=digs_len_le h
end Go.Proofs.YteiomfgehlojeaaGreatDoor
end
