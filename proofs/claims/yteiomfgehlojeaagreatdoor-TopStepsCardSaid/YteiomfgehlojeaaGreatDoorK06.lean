/- The claim TopSteps, part 6 of 46: Re1, Sy0, Sy1, Sy2, Sy3, Re2, Rh1, Sy4, Rg1, Sy5, Df3, Fr0, Rh2, Sy6, Df5 -/
import Derived.Test.YteiomfgehlojeaaGreatDoorK05
import Derived.Test.YteiomfgehlojeaaGreatDoorK03
import Derived.Test.YteiomfgehlojeaaGreatDoorK02
import Derived.KernelRfl
set_option linter.unusedVariables false
set_option linter.unusedSimpArgs false
section
namespace Go.Proofs.YteiomfgehlojeaaGreatDoor
open Go.RowKit
def Bq3 (w:World) (g:Nat) (a b c:Value):Prop:=w.heap[g]? = some (.cells #[a,b,c] 26 (0,0))
section
variable {w w':World} {g:Nat} {a b c:Value}
theorem Bq3.c0 (h:Bq3 w g a b c):w.cell? ⟨g,0,none⟩ = some a:=by rw [cell_of_row w g 0 _ _ _ h]; rfl
theorem Bq3.c1 (h:Bq3 w g a b c):w.cell? ⟨g,1,none⟩ = some b:=by rw [cell_of_row w g 1 _ _ _ h]; rfl
theorem Bq3.c2 (h:Bq3 w g a b c):w.cell? ⟨g,2,none⟩ = some c:=by rw [cell_of_row w g 2 _ _ _ h]; rfl
theorem Bq3.fz (h:Bq3 w g a b c) (i:Nat):w.frozen? ⟨g,i,none⟩ = false:=frz_of_row h i
theorem Bq3.lt (h:Bq3 w g a b c):g < w.heap.size:=(Array.getElem?_eq_some_iff.1 h).1
theorem Bq3.keep (h:Bq3 w g a b c) (hk:w'.heap[g]? = w.heap[g]?):Bq3 w' g a b c:=hk.trans h
theorem Bq3.below {B:Nat} (h:Bq3 w g a b c) (hb:Below B w w') (hB:g < B):Bq3 w' g a b c:=(hb.block g hB).trans h
theorem Bq3.set0 (h:Bq3 w g a b c) (v:Value):Bq3 (w.setCell ⟨g,0,none⟩ v) g v b c:=heap_set1 w g 0 v _ _ _ h
theorem Bq3.set1 (h:Bq3 w g a b c) (v:Value):Bq3 (w.setCell ⟨g,1,none⟩ v) g a v c:=heap_set1 w g 1 v _ _ _ h
theorem Bq3.set2 (h:Bq3 w g a b c) (v:Value):Bq3 (w.setCell ⟨g,2,none⟩ v) g a b v:=heap_set1 w g 2 v _ _ _ h
theorem Bq3.setAll (h:Bq3 w g a b c) (x y z:Value):Bq3 (((w.setCell ⟨g,0,none⟩ x).setCell ⟨g,1,none⟩ y).setCell ⟨g,2,none⟩ z) g x y z:=((h.set0 _).set1 _).set2 _
theorem Bq3.far (h:Bq3 w g a b c) {p:Addr} (hp:g ≠ p.block) (v:Value):Bq3 (w.setCell p v) g a b c:=(Below.heap_setCell w p v g hp).trans h
theorem Bq3.new (w:World) (a b c:Value):Bq3 (w.alloc (.cells #[a,b,c] 26)) w.heap.size a b c:=heap_alloc_new w _
end
theorem bq2 (w:World) (a b c x y z:Value):∃ W2,(w.alloc (Obj.cells #[a,b,c] 26)).alloc (Obj.cells #[x,y,z] 26) = W2∧W2.heap.size = w.heap.size + 2 ∧
    Bq3 W2 w.heap.size a b c∧Bq3 W2 (w.heap.size + 1) x y z∧Below w.heap.size w W2:=by
  refine ⟨_,rfl,by simp,(Bq3.new w _ _ _).keep (heap_alloc_old _ _ (by simp)),?_,((Below.refl _ w).alloc (Nat.le_refl _) _).alloc (by simp) _⟩
  have:=Bq3.new (w.alloc (Obj.cells #[a,b,c] 26)) x y z
  simpa using this
theorem Bq3.bx {w:World} {g:Nat} {a b c:Value} (h:Bq3 w g a b c):Bx w g a b c:=⟨h.c0,h.c1,h.c2,h.fz⟩
theorem num_snoc0 (m:List Int):num (m ++ [0]) = 10 * num m:=by rw [num_snoc]; simp
set_option maxHeartbeats 4000000 in
theorem rdTrim_any (v:Value) (d:Dc) (w:World) (ha:IsInts w v d.l) (da:Dg d.l) (hl:d.l.length ≤ 1000000) (hs:d.s ≤ 1000) :
    Calls Tryz.prog 45 #[dv v d] w fun e w'=>∃ sl,e = .returned (dv sl (trimD d))∧IsInts w' sl (trimD d).l∧From w.heap.size sl∧Below w.heap.size w w':=by
  obtain ⟨td,htd⟩:∃ td,trimD d = td:=⟨_,rfl⟩
  rw [htd]
  obtain ⟨n,l,s⟩:=d
  simp only [dv] at *
  obtain ⟨W2,hW2,hsz2,z1,z2,hB2⟩:=bq2 w (.bool n) v (.int .i64 s) (.bool false) (.slice none 0 0) (.int .i64 0)
  have q1:=z1.c1
  have HT:=Lib.hid (rfTrim_any v l W2 (ha.below hB2 (Nat.le_refl _)) da hl)
  have HW2:=Lib.hid hW2
  have Z:=aside (And.intro z1 (And.intro z2 hB2))
  have HD:=Lib.hid htd
  have HG:=Lib.hid da.trim
  obtain ⟨tl,htl⟩:∃ tl,trimL l = tl:=⟨_,rfl⟩
  have hln:tl.length ≤ 1000000:=by rw [← htl]; exact Nat.le_trans (trimL_le l) hl
  have HNN:=Lib.hid (fun (h:tl ≠ [])=>by
    have:num tl ≠ 0:=fun h0=>h (by rw [← htl]; exact (trim_nil da).2 (by rw [← num_trim,htl]; exact h0))
    exact this)
  rw [htl] at HT HG
  have HTD:Hid (td = if (stripZ tl s).1 = [] then ⟨false,[],0⟩ else ⟨n,(stripZ tl s).1,(stripZ tl s).2⟩):=by
    show _ = _
    rw [← htd,← htl]
    rfl
  clear hW2 z1 z2 hB2 htd ha da hl htl
  go_enter Tryz.func45,Tryz.ntmps45
  go_wp2_with fail
  rw [HW2.out]
  go_wp2_with fail
  refine HT.out.mono ?_
  rintro e w4 ⟨v4,rfl,o4,b4⟩
  have hI:=Lib.hid (IsInts.of_own o4)
  have hF:=Lib.hid (own_far o4 (Nat.le_refl _))
  have y1:=Z.out.1.below b4 (by omega)
  have y2:=Lib.hid (Z.out.2.1.below b4 (by omega))
  have yB:=Lib.hid (Z.out.2.2.trans (b4.mono (by omega)))
  have p0:=y1.c0
  have p1:=y1.c1
  have p2:=y1.c2
  have r0:=y2.out.c0
  have r1:=y2.out.c1
  have r2:=y2.out.c2
  have rf:=y2.out.fz
  have hs4:=b4.size
  obtain ⟨A,c,rfl,hlc,hcm,-⟩:∃ A c,v4 = .slice A tl.length c∧tl.length ≤ c∧c ≤ 9223372036854775807∧True:=by obtain ⟨A,c,he,h0,h1,_⟩:=hI.out; exact ⟨A,c,he,h0,h1,trivial⟩
  clear q1 o4 b4 Z HT y1
  by_cases h0:tl = []
  · subst h0
    have HE:Hid (td = ⟨false,[],0⟩):=by
      show _ = _
      rw [HTD.out,stripZ_nil,if_pos rfl]
    clear HTD hI hF HG HNN
    go_wp2
    refine bodyPost_ret_by (results_cell_row (by rfl) _ _ (w.heap.size + 1) _ _ _ _ rfl (y2.out.setAll _ _ _) Tryz.underlying26 rfl (by kernel_rfl)) rfl ?_
    refine ⟨.slice none 0 0,by (rw [HE.out]; try rfl),by rw [HE.out]; exact IsInts.nil_ _ _ _ (by omega),fun q hq=>by simp [Value.ownBlock] at hq,Below.set3 yB.out (by omega) _ _ _⟩
  · have hlen0:0 < tl.length:=by rcases tl with _ | ⟨a,b⟩; exact absurd rfl h0; simp
    have H0:=Lib.hid (HNN.out h0)
    clear h0 HNN
    have hne:¬ ((tl.length:Int) = 0):=by omega
    go_wp2
    go_loop [3,4] (fun v3 v4=>∃ (kl:List Int) (k:Nat),v3 = .slice A kl.length c∧v4 = .int .i64 k∧k ≤ 1000∧kl.length ≤ 1000000∧0 < kl.length∧kl.length ≤ c∧Aside (IsInts w4 (.slice A kl.length c) kl∧stripZ kl k = stripZ tl s∧num kl ≠ 0∧Dg kl)) (fun _ v4=>(intOf v4).toNat)
    case atStart=>exact ⟨tl,s,rfl,rfl,hs,hln,hlen0,hlc,hI.out,rfl,H0.out,HG.out⟩
    case round =>
      obtain ⟨kl,k,rfl,rfl,hk,hkl,hk0,hkc,HA⟩:=hrel
      rcases List.eq_nil_or_concat kl with rfl | ⟨m,x,rfl⟩
      · simp at hk0
      · rw [List.concat_eq_append] at *
        obtain ⟨b,off,rfl,hn,hc1,hc2,hcell⟩:=HA.out.1.last
        obtain ⟨N,hN⟩:∃ N,(m ++ [x]).length = N:=⟨_,rfl⟩
        have hNm:N = m.length + 1:=by rw [← hN]; simp
        have HA2:=HA
        rw [hN] at hkl hk0 hkc ⊢
        by_cases hgo:0 < k∧x = 0
        · obtain ⟨hkp,rfl⟩:=hgo
          obtain ⟨k1,hk1⟩:∃ k',k = k' + 1:=⟨k - 1,by omega⟩
          have hw1:IntKind.i64.wrap ((N:Int) - 1) = (m.length:Int):=by rw [wrap_in _ (by omega) (by omega)]; omega
          have hw2:IntKind.i64.wrap ((k:Int) - 1) = (k1:Int):=by rw [wrap_in _ (by omega) (by omega)]; omega
          have hmx:max (m.length:Int) 0 = (m.length:Int):=by omega
          have hmN:m.length < N:=by omega
          have hmc:m.length ≤ c:=by omega
          have hm0:Hid (0 < m.length∧num m ≠ 0):=by
            have h1:=HA.out.2.2.1
            rw [num_snoc0] at h1
            refine ⟨?_,by omega⟩
            rcases m with _ | ⟨a,r⟩
            · simp [num_nil] at h1
            · simp
          clear HA hn hc1 hc2
          go_wp2
          go_round
          case rel =>
            refine ⟨m,k1,rfl,by go_num,by omega,by omega,hm0.out.1,by omega,HA2.out.1.front,?_,hm0.out.2,HA2.out.2.2.2.of_append_left⟩
            rw [← HA2.out.2.1,hk1,stripZ_snoc]
          case measure=>simp [intOf]; omega
        · have HE:Hid (td = ⟨n,m ++ [x],k⟩):=by
            show _ = _
            have h2:stripZ (m ++ [x]) k = (m ++ [x],k):=by
              cases k with
              | zero=>rfl
              | succ k=>rw [stripZ,if_neg (by simp; omega)]
            rw [HTD.out,← HA.out.2.1,h2,if_neg (by simp)]
          have hw1:IntKind.i64.wrap ((N:Int) - 1) = (m.length:Int):=by rw [wrap_in _ (by omega) (by omega)]; omega
          have hmx:max (m.length:Int) 0 = (m.length:Int):=by omega
          have hmN:m.length < N:=by omega
          clear HA hn hc1 hc2 HTD hI
          rcases Nat.eq_zero_or_pos k with rfl | hkp
          · go_wp2
            refine bodyPost_ret_by (results_cell_row (by rfl) _ _ (w.heap.size + 1) _ _ _ _ rfl (y2.out.setAll _ _ _) Tryz.underlying26 rfl (by kernel_rfl)) rfl ?_
            refine ⟨.slice (some ⟨b,off,none⟩) N c,by (rw [HE.out,hNm]; try rfl),?_,fun q hq=>?_,Below.set3 yB.out (by omega) _ _ _⟩
            · rw [HE.out,← hN]; exact HA2.out.1.set3 (fun q hq=>hF.out q (by simpa [Value.ownBlock] using hq)) (by omega) _ _ _
            · have:=hF.out q (by simpa [Value.ownBlock] using hq); omega
          · have hx:x ≠ 0:=fun h=>hgo ⟨hkp,h⟩
            have hx2:decide (x = 0) = false:=decide_eq_false hx
            clear hgo
            go_wp2
            refine bodyPost_ret_by (results_cell_row (by rfl) _ _ (w.heap.size + 1) _ _ _ _ rfl (y2.out.setAll _ _ _) Tryz.underlying26 rfl (by kernel_rfl)) rfl ?_
            refine ⟨.slice (some ⟨b,off,none⟩) N c,by (rw [HE.out,hNm]; try rfl),?_,fun q hq=>?_,Below.set3 yB.out (by omega) _ _ _⟩
            · rw [HE.out,← hN]; exact HA2.out.1.set3 (fun q hq=>hF.out q (by simpa [Value.ownBlock] using hq)) (by omega) _ _ _
            · have:=hF.out q (by simpa [Value.ownBlock] using hq); omega
end Go.Proofs.YteiomfgehlojeaaGreatDoor
end
section
namespace Go.Proofs.YteiomfgehlojeaaGreatDoor
open Go.RowKit Go.Sym
def decP (k:Nat):Pat:=.agg [.at_ (8 * k), .ls k, .at_ (8 * k + 4)]
def dAl (k:Nat) (d:Dc):List (Nat × Value):=[(8 * k, .bool d.neg),(8 * k + 4, .int .i64 d.s),(4 * k + 2, .agg (ints d.l).toArray)]
def lAl (k:Nat) (l:List Int):List (Nat × Value):=[(4 * k + 2, .agg (ints l).toArray)]
def HasL (B:Base) (k:Nat) (l:List Int):Prop:=k < 1024∧B.A (gid k) = some (.agg (ints l).toArray)
def HasD (B:Base) (k:Nat) (d:Dc):Prop:=HasL B k d.l∧B.A (8 * k) = some (.bool d.neg)∧B.A (8 * k + 4) = some (.int .i64 d.s)
theorem rd_ints {G:Nat→Prop} {w:World} {v:Value} {l:List Int} (h:IsInts w v l) (hG:∀ g,v.ownBlock = some g→G g):Rd G w v (ints l):=by
  obtain ⟨A,c,rfl,h0,h1,h2⟩:=h
  refine ⟨A,c,by rw [ints_length],by rw [ints_length]; exact h0,h1,fun hp=>?_⟩
  rw [ints_length] at hp
  obtain ⟨b,off,rfl,hc⟩:=h2 hp
  refine ⟨b,off,rfl,hG b (by simp [Value.ownBlock]),fun j hj=>?_⟩
  rw [ints_length] at hj
  rw [hc j hj,ints_get l j hj]
theorem ints_rd {G:Nat→Prop} {w:World} {v:Value} {l:List Int} (h:Rd G w v (ints l)):IsInts w v l:=by
  obtain ⟨A,c,he,h0,h1,h2⟩:=h
  rw [ints_length] at he h0 h2
  refine ⟨A,c,he,h0,h1,fun hp=>?_⟩
  obtain ⟨b,off,hA,_,hc⟩:=h2 hp
  exact ⟨b,off,hA,fun j hj=>by rw [hc j hj,ints_get l j hj]⟩
theorem rd_block {G:Nat→Prop} {w:World} {v:Value} {l:List Int} (h:Rd G w v (ints l)):0 < l.length→∃ g,v.ownBlock = some g∧G g:=by
  intro hp
  obtain ⟨A,c,rfl,h0,h1,h2⟩:=h
  rw [ints_length] at h2
  obtain ⟨b,off,rfl,hg,_⟩:=h2 hp
  exact ⟨b,by simp [Value.ownBlock],hg⟩
def NP (B:Base) (p:Pat) (v:Value):Prop:=p = .val v∨∃ i,p = .at_ i∧B.A i = some v
section
variable {B:Base} {G:Nat→Prop} {w:World} {k:Nat}
theorem isP_ls {l:List Int} (hL:HasL B k l) {x:Value} (h:IsP B G w (.ls k) x):IsInts w x l:=by
  obtain ⟨_,_,gh,h1,h2⟩:=h
  rw [hL.2] at h1
  injection h1 with h1
  subst h1
  exact ints_rd h2
theorem to_ls {l:List Int} (hL:HasL B k l) {x:Value} (h:IsInts w x l) (hG:∀ g,x.ownBlock = some g→G g):IsP B G w (.ls k) x :=
  ⟨hL.1,by obtain ⟨A,c,rfl,_⟩:=h; rfl,_,hL.2,rd_ints h hG⟩
theorem wf_ls {l:List Int} (hL:HasL B k l):WfP B (.ls k):=⟨hL.1,_,hL.2⟩
theorem NP.val (v:Value):NP B (.val v) v:=.inl rfl
theorem NP.atm {i:Nat} {v:Value} (h:B.A i = some v):NP B (.at_ i) v:=.inr ⟨i,rfl,h⟩
theorem NP.out {p:Pat} {v x:Value} (h:NP B p v) (hx:IsP B G w p x):x = v:=by
  rcases h with rfl | ⟨i,rfl,hi⟩
  · exact hx
  · have:=hx.1
    rw [hi] at this
    injection this with this
    exact this.symm
theorem NP.inn {p:Pat} {v:Value} (h:NP B p v) (h1:v.oneCell' = true):IsP B G w p v:=by
  rcases h with rfl | ⟨i,rfl,hi⟩
  · rfl
  · exact ⟨hi,h1⟩
theorem NP.wf {p:Pat} {v:Value} (h:NP B p v):WfP B p:=by
  rcases h with rfl | ⟨i,rfl,hi⟩
  · trivial
  · exact ⟨_,hi⟩
end
def decG (p:Pat) (k:Nat) (q:Pat):Pat:=.agg [p, .ls k,q]
structure HasG (B:Base) (p:Pat) (k:Nat) (q:Pat) (d:Dc):Prop where
  l:HasL B k d.l
  n:NP B p (.bool d.neg)
  s:NP B q (.int .i64 d.s)
theorem HasD.g {B:Base} {k:Nat} {d:Dc} (h:HasD B k d):HasG B (.at_ (8 * k)) k (.at_ (8 * k + 4)) d:=⟨h.1, .atm h.2.1, .atm h.2.2⟩
section
variable {B:Base} {G:Nat→Prop} {w:World} {k:Nat} {p q:Pat} {d:Dc}
theorem HasG.out (hD:HasG B p k q d) {x:Value} (h:IsP B G w (decG p k q) x):∃ v,x = dv v d∧IsInts w v d.l:=by
  obtain ⟨ys,rfl,y0,r0,rfl,a0,y1,r1,rfl,a1,y2,r2,rfl,a2,rfl⟩:=h
  rw [hD.n.out a0,hD.s.out a2]
  exact ⟨y1,rfl,isP_ls hD.l a1⟩
theorem HasG.inn (hD:HasG B p k q d) {v:Value} (h:IsInts w v d.l) (hG:∀ g,v.ownBlock = some g→G g):IsP B G w (decG p k q) (dv v d) :=
  ⟨_,rfl,_,_,rfl,hD.n.inn rfl,_,_,rfl,to_ls hD.l h hG,_,_,rfl,hD.s.inn rfl,rfl⟩
theorem HasG.wf (hD:HasG B p k q d):WfP B (decG p k q):=⟨hD.n.wf,wf_ls hD.l,hD.s.wf,trivial⟩
end
structure Arg (B:Base) where
  p:Pat
  P:World→Value→Prop
  wf:WfP B p
  out:∀ (G:Nat→Prop) (w:World) (x:Value),IsP B G w p x→P w x
structure Ans (B:Base) where
  p:Pat
  P:Nat→World→Value→Prop
  wf:WfP B p
  inn:∀ (N:Nat) (w:World) (x:Value),P N w x→IsP B (fun g=>N ≤ g) w p x
def lsA {B:Base} {k:Nat} {l:List Int} (h:HasL B k l):Arg B:=⟨.ls k,fun w x=>IsInts w x l,wf_ls h,fun _ _ _ hx=>isP_ls h hx⟩
def scA {B:Base} {p:Pat} {v:Value} (h:NP B p v):Arg B:=⟨p,fun _ x=>x = v,h.wf,fun _ _ _ hx=>h.out hx⟩
def deA {B:Base} {p q:Pat} {k:Nat} {d:Dc} (h:HasG B p k q d):Arg B:=⟨decG p k q,fun w x=>∃ v,x = dv v d∧IsInts w v d.l,h.wf,fun _ _ _ hx=>h.out hx⟩
def lsR {B:Base} {k:Nat} {l:List Int} (h:HasL B k l):Ans B:=⟨.ls k,fun N w x=>IsInts w x l∧From N x,wf_ls h,fun _ _ _ hx=>to_ls h hx.1 hx.2⟩
def scR {B:Base} {p:Pat} {v:Value} (h:NP B p v) (h1:v.oneCell' = true):Ans B:=⟨p,fun _ _ x=>x = v,h.wf,fun _ _ x hx=>by rw [show x = v from hx]; exact h.inn h1⟩
def deR {B:Base} {p q:Pat} {k:Nat} {d:Dc} (h:HasG B p k q d):Ans B:=⟨decG p k q,fun N w x=>∃ v,x = dv v d∧IsInts w v d.l∧From N v,h.wf,fun _ _ x hx=>by obtain ⟨v,e,h1,h2⟩:=hx; rw [e]; exact h.inn h1 h2⟩
def detR {B:Base} {p q:Pat} {k:Nat} {d:Dc} (h:HasG B p k q d):Ans B:=⟨.tup [decG p k q, .val (.int .i64 0)],fun N w x=>∃ v,x = .tuple #[dv v d, .int .i64 0]∧IsInts w v d.l∧From N v,⟨h.wf,trivial,trivial⟩,fun _ _ x hx=>by obtain ⟨v,e,h1,h2⟩:=hx; rw [e]; exact ⟨_,rfl,_,_,rfl,h.inn h1 h2,_,_,rfl,rfl,rfl⟩⟩
def AllA {B:Base}:List (Arg B)→World→List Value→Prop
  | [],_,xs=>xs = []
  | a :: l,w,xs=>∃ x r,xs = x :: r∧a.P w x∧AllA l w r
theorem all_of {B:Base} {G:Nat→Prop} {w:World}:∀ {l:List (Arg B)} {xs:List Value},IsPs B G w (l.map (·.p)) xs→AllA l w xs
  | [],_,h=>h
  | a :: l,_,h=>by
    obtain ⟨x,r,rfl,h1,h2⟩:=h
    exact ⟨x,r,rfl,a.out _ _ _ h1,all_of h2⟩
theorem wf_all {B:Base}:∀ (l:List (Arg B)),WfPs B (l.map (·.p))
  | []=>trivial
  | a :: l=>⟨a.wf,wf_all l⟩
theorem ent_mk {B:Base} {P:Program} {f:Nat} (l:List (Arg B)) (r:Ans B) (h:∀ (w:World) (xs:List Value),AllA l w xs→Calls P f xs.toArray w fun e w'=>∃ x,e = .returned x∧r.P w.heap.size w' x∧Below w.heap.size w w'):Ent2OK B P ⟨f,l.map (·.p),r.p⟩:=by
  refine ⟨wf_all l,fun w _ xs hx=>(h w xs (all_of hx)).mono ?_⟩
  rintro e w' ⟨x,rfl,hx,hb⟩
  exact ⟨x,rfl,r.inn _ _ _ hx,hb⟩
theorem nilF {α:Type} {p:α→Prop}:∀ F ∈ ([]:List α),p F:=fun _ h=>by cases h
theorem consF {α:Type} {p:α→Prop} {a:α} {l:List α} (h:p a) (k:∀ F ∈ l,p F):∀ F ∈ a :: l,p F:=fun F hF=>by
  rcases List.mem_cons.1 hF with rfl | hF
  · exact h
  · exact k F hF
theorem binI {P:Program} {B:Base} {op:BinOp} {a b r:AV} {x y:Int} {v:Value} (ha:sv B a = some (.int .i64 x)) (hb:sv B b = some (.int .i64 y)) (hr:sv B r = some v)
    (h:∀ t ox oy w,(do eqGuard op t ox oy (.int .i64 x) (.int .i64 y); binOp op t (.int .i64 x) (.int .i64 y)).run P w = .ok v w):BinFOK P B ⟨op,a,b,r⟩:=⟨_,_,_,ha,hb,hr,h⟩
theorem run_mk {B:Base} {w:World} {l:List (Nat × Value)} (hev:evL l = true) (hB:B = bas w l) {orc:CallT} {T:Tb} (hT:TbOK Tryz.prog B T) (ho:CallOK B Tryz.prog orc) {f:Nat} {ps:List Pat} {r:Pat} (hw:WfPs B ps) (hr:WfP B r)
    (hrun:(match callE B T orc f (bldPs 0 ps).1 { nc:=(bldPs 0 ps).2 } with
      | some (x,_)=>matP (bldPs 0 ps).2 r x
      | none=>false) = true):Ent2OK B Tryz.prog ⟨f,ps,r⟩:=by
  refine ent2_of (by rw [hB]; exact ev_of hev) (callE_ok hT ho) (a:=(bldPs 0 ps).1) (c:=(bldPs 0 ps).2) rfl hw hr hrun
end Go.Proofs.YteiomfgehlojeaaGreatDoor
end
section
namespace Go.Proofs.YteiomfgehlojeaaGreatDoor
open Go.RowKit Go.Sym
theorem rdMay_any (v:Value) (d:Dc) (w:World) (ha:IsInts w v d.l) (da:Dg d.l) (hs:d.s ≤ 1000):Calls Tryz.prog 46 #[dv v d] w fun e w'=>e = .returned (.bool true)∧Below w.heap.size w w':=by
  have hD:HasD (bas w (dAl 1 d)) 1 d:=⟨⟨by decide,rfl⟩,rfl,rfl⟩
  have h:Ent2OK (bas w (dAl 1 d)) Tryz.prog ⟨46,[decP 1], .val (.bool true)⟩:=by
    refine run_mk (by kernel_rfl) rfl (T:=tbL [⟨.geq, .atom 12, .lit (.int .i64 0), .lit (.bool true)⟩,⟨.leq, .atom 12, .lit (.int .i64 1000), .lit (.bool true)⟩] [] [] []) (tbL_ok ?_ nilF nilF nilF) (orc:=ent2A [⟨78,[.ls 1], .val (.bool true)⟩]) (ent2_ok ?_) ⟨hD.g.wf,trivial⟩ trivial (by kernel_rfl)
    · exact consF (binI (x:=d.s) (y:=0) rfl rfl rfl (run_geqI (by simp))) (consF (binI (x:=d.s) (y:=1000) rfl rfl rfl (run_leqI (by simp; omega))) nilF)
    · refine consF (ent_mk [lsA hD.1] (scR (.val (.bool true)) rfl) ?_) nilF
      rintro w _ ⟨v,_,rfl,hv,rfl⟩
      exact (rfMay_any v d.l w hv da).mono (by rintro e w' ⟨rfl,rfl⟩; exact ⟨_,rfl,rfl,Below.refl _ _⟩)
  refine (h.2 w (bas_under _ _ _) [dv v d] ⟨_,_,rfl,hD.g.inn ha (fun _ _=>trivial),rfl⟩).mono ?_
  rintro e w' ⟨x,rfl,hx,hb⟩
  exact ⟨by rw [show x = .bool true from hx],hb⟩
end Go.Proofs.YteiomfgehlojeaaGreatDoor
end
section
namespace Go.Proofs.YteiomfgehlojeaaGreatDoor
open Go.RowKit Go.Sym
theorem cmp3_flip (x y:Int):-cmp3 x y = cmp3 y x:=by
  rcases Int.lt_trichotomy x y with h | h | h
  · rw [cmp3_lt h,cmp3_gt h]; rfl
  · subst h; rw [cmp3_eq]; rfl
  · rw [cmp3_gt h,cmp3_lt h]
theorem cmp3_in (x y:Int):cmp3 x y = -1∨cmp3 x y = 0∨cmp3 x y = 1:=by
  unfold cmp3
  split
  · exact .inl rfl
  · split
    · exact .inr (.inl rfl)
    · exact .inr (.inr rfl)
theorem shiftE {B:Base} {k i j:Nat} {l:List Int} {n:Nat} (hL:HasL B k l) (hn:B.A i = some (.int .i64 n)) (hR:HasL B j (padZ l n)) (h1:l.length ≤ 1000) (h2:n ≤ 1000):Ent2OK B Tryz.prog ⟨48,[.ls k, .at_ i], .ls j⟩:=by
  refine ent_mk [lsA hL,scA (.atm hn)] (lsR hR) ?_
  rintro w _ ⟨v,_,rfl,hv,_,_,rfl,rfl,rfl⟩
  exact (rfShift_any v l n w hv h1 h2).mono (by rintro e w' ⟨sl,rfl,ho,hb⟩; exact ⟨_,rfl,⟨IsInts.of_own ho,own_far ho (Nat.le_refl _)⟩,hb⟩)
theorem mayE {B:Base} {p q:Pat} {k:Nat} {d:Dc} (hD:HasG B p k q d) (da:Dg d.l) (hs:d.s ≤ 1000):Ent2OK B Tryz.prog ⟨46,[decG p k q], .val (.bool true)⟩:=by
  refine ent_mk [deA hD] (scR (.val (.bool true)) rfl) ?_
  rintro w _ ⟨_,_,rfl,⟨v,rfl,hv⟩,rfl⟩
  exact (rdMay_any v d w hv da hs).mono (by rintro e w' ⟨rfl,hb⟩; exact ⟨_,rfl,rfl,hb⟩)
theorem trimE {B:Base} {p q p' q':Pat} {k k':Nat} {d t:Dc} (hD:HasG B p k q d) (hT:HasG B p' k' q' t) (ht:trimD d = t) (da:Dg d.l) (hl:d.l.length ≤ 1000000) (hs:d.s ≤ 1000):Ent2OK B Tryz.prog ⟨45,[decG p k q],decG p' k' q'⟩:=by
  refine ent_mk [deA hD] (deR hT) ?_
  rintro w _ ⟨_,_,rfl,⟨v,rfl,hv⟩,rfl⟩
  have:=rdTrim_any v d w hv da hl hs
  rw [ht] at this
  exact this.mono (by rintro e w' ⟨sl,rfl,hi,hf,hb⟩; exact ⟨_,rfl,⟨_,rfl,hi,hf⟩,hb⟩)
theorem cmpE {B:Base} {k j:Nat} {l m:List Int} {p:Pat} {c:Int} (hL:HasL B k l) (hM:HasL B j m) (hp:NP B p (.int .i64 c)) (hc:cmp3 (num l:Nat) (num m:Nat) = c) (dl:Dg l) (dm:Dg m) (h1:l.length ≤ 1000) (h2:m.length ≤ 1000):Ent2OK B Tryz.prog ⟨50,[.ls k, .ls j],p⟩:=by
  refine ent_mk [lsA hL,lsA hM] (scR hp rfl) ?_
  rintro w _ ⟨v,_,rfl,hv,u,_,rfl,hu,rfl⟩
  have:=rfCompare_any v u l m w hv hu dl dm h1 h2
  rw [hc] at this
  exact this.mono (by rintro e w' ⟨rfl,hb⟩; exact ⟨_,rfl,rfl,hb⟩)
def cmpR:Bool→Bool→Pat
  | true,true => .at_ 216
  | true,false => .val (.int .i64 (-1))
  | false,true => .val (.int .i64 1)
  | false,false => .at_ 212
theorem rdCompare_any (v u:Value) (a b:Dc) (w:World) (ha:IsInts w v a.l) (hb:IsInts w u b.l) (da:Dg a.l) (db:Dg b.l) (la:a.l.length ≤ 40) (lb:b.l.length ≤ 40) (sa:a.s ≤ 40) (sb:b.s ≤ 40) :
    Calls Tryz.prog 18 #[dv v a,dv u b] w fun e w'=>e = .returned (.int .i64 (cmpD (trimD a) (trimD b)))∧Below w.heap.size w w':=by
  obtain ⟨x,hx⟩:∃ x,trimD a = x:=⟨_,rfl⟩
  obtain ⟨y,hy⟩:∃ y,trimD b = y:=⟨_,rfl⟩
  have dx:Dg x.l:=by rw [← hx]; exact trimD_dg a da
  have dy:Dg y.l:=by rw [← hy]; exact trimD_dg b db
  have lx:x.l.length ≤ 40:=by rw [← hx]; exact Nat.le_trans (trimD_len a) la
  have ly:y.l.length ≤ 40:=by rw [← hy]; exact Nat.le_trans (trimD_len b) lb
  have sx:x.s ≤ 40:=by rw [← hx]; exact Nat.le_trans (trimD_s a) sa
  have sy:y.s ≤ 40:=by rw [← hy]; exact Nat.le_trans (trimD_s b) sb
  rw [hx,hy]
  obtain ⟨xn,hxn⟩:∃ q,x.neg = q:=⟨_,rfl⟩
  obtain ⟨yn,hyn⟩:∃ q,y.neg = q:=⟨_,rfl⟩
  let M:=max x.s y.s
  let c:=cmp3 (num (padZ x.l (M - x.s)):Nat) (num (padZ y.l (M - y.s)):Nat)
  have hcb:=cmp3_in (num (padZ x.l (M - x.s)):Nat) (num (padZ y.l (M - y.s)):Nat)
  let L:=dAl 1 a ++ dAl 2 b ++ lAl 3 x.l ++ [(28,Value.int .i64 x.s)] ++ lAl 4 y.l ++ [(36,Value.int .i64 y.s)] ++ [(200,Value.int .i64 M),(204,Value.int .i64 ((M - x.s:Nat):Int)),(208,Value.int .i64 ((M - y.s:Nat):Int)),(212,Value.int .i64 c),(216,Value.int .i64 (-c))] ++ lAl 5 (padZ x.l (M - x.s)) ++ lAl 6 (padZ y.l (M - y.s))
  have hA:HasD (bas w L) 1 a:=⟨⟨by decide,rfl⟩,rfl,rfl⟩
  have hB:HasD (bas w L) 2 b:=⟨⟨by decide,rfl⟩,rfl,rfl⟩
  have hX:HasG (bas w L) (.val (.bool xn)) 3 (.at_ 28) x:=⟨⟨by decide,rfl⟩,by rw [hxn]; exact .val _, .atm rfl⟩
  have hY:HasG (bas w L) (.val (.bool yn)) 4 (.at_ 36) y:=⟨⟨by decide,rfl⟩,by rw [hyn]; exact .val _, .atm rfl⟩
  have h5:HasL (bas w L) 5 (padZ x.l (M - x.s)):=⟨by decide,rfl⟩
  have h6:HasL (bas w L) 6 (padZ y.l (M - y.s)):=⟨by decide,rfl⟩
  have hR:NP (bas w L) (cmpR xn yn) (.int .i64 (cmpD x y)):=by
    have e:cmpD x y = if xn = true∧yn = true then cmp3 (num (padZ y.l (M - y.s)):Nat) (num (padZ x.l (M - x.s)):Nat) else if xn = true then -1 else if yn = true then 1 else c:=by
      unfold cmpD; rw [hxn,hyn]
    rw [e]
    cases xn <;> cases yn
    · exact .atm rfl
    · exact .val _
    · exact .val _
    · rw [if_pos ⟨rfl,rfl⟩,← cmp3_flip]; exact .atm rfl
  have h:Ent2OK (bas w L) Tryz.prog ⟨18,[decP 1,decP 2],cmpR xn yn⟩:=by
    refine run_mk (by kernel_rfl) rfl (T:=tbL [⟨.sub, .atom 200, .atom 28, .atom 204⟩,⟨.sub, .atom 200, .atom 36, .atom 208⟩] [⟨.neg, .atom 212, .atom 216⟩] [⟨.atom 28, .atom 36, .atom 200⟩] []) (tbL_ok ?_ ?_ ?_ nilF)
      (orc:=ent2A [⟨45,[decP 1],decG (.val (.bool xn)) 3 (.at_ 28)⟩,⟨45,[decP 2],decG (.val (.bool yn)) 4 (.at_ 36)⟩,⟨48,[.ls 3, .at_ 204], .ls 5⟩,⟨48,[.ls 4, .at_ 208], .ls 6⟩,⟨50,[.ls 5, .ls 6], .at_ 212⟩]) (ent2_ok ?_) ⟨hA.g.wf,hB.g.wf,trivial⟩ hR.wf (by cases xn <;> cases yn <;> kernel_rfl)
    · exact consF (binI (x:=M) (y:=x.s) rfl rfl rfl (run_subI (by rw [wrap64 _ (by omega) (by omega)]; omega))) (consF (binI (x:=M) (y:=y.s) rfl rfl rfl (run_subI (by rw [wrap64 _ (by omega) (by omega)]; omega))) nilF)
    · exact consF ⟨_,_,rfl,rfl,run_negI (by rw [wrap64 _ (by omega) (by omega)]; omega)⟩ nilF
    · exact consF ⟨x.s,y.s,rfl,rfl,by show some (Value.int .i64 ((max x.s y.s:Nat):Int)) = _; congr 2; omega⟩ nilF
    · exact consF (trimE hA.g hX hx da (by omega) (by omega)) (consF (trimE hB.g hY hy db (by omega) (by omega)) (consF (shiftE hX.l rfl h5 (by omega) (by omega)) (consF (shiftE hY.l rfl h6 (by omega) (by omega)) (consF (cmpE h5 h6 (.atm rfl) rfl (padZ_dg dx _) (padZ_dg dy _) (by rw [padZ_len]; omega) (by rw [padZ_len]; omega)) nilF))))
  refine (h.2 w (bas_under _ _ _) [dv v a,dv u b] ⟨_,_,rfl,hA.g.inn ha (fun _ _=>trivial),_,_,rfl,hB.g.inn hb (fun _ _=>trivial),rfl⟩).mono ?_
  rintro e w' ⟨x,rfl,hx,hb⟩
  exact ⟨by rw [hR.out hx],hb⟩
theorem from_rd {w:World} {v:Value} {N:Nat} {l:List Int} (h:Rd (fun g=>N ≤ g) w v (ints l)) (hl:0 < l.length):From N v:=by
  obtain ⟨g,h1,h2⟩:=rd_block h hl
  intro k hk
  rw [h1] at hk
  injection hk with hk
  subst hk
  exact h2
def From' (N:Nat) (v:Value) (l:List Int):Prop:=0 < l.length→From N v
theorem HasG.out2 {B:Base} {N:Nat} {w:World} {k:Nat} {p q:Pat} {d:Dc} (hD:HasG B p k q d) {x:Value} (h:IsP B (fun g=>N ≤ g) w (decG p k q) x):∃ v,x = dv v d∧IsInts w v d.l∧From' N v d.l:=by
  obtain ⟨ys,rfl,y0,r0,rfl,a0,y1,r1,rfl,a1,y2,r2,rfl,a2,rfl⟩:=h
  rw [hD.n.out a0,hD.s.out a2]
  refine ⟨y1,rfl,isP_ls hD.l a1,fun hl=>?_⟩
  obtain ⟨_,_,gh,h1,h2⟩:=a1
  rw [hD.l.2] at h1
  injection h1 with h1
  subst h1
  exact from_rd h2 hl
theorem rdAdd_same (v u:Value) (a b:Dc) (w:World) (ha:IsInts w v a.l) (hb:IsInts w u b.l) (da:Dg a.l) (db:Dg b.l) (la:a.l.length ≤ 40) (lb:b.l.length ≤ 40) (sa:a.s ≤ 40) (sb:b.s ≤ 40)
    (h:a.neg = b.neg) :
    Calls Tryz.prog 17 #[dv v a,dv u b] w fun e w'=>∃ sl,e = .returned (.tuple #[dv sl (addD a b), .int .i64 0])∧IsInts w' sl (addD a b).l∧From' w.heap.size sl (addD a b).l∧Below w.heap.size w w':=by
  obtain ⟨an,han⟩:∃ q,a.neg = q:=⟨_,rfl⟩
  obtain ⟨bn,hbn⟩:∃ q,b.neg = q:=⟨_,rfl⟩
  have hM40:max a.s b.s ≤ 40:=by omega
  have hlA:=num_lt (padZ_dg da (max a.s b.s - a.s))
  have hlB:=num_lt (padZ_dg db (max a.s b.s - b.s))
  have pA:num (padZ a.l (max a.s b.s - a.s)) < 10 ^ 80:=Nat.lt_of_lt_of_le hlA (Nat.pow_le_pow_right (by omega) (by rw [padZ_len]; omega))
  have pB:num (padZ b.l (max a.s b.s - b.s)) < 10 ^ 80:=Nat.lt_of_lt_of_le hlB (Nat.pow_le_pow_right (by omega) (by rw [padZ_len]; omega))
  obtain ⟨A,hAe⟩:∃ A,num (padZ a.l (max a.s b.s - a.s)) = A:=⟨_,rfl⟩
  obtain ⟨B,hBe⟩:∃ B,num (padZ b.l (max a.s b.s - b.s)) = B:=⟨_,rfl⟩
  obtain ⟨r,hr⟩:∃ r,addD a b = r:=⟨_,rfl⟩
  rw [hr]
  have hr2:trimD ⟨an,digs (A + B),max a.s b.s⟩ = r:=by
    rw [← hr]
    unfold addD
    rw [hAe,hBe,han,hbn]
    rw [if_pos (show an = bn by rw [← han,← hbn,h])]
  rw [hAe] at pA
  rw [hBe] at pB
  have hlen:(digs (A + B)).length ≤ 1000000:=by
    have:(digs (A + B)).length ≤ 81:=digs_len_le (by
      rw [show (81:Nat) = 1 + 80 from rfl,Nat.pow_add]
      generalize (10:Nat) ^ 80 = P at *
      omega)
    omega
  let M:=max a.s b.s
  let L:=lAl 1 a.l ++ [(12,Value.int .i64 a.s)] ++ lAl 2 b.l ++ [(20,Value.int .i64 b.s)] ++ [(200,Value.int .i64 M),(204,Value.int .i64 ((M - a.s:Nat):Int)),(208,Value.int .i64 ((M - b.s:Nat):Int))] ++ lAl 5 (padZ a.l (M - a.s)) ++ lAl 6 (padZ b.l (M - b.s)) ++ lAl 7 (digs (A + B)) ++ dAl 9 r
  have hA:HasG (bas w L) (.val (.bool an)) 1 (.at_ 12) a:=⟨⟨by decide,rfl⟩,by rw [han]; exact .val _, .atm rfl⟩
  have hB:HasG (bas w L) (.val (.bool bn)) 2 (.at_ 20) b:=⟨⟨by decide,rfl⟩,by rw [hbn]; exact .val _, .atm rfl⟩
  have h5:HasL (bas w L) 5 (padZ a.l (M - a.s)):=⟨by decide,rfl⟩
  have h6:HasL (bas w L) 6 (padZ b.l (M - b.s)):=⟨by decide,rfl⟩
  have h7:HasG (bas w L) (.val (.bool an)) 7 (.at_ 200) ⟨an,digs (A + B),M⟩:=⟨⟨by decide,rfl⟩, .val _, .atm rfl⟩
  have h9:HasD (bas w L) 9 r:=⟨⟨by decide,rfl⟩,rfl,rfl⟩
  have hM:∀ x y:Int,x = a.s→y = b.s→(max x y) = (M:Int):=fun x y e1 e2=>by rw [e1,e2]; omega
  have h:Ent2OK (bas w L) Tryz.prog ⟨17,[decG (.val (.bool an)) 1 (.at_ 12),decG (.val (.bool bn)) 2 (.at_ 20)], .tup [decP 9, .val (.int .i64 0)]⟩:=by
    refine run_mk (by kernel_rfl) rfl (T:=tbL [⟨.sub, .atom 200, .atom 12, .atom 204⟩,⟨.sub, .atom 200, .atom 20, .atom 208⟩] [] [⟨.atom 12, .atom 20, .atom 200⟩] []) (tbL_ok ?_ nilF ?_ nilF)
      (orc:=ent2A [⟨46,[decG (.val (.bool an)) 1 (.at_ 12)], .val (.bool true)⟩,⟨46,[decG (.val (.bool bn)) 2 (.at_ 20)], .val (.bool true)⟩,⟨48,[.ls 1, .at_ 204], .ls 5⟩,⟨48,[.ls 2, .at_ 208], .ls 6⟩,⟨49,[.ls 5, .ls 6], .ls 7⟩,⟨45,[decG (.val (.bool an)) 7 (.at_ 200)],decP 9⟩]) (ent2_ok ?_) ⟨hA.wf,hB.wf,trivial⟩ ⟨h9.g.wf,trivial,trivial⟩ (by rw [show bn = an by rw [← han,← hbn,h]]; cases an <;> kernel_rfl)
    · exact consF (binI (x:=M) (y:=a.s) rfl rfl rfl (run_subI (by rw [wrap64 _ (by omega) (by omega)]; omega))) (consF (binI (x:=M) (y:=b.s) rfl rfl rfl (run_subI (by rw [wrap64 _ (by omega) (by omega)]; omega))) nilF)
    · exact consF ⟨a.s,b.s,rfl,rfl,by show some (Value.int .i64 ((max a.s b.s:Nat):Int)) = _; congr 2; omega⟩ nilF
    · refine consF (mayE hA da (by omega)) (consF (mayE hB db (by omega)) (consF (shiftE hA.l rfl h5 (by omega) (by omega)) (consF (shiftE hB.l rfl h6 (by omega) (by omega)) ?_)))
      refine consF (ent_mk [lsA h5,lsA h6] (lsR h7.l) ?_) (consF (trimE h7 h9.g hr2 (digs_dg _) hlen (by show max a.s b.s ≤ 1000; omega)) nilF)
      rintro w _ ⟨v,_,rfl,hv,u,_,rfl,hu,rfl⟩
      have:=rfAdd_any v u _ _ w hv hu (padZ_dg da _) (padZ_dg db _) (by rw [padZ_len]; omega) (by rw [padZ_len]; omega)
      rw [show num (padZ a.l (M - a.s)) = A from hAe,show num (padZ b.l (M - b.s)) = B from hBe] at this
      exact this.mono (by rintro e w' ⟨sl,rfl,ho,hb⟩; exact ⟨_,rfl,⟨IsInts.of_own ho,own_far ho (Nat.le_refl _)⟩,hb⟩)
  refine (h.2 w (bas_under _ _ _) [dv v a,dv u b] ⟨_,_,rfl,hA.inn ha (fun _ _=>trivial),_,_,rfl,hB.inn hb (fun _ _=>trivial),rfl⟩).mono ?_
  rintro e w' ⟨x,rfl,⟨ys,rfl,p,_,rfl,hp,q,_,rfl,hq,rfl⟩,hbl⟩
  obtain ⟨sl,rfl,hi,hf⟩:=h9.g.out2 hp
  exact ⟨sl,by rw [show q = .int .i64 0 from hq],hi,hf,hbl⟩
theorem rdAdd_less (v u:Value) (a b:Dc) (w:World) (ha:IsInts w v a.l) (hb:IsInts w u b.l) (da:Dg a.l) (db:Dg b.l) (la:a.l.length ≤ 40) (lb:b.l.length ≤ 40) (sa:a.s ≤ 40) (sb:b.s ≤ 40)
    (h:a.neg ≠ b.neg) (hlt:num (padZ a.l (max a.s b.s - a.s)) < num (padZ b.l (max a.s b.s - b.s))) :
    Calls Tryz.prog 17 #[dv v a,dv u b] w fun e w'=>∃ sl,e = .returned (.tuple #[dv sl (addD a b), .int .i64 0])∧IsInts w' sl (addD a b).l∧From' w.heap.size sl (addD a b).l∧Below w.heap.size w w':=by
  obtain ⟨an,han⟩:∃ q,a.neg = q:=⟨_,rfl⟩
  obtain ⟨bn,hbn⟩:∃ q,b.neg = q:=⟨_,rfl⟩
  have hM40:max a.s b.s ≤ 40:=by omega
  have hlA:=num_lt (padZ_dg da (max a.s b.s - a.s))
  have hlB:=num_lt (padZ_dg db (max a.s b.s - b.s))
  have pA:num (padZ a.l (max a.s b.s - a.s)) < 10 ^ 80:=Nat.lt_of_lt_of_le hlA (Nat.pow_le_pow_right (by omega) (by rw [padZ_len]; omega))
  have pB:num (padZ b.l (max a.s b.s - b.s)) < 10 ^ 80:=Nat.lt_of_lt_of_le hlB (Nat.pow_le_pow_right (by omega) (by rw [padZ_len]; omega))
  obtain ⟨A,hAe⟩:∃ A,num (padZ a.l (max a.s b.s - a.s)) = A:=⟨_,rfl⟩
  obtain ⟨B,hBe⟩:∃ B,num (padZ b.l (max a.s b.s - b.s)) = B:=⟨_,rfl⟩
  obtain ⟨r,hr⟩:∃ r,addD a b = r:=⟨_,rfl⟩
  rw [hr]
  have hr2:trimD ⟨bn,digs (B - A),max a.s b.s⟩ = r:=by
    rw [← hr]
    unfold addD
    rw [hAe,hBe,han,hbn]
    rw [if_neg (show ¬ an = bn by rw [← han,← hbn]; exact h),if_pos (show A < B by rw [← hAe,← hBe]; exact hlt)]
  rw [hAe] at pA
  rw [hBe] at pB
  have hlen:(digs (B - A)).length ≤ 1000000:=by
    have:(digs (B - A)).length ≤ 81:=digs_len_le (by
      rw [show (81:Nat) = 1 + 80 from rfl,Nat.pow_add]
      generalize (10:Nat) ^ 80 = P at *
      omega)
    omega
  let M:=max a.s b.s
  let L:=lAl 1 a.l ++ [(12,Value.int .i64 a.s)] ++ lAl 2 b.l ++ [(20,Value.int .i64 b.s)] ++ [(200,Value.int .i64 M),(204,Value.int .i64 ((M - a.s:Nat):Int)),(208,Value.int .i64 ((M - b.s:Nat):Int))] ++ lAl 5 (padZ a.l (M - a.s)) ++ lAl 6 (padZ b.l (M - b.s)) ++ lAl 7 (digs (B - A)) ++ dAl 9 r
  have hA:HasG (bas w L) (.val (.bool an)) 1 (.at_ 12) a:=⟨⟨by decide,rfl⟩,by rw [han]; exact .val _, .atm rfl⟩
  have hB:HasG (bas w L) (.val (.bool bn)) 2 (.at_ 20) b:=⟨⟨by decide,rfl⟩,by rw [hbn]; exact .val _, .atm rfl⟩
  have h5:HasL (bas w L) 5 (padZ a.l (M - a.s)):=⟨by decide,rfl⟩
  have h6:HasL (bas w L) 6 (padZ b.l (M - b.s)):=⟨by decide,rfl⟩
  have h7:HasG (bas w L) (.val (.bool bn)) 7 (.at_ 200) ⟨bn,digs (B - A),M⟩:=⟨⟨by decide,rfl⟩, .val _, .atm rfl⟩
  have h9:HasD (bas w L) 9 r:=⟨⟨by decide,rfl⟩,rfl,rfl⟩
  have hM:∀ x y:Int,x = a.s→y = b.s→(max x y) = (M:Int):=fun x y e1 e2=>by rw [e1,e2]; omega
  have h:Ent2OK (bas w L) Tryz.prog ⟨17,[decG (.val (.bool an)) 1 (.at_ 12),decG (.val (.bool bn)) 2 (.at_ 20)], .tup [decP 9, .val (.int .i64 0)]⟩:=by
    refine run_mk (by kernel_rfl) rfl (T:=tbL [⟨.sub, .atom 200, .atom 12, .atom 204⟩,⟨.sub, .atom 200, .atom 20, .atom 208⟩] [] [⟨.atom 12, .atom 20, .atom 200⟩] []) (tbL_ok ?_ nilF ?_ nilF)
      (orc:=ent2A [⟨46,[decG (.val (.bool an)) 1 (.at_ 12)], .val (.bool true)⟩,⟨46,[decG (.val (.bool bn)) 2 (.at_ 20)], .val (.bool true)⟩,⟨48,[.ls 1, .at_ 204], .ls 5⟩,⟨48,[.ls 2, .at_ 208], .ls 6⟩,⟨50,[.ls 5, .ls 6], .val (.int .i64 (-1))⟩,⟨51,[.ls 6, .ls 5], .ls 7⟩,⟨45,[decG (.val (.bool bn)) 7 (.at_ 200)],decP 9⟩]) (ent2_ok ?_) ⟨hA.wf,hB.wf,trivial⟩ ⟨h9.g.wf,trivial,trivial⟩ (by rw [show bn = !an by cases an <;> cases bn <;> simp_all]; cases an <;> kernel_rfl)
    · exact consF (binI (x:=M) (y:=a.s) rfl rfl rfl (run_subI (by rw [wrap64 _ (by omega) (by omega)]; omega))) (consF (binI (x:=M) (y:=b.s) rfl rfl rfl (run_subI (by rw [wrap64 _ (by omega) (by omega)]; omega))) nilF)
    · exact consF ⟨a.s,b.s,rfl,rfl,by show some (Value.int .i64 ((max a.s b.s:Nat):Int)) = _; congr 2; omega⟩ nilF
    · refine consF (mayE hA da (by omega)) (consF (mayE hB db (by omega)) (consF (shiftE hA.l rfl h5 (by omega) (by omega)) (consF (shiftE hB.l rfl h6 (by omega) (by omega)) ?_)))
      refine consF (cmpE h5 h6 (.val _) (by rw [show num (padZ a.l (M - a.s)) = A from hAe,show num (padZ b.l (M - b.s)) = B from hBe]; exact cmp3_lt (by omega)) (padZ_dg da _) (padZ_dg db _) (by rw [padZ_len]; omega) (by rw [padZ_len]; omega)) (consF (ent_mk [lsA h6,lsA h5] (lsR h7.l) ?_) (consF (trimE h7 h9.g hr2 (digs_dg _) hlen (by show max a.s b.s ≤ 1000; omega)) nilF))
      rintro w _ ⟨v,_,rfl,hv,u,_,rfl,hu,rfl⟩
      have:=rfLess_any v u _ _ w hv hu (padZ_dg db _) (padZ_dg da _) (by rw [padZ_len]; omega) (by rw [padZ_len]; omega) (by rw [show num (padZ a.l (M - a.s)) = A from hAe,show num (padZ b.l (M - b.s)) = B from hBe]; omega)
      rw [show num (padZ a.l (M - a.s)) = A from hAe,show num (padZ b.l (M - b.s)) = B from hBe] at this
      exact this.mono (by rintro e w' ⟨sl,rfl,ho,hb⟩; exact ⟨_,rfl,⟨IsInts.of_own ho,own_far ho (Nat.le_refl _)⟩,hb⟩)
  refine (h.2 w (bas_under _ _ _) [dv v a,dv u b] ⟨_,_,rfl,hA.inn ha (fun _ _=>trivial),_,_,rfl,hB.inn hb (fun _ _=>trivial),rfl⟩).mono ?_
  rintro e w' ⟨x,rfl,⟨ys,rfl,p,_,rfl,hp,q,_,rfl,hq,rfl⟩,hbl⟩
  obtain ⟨sl,rfl,hi,hf⟩:=h9.g.out2 hp
  exact ⟨sl,by rw [show q = .int .i64 0 from hq],hi,hf,hbl⟩
theorem rdAdd_more (v u:Value) (a b:Dc) (w:World) (ha:IsInts w v a.l) (hb:IsInts w u b.l) (da:Dg a.l) (db:Dg b.l) (la:a.l.length ≤ 40) (lb:b.l.length ≤ 40) (sa:a.s ≤ 40) (sb:b.s ≤ 40)
    (h:a.neg ≠ b.neg) (hlt:num (padZ b.l (max a.s b.s - b.s)) < num (padZ a.l (max a.s b.s - a.s))) :
    Calls Tryz.prog 17 #[dv v a,dv u b] w fun e w'=>∃ sl,e = .returned (.tuple #[dv sl (addD a b), .int .i64 0])∧IsInts w' sl (addD a b).l∧From' w.heap.size sl (addD a b).l∧Below w.heap.size w w':=by
  obtain ⟨an,han⟩:∃ q,a.neg = q:=⟨_,rfl⟩
  obtain ⟨bn,hbn⟩:∃ q,b.neg = q:=⟨_,rfl⟩
  have hM40:max a.s b.s ≤ 40:=by omega
  have hlA:=num_lt (padZ_dg da (max a.s b.s - a.s))
  have hlB:=num_lt (padZ_dg db (max a.s b.s - b.s))
  have pA:num (padZ a.l (max a.s b.s - a.s)) < 10 ^ 80:=Nat.lt_of_lt_of_le hlA (Nat.pow_le_pow_right (by omega) (by rw [padZ_len]; omega))
  have pB:num (padZ b.l (max a.s b.s - b.s)) < 10 ^ 80:=Nat.lt_of_lt_of_le hlB (Nat.pow_le_pow_right (by omega) (by rw [padZ_len]; omega))
  obtain ⟨A,hAe⟩:∃ A,num (padZ a.l (max a.s b.s - a.s)) = A:=⟨_,rfl⟩
  obtain ⟨B,hBe⟩:∃ B,num (padZ b.l (max a.s b.s - b.s)) = B:=⟨_,rfl⟩
  obtain ⟨r,hr⟩:∃ r,addD a b = r:=⟨_,rfl⟩
  rw [hr]
  have hr2:trimD ⟨an,digs (A - B),max a.s b.s⟩ = r:=by
    rw [← hr]
    unfold addD
    rw [hAe,hBe,han,hbn]
    rw [if_neg (show ¬ an = bn by rw [← han,← hbn]; exact h),if_neg (show ¬ A < B by rw [← hAe,← hBe]; omega)]
  rw [hAe] at pA
  rw [hBe] at pB
  have hlen:(digs (A - B)).length ≤ 1000000:=by
    have:(digs (A - B)).length ≤ 81:=digs_len_le (by
      rw [show (81:Nat) = 1 + 80 from rfl,Nat.pow_add]
      generalize (10:Nat) ^ 80 = P at *
      omega)
    omega
  let M:=max a.s b.s
  let L:=lAl 1 a.l ++ [(12,Value.int .i64 a.s)] ++ lAl 2 b.l ++ [(20,Value.int .i64 b.s)] ++ [(200,Value.int .i64 M),(204,Value.int .i64 ((M - a.s:Nat):Int)),(208,Value.int .i64 ((M - b.s:Nat):Int))] ++ lAl 5 (padZ a.l (M - a.s)) ++ lAl 6 (padZ b.l (M - b.s)) ++ lAl 7 (digs (A - B)) ++ dAl 9 r
  have hA:HasG (bas w L) (.val (.bool an)) 1 (.at_ 12) a:=⟨⟨by decide,rfl⟩,by rw [han]; exact .val _, .atm rfl⟩
  have hB:HasG (bas w L) (.val (.bool bn)) 2 (.at_ 20) b:=⟨⟨by decide,rfl⟩,by rw [hbn]; exact .val _, .atm rfl⟩
  have h5:HasL (bas w L) 5 (padZ a.l (M - a.s)):=⟨by decide,rfl⟩
  have h6:HasL (bas w L) 6 (padZ b.l (M - b.s)):=⟨by decide,rfl⟩
  have h7:HasG (bas w L) (.val (.bool an)) 7 (.at_ 200) ⟨an,digs (A - B),M⟩:=⟨⟨by decide,rfl⟩, .val _, .atm rfl⟩
  have h9:HasD (bas w L) 9 r:=⟨⟨by decide,rfl⟩,rfl,rfl⟩
  have hM:∀ x y:Int,x = a.s→y = b.s→(max x y) = (M:Int):=fun x y e1 e2=>by rw [e1,e2]; omega
  have h:Ent2OK (bas w L) Tryz.prog ⟨17,[decG (.val (.bool an)) 1 (.at_ 12),decG (.val (.bool bn)) 2 (.at_ 20)], .tup [decP 9, .val (.int .i64 0)]⟩:=by
    refine run_mk (by kernel_rfl) rfl (T:=tbL [⟨.sub, .atom 200, .atom 12, .atom 204⟩,⟨.sub, .atom 200, .atom 20, .atom 208⟩] [] [⟨.atom 12, .atom 20, .atom 200⟩] []) (tbL_ok ?_ nilF ?_ nilF)
      (orc:=ent2A [⟨46,[decG (.val (.bool an)) 1 (.at_ 12)], .val (.bool true)⟩,⟨46,[decG (.val (.bool bn)) 2 (.at_ 20)], .val (.bool true)⟩,⟨48,[.ls 1, .at_ 204], .ls 5⟩,⟨48,[.ls 2, .at_ 208], .ls 6⟩,⟨50,[.ls 5, .ls 6], .val (.int .i64 1)⟩,⟨51,[.ls 5, .ls 6], .ls 7⟩,⟨45,[decG (.val (.bool an)) 7 (.at_ 200)],decP 9⟩]) (ent2_ok ?_) ⟨hA.wf,hB.wf,trivial⟩ ⟨h9.g.wf,trivial,trivial⟩ (by rw [show bn = !an by cases an <;> cases bn <;> simp_all]; cases an <;> kernel_rfl)
    · exact consF (binI (x:=M) (y:=a.s) rfl rfl rfl (run_subI (by rw [wrap64 _ (by omega) (by omega)]; omega))) (consF (binI (x:=M) (y:=b.s) rfl rfl rfl (run_subI (by rw [wrap64 _ (by omega) (by omega)]; omega))) nilF)
    · exact consF ⟨a.s,b.s,rfl,rfl,by show some (Value.int .i64 ((max a.s b.s:Nat):Int)) = _; congr 2; omega⟩ nilF
    · refine consF (mayE hA da (by omega)) (consF (mayE hB db (by omega)) (consF (shiftE hA.l rfl h5 (by omega) (by omega)) (consF (shiftE hB.l rfl h6 (by omega) (by omega)) ?_)))
      refine consF (cmpE h5 h6 (.val _) (by rw [show num (padZ a.l (M - a.s)) = A from hAe,show num (padZ b.l (M - b.s)) = B from hBe]; exact cmp3_gt (by omega)) (padZ_dg da _) (padZ_dg db _) (by rw [padZ_len]; omega) (by rw [padZ_len]; omega)) (consF (ent_mk [lsA h5,lsA h6] (lsR h7.l) ?_) (consF (trimE h7 h9.g hr2 (digs_dg _) hlen (by show max a.s b.s ≤ 1000; omega)) nilF))
      rintro w _ ⟨v,_,rfl,hv,u,_,rfl,hu,rfl⟩
      have:=rfLess_any v u _ _ w hv hu (padZ_dg da _) (padZ_dg db _) (by rw [padZ_len]; omega) (by rw [padZ_len]; omega) (by rw [show num (padZ a.l (M - a.s)) = A from hAe,show num (padZ b.l (M - b.s)) = B from hBe]; omega)
      rw [show num (padZ a.l (M - a.s)) = A from hAe,show num (padZ b.l (M - b.s)) = B from hBe] at this
      exact this.mono (by rintro e w' ⟨sl,rfl,ho,hb⟩; exact ⟨_,rfl,⟨IsInts.of_own ho,own_far ho (Nat.le_refl _)⟩,hb⟩)
  refine (h.2 w (bas_under _ _ _) [dv v a,dv u b] ⟨_,_,rfl,hA.inn ha (fun _ _=>trivial),_,_,rfl,hB.inn hb (fun _ _=>trivial),rfl⟩).mono ?_
  rintro e w' ⟨x,rfl,⟨ys,rfl,p,_,rfl,hp,q,_,rfl,hq,rfl⟩,hbl⟩
  obtain ⟨sl,rfl,hi,hf⟩:=h9.g.out2 hp
  exact ⟨sl,by rw [show q = .int .i64 0 from hq],hi,hf,hbl⟩
theorem rdAdd_even (v u:Value) (a b:Dc) (w:World) (ha:IsInts w v a.l) (hb:IsInts w u b.l) (da:Dg a.l) (db:Dg b.l) (la:a.l.length ≤ 40) (lb:b.l.length ≤ 40) (sa:a.s ≤ 40) (sb:b.s ≤ 40)
    (h:a.neg ≠ b.neg) (hlt:num (padZ b.l (max a.s b.s - b.s)) = num (padZ a.l (max a.s b.s - a.s))) :
    Calls Tryz.prog 17 #[dv v a,dv u b] w fun e w'=>∃ sl,e = .returned (.tuple #[dv sl (addD a b), .int .i64 0])∧IsInts w' sl (addD a b).l∧From' w.heap.size sl (addD a b).l∧Below w.heap.size w w':=by
  obtain ⟨an,han⟩:∃ q,a.neg = q:=⟨_,rfl⟩
  obtain ⟨bn,hbn⟩:∃ q,b.neg = q:=⟨_,rfl⟩
  have hM40:max a.s b.s ≤ 40:=by omega
  have hlA:=num_lt (padZ_dg da (max a.s b.s - a.s))
  have hlB:=num_lt (padZ_dg db (max a.s b.s - b.s))
  have pA:num (padZ a.l (max a.s b.s - a.s)) < 10 ^ 80:=Nat.lt_of_lt_of_le hlA (Nat.pow_le_pow_right (by omega) (by rw [padZ_len]; omega))
  have pB:num (padZ b.l (max a.s b.s - b.s)) < 10 ^ 80:=Nat.lt_of_lt_of_le hlB (Nat.pow_le_pow_right (by omega) (by rw [padZ_len]; omega))
  obtain ⟨A,hAe⟩:∃ A,num (padZ a.l (max a.s b.s - a.s)) = A:=⟨_,rfl⟩
  obtain ⟨B,hBe⟩:∃ B,num (padZ b.l (max a.s b.s - b.s)) = B:=⟨_,rfl⟩
  obtain ⟨r,hr⟩:∃ r,addD a b = r:=⟨_,rfl⟩
  rw [hr]
  have hr2:trimD ⟨an,digs (A - B),max a.s b.s⟩ = r:=by
    rw [← hr]
    unfold addD
    rw [hAe,hBe,han,hbn]
    rw [if_neg (show ¬ an = bn by rw [← han,← hbn]; exact h),if_neg (show ¬ A < B by rw [← hAe,← hBe]; omega)]
  rw [hAe] at pA
  rw [hBe] at pB
  have hlen:(digs (A - B)).length ≤ 1000000:=by
    have:(digs (A - B)).length ≤ 81:=digs_len_le (by
      rw [show (81:Nat) = 1 + 80 from rfl,Nat.pow_add]
      generalize (10:Nat) ^ 80 = P at *
      omega)
    omega
  let M:=max a.s b.s
  let L:=lAl 1 a.l ++ [(12,Value.int .i64 a.s)] ++ lAl 2 b.l ++ [(20,Value.int .i64 b.s)] ++ [(200,Value.int .i64 M),(204,Value.int .i64 ((M - a.s:Nat):Int)),(208,Value.int .i64 ((M - b.s:Nat):Int))] ++ lAl 5 (padZ a.l (M - a.s)) ++ lAl 6 (padZ b.l (M - b.s)) ++ lAl 7 (digs (A - B)) ++ dAl 9 r
  have hA:HasG (bas w L) (.val (.bool an)) 1 (.at_ 12) a:=⟨⟨by decide,rfl⟩,by rw [han]; exact .val _, .atm rfl⟩
  have hB:HasG (bas w L) (.val (.bool bn)) 2 (.at_ 20) b:=⟨⟨by decide,rfl⟩,by rw [hbn]; exact .val _, .atm rfl⟩
  have h5:HasL (bas w L) 5 (padZ a.l (M - a.s)):=⟨by decide,rfl⟩
  have h6:HasL (bas w L) 6 (padZ b.l (M - b.s)):=⟨by decide,rfl⟩
  have h7:HasG (bas w L) (.val (.bool an)) 7 (.at_ 200) ⟨an,digs (A - B),M⟩:=⟨⟨by decide,rfl⟩, .val _, .atm rfl⟩
  have h9:HasD (bas w L) 9 r:=⟨⟨by decide,rfl⟩,rfl,rfl⟩
  have hM:∀ x y:Int,x = a.s→y = b.s→(max x y) = (M:Int):=fun x y e1 e2=>by rw [e1,e2]; omega
  have h:Ent2OK (bas w L) Tryz.prog ⟨17,[decG (.val (.bool an)) 1 (.at_ 12),decG (.val (.bool bn)) 2 (.at_ 20)], .tup [decP 9, .val (.int .i64 0)]⟩:=by
    refine run_mk (by kernel_rfl) rfl (T:=tbL [⟨.sub, .atom 200, .atom 12, .atom 204⟩,⟨.sub, .atom 200, .atom 20, .atom 208⟩] [] [⟨.atom 12, .atom 20, .atom 200⟩] []) (tbL_ok ?_ nilF ?_ nilF)
      (orc:=ent2A [⟨46,[decG (.val (.bool an)) 1 (.at_ 12)], .val (.bool true)⟩,⟨46,[decG (.val (.bool bn)) 2 (.at_ 20)], .val (.bool true)⟩,⟨48,[.ls 1, .at_ 204], .ls 5⟩,⟨48,[.ls 2, .at_ 208], .ls 6⟩,⟨50,[.ls 5, .ls 6], .val (.int .i64 0)⟩,⟨51,[.ls 5, .ls 6], .ls 7⟩,⟨45,[decG (.val (.bool an)) 7 (.at_ 200)],decP 9⟩]) (ent2_ok ?_) ⟨hA.wf,hB.wf,trivial⟩ ⟨h9.g.wf,trivial,trivial⟩ (by rw [show bn = !an by cases an <;> cases bn <;> simp_all]; cases an <;> kernel_rfl)
    · exact consF (binI (x:=M) (y:=a.s) rfl rfl rfl (run_subI (by rw [wrap64 _ (by omega) (by omega)]; omega))) (consF (binI (x:=M) (y:=b.s) rfl rfl rfl (run_subI (by rw [wrap64 _ (by omega) (by omega)]; omega))) nilF)
    · exact consF ⟨a.s,b.s,rfl,rfl,by show some (Value.int .i64 ((max a.s b.s:Nat):Int)) = _; congr 2; omega⟩ nilF
    · refine consF (mayE hA da (by omega)) (consF (mayE hB db (by omega)) (consF (shiftE hA.l rfl h5 (by omega) (by omega)) (consF (shiftE hB.l rfl h6 (by omega) (by omega)) ?_)))
      refine consF (cmpE h5 h6 (.val _) (by rw [show num (padZ a.l (M - a.s)) = A from hAe,show num (padZ b.l (M - b.s)) = B from hBe]; exact (by rw [show A = B by omega]; exact cmp3_eq _)) (padZ_dg da _) (padZ_dg db _) (by rw [padZ_len]; omega) (by rw [padZ_len]; omega)) (consF (ent_mk [lsA h5,lsA h6] (lsR h7.l) ?_) (consF (trimE h7 h9.g hr2 (digs_dg _) hlen (by show max a.s b.s ≤ 1000; omega)) nilF))
      rintro w _ ⟨v,_,rfl,hv,u,_,rfl,hu,rfl⟩
      have:=rfLess_any v u _ _ w hv hu (padZ_dg da _) (padZ_dg db _) (by rw [padZ_len]; omega) (by rw [padZ_len]; omega) (by rw [show num (padZ a.l (M - a.s)) = A from hAe,show num (padZ b.l (M - b.s)) = B from hBe]; omega)
      rw [show num (padZ a.l (M - a.s)) = A from hAe,show num (padZ b.l (M - b.s)) = B from hBe] at this
      exact this.mono (by rintro e w' ⟨sl,rfl,ho,hb⟩; exact ⟨_,rfl,⟨IsInts.of_own ho,own_far ho (Nat.le_refl _)⟩,hb⟩)
  refine (h.2 w (bas_under _ _ _) [dv v a,dv u b] ⟨_,_,rfl,hA.inn ha (fun _ _=>trivial),_,_,rfl,hB.inn hb (fun _ _=>trivial),rfl⟩).mono ?_
  rintro e w' ⟨x,rfl,⟨ys,rfl,p,_,rfl,hp,q,_,rfl,hq,rfl⟩,hbl⟩
  obtain ⟨sl,rfl,hi,hf⟩:=h9.g.out2 hp
  exact ⟨sl,by rw [show q = .int .i64 0 from hq],hi,hf,hbl⟩
theorem rdAdd_any (v u:Value) (a b:Dc) (w:World) (ha:IsInts w v a.l) (hb:IsInts w u b.l) (da:Dg a.l) (db:Dg b.l) (la:a.l.length ≤ 40) (lb:b.l.length ≤ 40) (sa:a.s ≤ 40) (sb:b.s ≤ 40) :
    Calls Tryz.prog 17 #[dv v a,dv u b] w fun e w'=>∃ sl,e = .returned (.tuple #[dv sl (addD a b), .int .i64 0])∧IsInts w' sl (addD a b).l∧From' w.heap.size sl (addD a b).l∧Below w.heap.size w w':=by
  by_cases h:a.neg = b.neg
  · exact rdAdd_same v u a b w ha hb da db la lb sa sb h
  · rcases Nat.lt_trichotomy (num (padZ a.l (max a.s b.s - a.s))) (num (padZ b.l (max a.s b.s - b.s))) with h2 | h2 | h2
    · exact rdAdd_less v u a b w ha hb da db la lb sa sb h h2
    · exact rdAdd_even v u a b w ha hb da db la lb sa sb h h2.symm
    · exact rdAdd_more v u a b w ha hb da db la lb sa sb h h2
end Go.Proofs.YteiomfgehlojeaaGreatDoor
end
section
namespace Go.Proofs.YteiomfgehlojeaaGreatDoor
open Go.RowKit Go.Sym
theorem rd_ints' {G:Nat→Prop} {w:World} {v:Value} {l:List Int} (h:IsInts w v l) (hG:0 < l.length→∀ g,v.ownBlock = some g→G g):Rd G w v (ints l):=by
  obtain ⟨A,c,rfl,h0,h1,h2⟩:=h
  refine ⟨A,c,by rw [ints_length],by rw [ints_length]; exact h0,h1,fun hp=>?_⟩
  rw [ints_length] at hp
  obtain ⟨b,off,rfl,hc⟩:=h2 hp
  refine ⟨b,off,rfl,hG hp b (by simp [Value.ownBlock]),fun j hj=>?_⟩
  rw [ints_length] at hj
  rw [hc j hj,ints_get l j hj]
section
variable {B:Base} {p q:Pat} {k:Nat} {d:Dc}
theorem to_ls' {G:Nat→Prop} {w:World} {l:List Int} (hL:HasL B k l) {x:Value} (h:IsInts w x l) (hG:0 < l.length→∀ g,x.ownBlock = some g→G g):IsP B G w (.ls k) x :=
  ⟨hL.1,by obtain ⟨A,c,rfl,_⟩:=h; rfl,_,hL.2,rd_ints' h hG⟩
theorem HasG.inn' {G:Nat→Prop} {w:World} (hD:HasG B p k q d) {v:Value} (h:IsInts w v d.l) (hG:0 < d.l.length→∀ g,v.ownBlock = some g→G g):IsP B G w (decG p k q) (dv v d) :=
  ⟨_,rfl,_,_,rfl,hD.n.inn rfl,_,_,rfl,to_ls' hD.l h hG,_,_,rfl,hD.s.inn rfl,rfl⟩
def deR' (h:HasG B p k q d):Ans B:=⟨decG p k q,fun N w x=>∃ v,x = dv v d∧IsInts w v d.l∧From' N v d.l,h.wf,fun _ _ x hx=>by obtain ⟨v,e,h1,h2⟩:=hx; rw [e]; exact h.inn' h1 h2⟩
def detR' (h:HasG B p k q d):Ans B:=⟨.tup [decG p k q, .val (.int .i64 0)],fun N w x=>∃ v,x = .tuple #[dv v d, .int .i64 0]∧IsInts w v d.l∧From' N v d.l,⟨h.wf,trivial,trivial⟩,fun _ _ x hx=>by obtain ⟨v,e,h1,h2⟩:=hx; rw [e]; exact ⟨_,rfl,_,_,rfl,h.inn' h1 h2,_,_,rfl,rfl,rfl⟩⟩
end
theorem neg_digs {a:Int} (h:a < 0):0 < (digs a.natAbs).length:=by
  rcases Nat.eq_zero_or_pos (digs a.natAbs).length with e | e
  · have:=num_digs a.natAbs
    rw [List.eq_nil_of_length_eq_zero e] at this
    simp [num] at this
    omega
  · exact e
theorem rnNear_any (v:Value) (d:Dc) (K:Nat) (w:World) (ha:IsInts w v d.l) (da:Dg d.l) (hl:d.l.length ≤ 40) (hs:d.s ≤ K) (hK:K ≤ 40) :
    Calls Tryz.prog 157 #[dv v d, .int .i64 K] w fun e w'=>∃ sl,e = .returned (dv sl (al K (atK K d)))∧IsInts w' sl (al K (atK K d)).l∧From' w.heap.size sl (al K (atK K d)).l∧Below w.heap.size w w':=by
  obtain ⟨t,ht⟩:∃ t,trimD d = t:=⟨_,rfl⟩
  have dt:Dg t.l:=by rw [← ht]; exact trimD_dg d da
  have lt:t.l.length ≤ 40:=by rw [← ht]; exact Nat.le_trans (trimD_len d) hl
  have st:t.s ≤ K:=by rw [← ht]; exact Nat.le_trans (trimD_s d) hs
  have hal:(⟨t.neg,trimL (padZ t.l (K - t.s)),K⟩:Dc) = al K (atK K d):=by rw [← alignD_at K d da hs,← ht]; rfl
  obtain ⟨r,hr⟩:∃ r,al K (atK K d) = r:=⟨_,rfl⟩
  have hng:t.neg = true→0 < (trimL (padZ t.l (K - t.s))).length:=by
    intro h
    have h1:(al K (atK K d)).neg = true:=by rw [← hal]; exact h
    have h2:atK K d < 0:=by simpa [al] using h1
    have h3:=congrArg Dc.l hal
    simp only [al] at h3
    rw [h3]
    exact neg_digs h2
  rw [hr] at hal ⊢
  have rl:trimL (padZ t.l (K - t.s)) = r.l:=congrArg Dc.l hal
  have rn:t.neg = r.neg:=(congrArg Dc.neg hal:_)
  have rs:K = r.s:=congrArg Dc.s hal
  rw [rl] at hng
  obtain ⟨tn,htn⟩:∃ q,t.neg = q:=⟨_,rfl⟩
  rw [htn] at hng rn
  let L:=dAl 1 d ++ [(200,Value.int .i64 K)] ++ lAl 3 t.l ++ [(28,Value.int .i64 t.s),(204,Value.int .i64 ((K - t.s:Nat):Int))] ++ lAl 5 (padZ t.l (K - t.s)) ++ lAl 6 r.l ++ [(208,Value.int .i64 (ints r.l).toArray.size)]
  have hA:HasD (bas w L) 1 d:=⟨⟨by decide,rfl⟩,rfl,rfl⟩
  have hT:HasG (bas w L) (.val (.bool tn)) 3 (.at_ 28) t:=⟨⟨by decide,rfl⟩,by rw [htn]; exact .val _, .atm rfl⟩
  have h5:HasL (bas w L) 5 (padZ t.l (K - t.s)):=⟨by decide,rfl⟩
  have h6:HasL (bas w L) 6 r.l:=⟨by decide,rfl⟩
  have hR:HasG (bas w L) (.val (.bool tn)) 6 (.at_ 200) r:=⟨h6,by rw [← rn]; exact .val _,by rw [← rs]; exact .atm rfl⟩
  have h:Ent2OK (bas w L) Tryz.prog ⟨157,[decP 1, .at_ 200],decG (.val (.bool tn)) 6 (.at_ 200)⟩:=by
    refine run_mk (by kernel_rfl) rfl (T:=tbL (⟨.sub, .atom 200, .atom 28, .atom 204⟩ :: if tn = true then [⟨.gtr, .atom 208, .lit (.int .i64 0), .lit (.bool true)⟩] else []) [] [] [⟨6, .atom 208⟩]) (tbL_ok (consF ?_ ?_) nilF nilF (consF ?_ nilF))
      (orc:=ent2A [⟨45,[decP 1],decG (.val (.bool tn)) 3 (.at_ 28)⟩,⟨48,[.ls 3, .at_ 204], .ls 5⟩,⟨82,[.ls 5], .ls 6⟩]) (ent2_ok ?_) ⟨hA.g.wf,⟨_,rfl⟩,trivial⟩ hR.wf (by cases tn <;> kernel_rfl)
    · exact binI (x:=K) (y:=t.s) rfl rfl rfl (run_subI (by rw [wrap64 _ (by omega) (by omega)]; omega))
    · split
      · next hh =>
        have:=hng hh
        exact consF (binI (x:=((ints r.l).toArray.size:Int)) (y:=0) rfl rfl rfl (run_gtrI (by simp [ints_length]; exact this))) nilF
      · exact nilF
    · exact ⟨_,rfl,rfl⟩
    · refine consF (trimE hA.g hT ht da (by omega) (by omega)) (consF (shiftE hT.l rfl h5 (by omega) (by omega)) (consF (ent_mk [lsA h5] (lsR h6) ?_) nilF))
      rintro w _ ⟨v,_,rfl,hv,rfl⟩
      have:=rfTrim_any v _ w hv (padZ_dg dt _) (by rw [padZ_len]; omega)
      rw [rl] at this
      exact this.mono (by rintro e w' ⟨sl,rfl,ho,hb⟩; exact ⟨_,rfl,⟨IsInts.of_own ho,own_far ho (Nat.le_refl _)⟩,hb⟩)
  refine (h.2 w (bas_under _ _ _) [dv v d, .int .i64 K] ⟨_,_,rfl,hA.g.inn ha (fun _ _=>trivial),_,_,rfl,⟨rfl,rfl⟩,rfl⟩).mono ?_
  rintro e w' ⟨x,rfl,hx,hb⟩
  obtain ⟨sl,rfl,hi,hf⟩:=hR.out2 hx
  exact ⟨sl,rfl,hi,hf,hb⟩
theorem trim_al (K:Nat) (a:Int):trimD (al K a) = cz K a:=rfl
theorem rnTo_any (v:Value) (d:Dc) (K m:Nat) (w:World) (ha:IsInts w v d.l) (da:Dg d.l) (hl:d.l.length ≤ 40) (hs:d.s ≤ K) (hK:K ≤ 40) (hm:m ≤ 6) (hb:(atK K d).natAbs < 10 ^ 40) :
    Calls Tryz.prog 79 #[dv v d, .int .i64 K, .int .i64 m] w fun e w'=>∃ sl,e = .returned (.tuple #[dv sl (al K (atK K d)), .int .i64 0])∧IsInts w' sl (al K (atK K d)).l∧From' w.heap.size sl (al K (atK K d)).l∧Below w.heap.size w w':=by
  obtain ⟨r,hr⟩:∃ r,al K (atK K d) = r:=⟨_,rfl⟩
  have dr:Dg r.l:=by rw [← hr]; exact al_dg _ _
  have lr:r.l.length ≤ 40:=by rw [← hr]; exact al_len _ _ _ hb
  have sr:r.s = K:=by rw [← hr]; rfl
  have hc:cmpD (trimD r) (trimD d) = 0:=by
    rw [← hr,trim_al,trimD_eq K d da hs,cmpD_cz,cmp3_eq]
  rw [hr]
  let L:=dAl 1 d ++ [(200,Value.int .i64 K),(204,Value.int .i64 m)] ++ dAl 3 r
  have hA:HasD (bas w L) 1 d:=⟨⟨by decide,rfl⟩,rfl,rfl⟩
  have hR:HasD (bas w L) 3 r:=⟨⟨by decide,rfl⟩,rfl,rfl⟩
  have h:Ent2OK (bas w L) Tryz.prog ⟨79,[decP 1, .at_ 200, .at_ 204], .tup [decP 3, .val (.int .i64 0)]⟩:=by
    refine run_mk (by kernel_rfl) rfl (T:=tbL [⟨.lss, .atom 204, .lit (.int .i64 0), .lit (.bool false)⟩,⟨.gtr, .atom 204, .lit (.int .i64 6), .lit (.bool false)⟩,⟨.lss, .atom 200, .lit (.int .i64 0), .lit (.bool false)⟩,⟨.gtr, .atom 200, .lit (.int .i64 1000), .lit (.bool false)⟩] [] [] []) (tbL_ok ?_ nilF nilF nilF)
      (orc:=ent2A [⟨46,[decP 1], .val (.bool true)⟩,⟨157,[decP 1, .at_ 200],decP 3⟩,⟨18,[decP 3,decP 1], .val (.int .i64 0)⟩]) (ent2_ok ?_) ⟨hA.g.wf,⟨_,rfl⟩,⟨_,rfl⟩,trivial⟩ ⟨hR.g.wf,trivial,trivial⟩ (by kernel_rfl)
    · exact consF (binI (x:=m) (y:=0) rfl rfl rfl (run_lssI (by simp))) (consF (binI (x:=m) (y:=6) rfl rfl rfl (run_gtrI (decide_eq_false (by omega)))) (consF (binI (x:=K) (y:=0) rfl rfl rfl (run_lssI (by simp))) (consF (binI (x:=K) (y:=1000) rfl rfl rfl (run_gtrI (decide_eq_false (by omega)))) nilF)))
    · refine consF (mayE hA.g da (by omega)) (consF (ent_mk [deA hA.g,scA (.atm (v:=.int .i64 K) rfl)] (deR' hR.g) ?_) (consF (ent_mk [deA hR.g,deA hA.g] (scR (.val (.int .i64 0)) rfl) ?_) nilF))
      · rintro w _ ⟨_,_,rfl,⟨v,rfl,hv⟩,_,_,rfl,rfl,rfl⟩
        have:=rnNear_any v d K w hv da hl hs hK
        rw [hr] at this
        exact this.mono (by rintro e w' ⟨sl,rfl,hi,hf,hb⟩; exact ⟨_,rfl,⟨_,rfl,hi,hf⟩,hb⟩)
      · rintro w _ ⟨_,_,rfl,⟨v,rfl,hv⟩,_,_,rfl,⟨u,rfl,hu⟩,rfl⟩
        have:=rdCompare_any v u r d w hv hu dr da lr hl (by omega) (by omega)
        rw [hc] at this
        exact this.mono (by rintro e w' ⟨rfl,hb⟩; exact ⟨_,rfl,rfl,hb⟩)
  refine (h.2 w (bas_under _ _ _) [dv v d, .int .i64 K, .int .i64 m] ⟨_,_,rfl,hA.g.inn ha (fun _ _=>trivial),_,_,rfl,⟨rfl,rfl⟩,_,_,rfl,⟨rfl,rfl⟩,rfl⟩).mono ?_
  rintro e w' ⟨x,rfl,⟨ys,rfl,p,_,rfl,hp,q,_,rfl,hq,rfl⟩,hbl⟩
  obtain ⟨sl,rfl,hi,hf⟩:=hR.g.out2 hp
  exact ⟨sl,by rw [show q = .int .i64 0 from hq],hi,hf,hbl⟩
end Go.Proofs.YteiomfgehlojeaaGreatDoor
end
section
namespace Go.Proofs.YteiomfgehlojeaaGreatDoor
open Go.RowKit
set_option maxRecDepth 100000 in
set_option maxHeartbeats 8000000 in
theorem rdParts_any (v:Value) (d:Dc) (w:World) (ha:IsInts w v d.l) (da:Dg d.l) (la:d.l.length ≤ 100) (hs:d.s ≤ 100) :
    Calls Tryz.prog 81 #[dv v d] w fun e w'=>∃ v1 v2,e = .returned (.tuple #[v1,v2])∧IsInts w' v1 (wholeD d)∧IsInts w' v2 (restD d)∧From w.heap.size v1∧From w.heap.size v2∧Below w.heap.size w w':=by
  obtain ⟨i0,hi,hz0,hz1,hz2⟩:=info_parts info_int
  obtain ⟨W1,hW1⟩:∃ W1,w.alloc (Obj.cells #[.bool d.neg,v, .int .i64 d.s] 26) = W1:=⟨_,rfl⟩
  have hs1:W1.heap.size = w.heap.size + 1:=by rw [← hW1]; simp
  have z1:Bq3 W1 w.heap.size (.bool d.neg) v (.int .i64 d.s):=by rw [← hW1]; exact Bq3.new _ _ _ _
  have hB1:Below w.heap.size w W1:=by rw [← hW1]; exact (Below.refl _ w).alloc (Nat.le_refl _) _
  have hI:=ha.below hB1 (Nat.le_refl _)
  obtain ⟨x,hx⟩:∃ x,wideL d.l d.s = x:=⟨_,rfl⟩
  have hxl:x.length = max d.l.length d.s:=by rw [← hx]; exact wideL_len _ _
  have dx:Dg x:=by rw [← hx]; exact (Dg.replicate _).append da
  unfold wholeD restD
  rw [hx]
  obtain ⟨n,l,s⟩:=d
  simp only [dv] at *
  obtain ⟨A,c,rfl⟩:=hI.form
  have HX:=Lib.hid (show List.replicate (s - l.length) 0 ++ l = x from hx)
  have HXL:=Lib.hid hxl
  have HE:=Lib.hid hW1
  have HB:=Lib.hid hB1
  have HI:=Lib.hid (fun W (hB:Below W1.heap.size W1 W)=>hI.below hB (Nat.le_refl _))
  have HZ:=Lib.hid (fun W (hB:Below W1.heap.size W1 W)=>(z1.below hB (by omega)).bx)
  obtain ⟨N,hN⟩:∃ N,l.length = N:=⟨_,rfl⟩
  have HN:=Lib.hid hN
  rw [hN] at la HI HX HXL HE HZ ⊢
  have q1:=z1.c1
  rw [hN] at q1
  have HT0:=fun W X (i:IsInts W X (x.take (x.length - s)))=>rfTrim_any X (x.take (x.length - s)) W i (dx.take _) (by simp; omega)
  obtain ⟨y,hy⟩:∃ y,trimL (x.take (x.length - s)) = y:=⟨_,rfl⟩
  obtain ⟨r,hr⟩:∃ r,x.drop (x.length - s) = r:=⟨_,rfl⟩
  rw [hy,hr]
  simp only [hy] at HT0
  have HT:=Lib.hid HT0
  have HRR:=Lib.hid hr
  clear hW1 z1 hB1 ha hI hx hxl dx da hN HT0 hy hr
  go_enter Tryz.func81,Tryz.ntmps81
  go_wp2_with fail
  rw [HE.out]
  go_wp2_with fail
  clear q1
  go_loopw [4,5] (fun v i wr=>∃ (k z:Nat) (pv:Value),pv = v∧i = .int .i64 k∧k ≤ 200∧z ≤ 100∧Aside (k = N + z∧(z = 0∨k ≤ s))∧Aside (wr.ownsRow W1.heap.size 3 1 v z (ints (List.replicate z 0))∧Below W1.heap.size W1 wr)) (fun _ i _=>s - (intOf i).toNat)
  case atStart=>exact ⟨N,0,_,rfl,rfl,by omega,by omega,⟨rfl, .inl rfl⟩,World.ownsRow_nil _ _ _ _,Below.refl _ _⟩
  case round =>
    obtain ⟨k,z,pv,rfl,rfl,hkb,hz,HK,HA⟩:=hrel
    have q:=HZ.out _ HA.out.2
    have q1:=q.c1
    have q2:=q.c2
    clear q
    by_cases hlt:k < s
    · clear q1
      go_wp2_with (first
        | (at_builtin
           refine wpList_append_own _ rfl _ _ 24 rfl W1.heap.size 3 i0 (.int .i64 0) 1 8 Tryz.underlying24 hi hz0 hz1 hz2 rfl (by decide) _ _ _ rfl (HA.out.1.alloc _) ⟨_,0,none⟩ 1 1 [.int .i64 0] rfl rfl (cell_one_new _ _ _) (fun x hx=>by simp at hx; subst hx; rfl) (by unfold maxLen; omega) (by omega) (by have:=HA.out.2.size; simp; omega) ?_
           intro v4 w4 hown4 hgrow4 hnil4
           have X4:Aside (w4.ownsRow W1.heap.size 3 1 v4 (z + 1) (ints (List.replicate (z + 1) 0))∧Below W1.heap.size W1 w4):=by
             refine ⟨by rw [List.replicate_succ',ints_append]; exact hown4,?_⟩
             exact (HA.out.2.alloc HA.out.2.size _).grown hgrow4 (by have:=HA.out.2.size; simp; omega) (fun j hj=>(HA.out.1.lt j hj).1)
           clear hown4 hgrow4 hnil4))
      go_roundw
      case rel=>exact ⟨k + 1,z + 1,_,rfl,by go_num,by omega,by have:=HK.out; omega,⟨by have:=HK.out; omega, .inr (by omega)⟩,X4.out⟩
      case measure=>simp [intOf]; omega
    · have hz2':=Lib.hid (show z = s - N by have:=HK.out; omega)
      have hge:s ≤ k:=by omega
      clear hlt
      have hi3:=Lib.hid (HI.out _ HA.out.2)
      have hcat:Hid (ints (List.replicate z 0) ++ ints l = ints x):=by show _ = _; rw [← ints_append,hz2'.out,HX.out]
      obtain ⟨M,hM⟩:∃ M,x.length = M:=⟨_,rfl⟩
      have HM:=Lib.hid hM
      obtain ⟨k1,hk1⟩:∃ k1,M - s = k1:=⟨_,rfl⟩
      have hMb:M ≤ 100∧s ≤ M:=by have:=HXL.out; omega
      have hw1:IntKind.i64.wrap ((M:Int) - (s:Int)) = (k1:Int):=by rw [wrap_in _ (by omega) (by omega)]; omega
      have HK1:=Lib.hid hk1
      have hxl:Hid (z + l.length = M):=by show _ = _; have:=hz2'.out; rw [HN.out,← HM.out,HXL.out]; omega
      clear hM hk1
      have hb0:=Lib.hid (show decide (k < s) = false from decide_eq_false (by omega))
      iterate 19 (first | go_values | go_skip | go_guarded | go_step | go_upon | go_back)
      rw [hb0.out]
      go_wp2_with (first
        | (at_builtin
           refine wpList_append_ints _ rfl _ _ 24 rfl W1.heap.size 3 i0 Tryz.underlying24 hi hz0 hz1 hz2 pv z (ints (List.replicate z 0)) (by simp [Act.eval,Act.put]) HA.out.1 (.slice A N c) l (by simp [Act.eval,Act.put]) hi3.out (by have:=HN.out; omega) HA.out.2.size ?_
           intro v4 w4 hown4 hgrow4
           have X4:Aside (w4.ownsRow W1.heap.size 3 1 v4 M (ints x)∧Below W1.heap.size W1 w4):=⟨by rw [← hcat.out,← hxl.out]; exact hown4,HA.out.2.grown hgrow4 HA.out.2.size (fun j hj=>(HA.out.1.lt j hj).1)⟩
           clear hown4 hgrow4
           obtain ⟨A4,c4,rfl⟩:=own_form X4.out.1
           have q4:=(HZ.out _ X4.out.2).c2))
      have i3:=IsInts.of_own (l:=x) (by rw [HM.out]; exact X4.out.1)
      have hcap:M ≤ c4∧c4 ≤ 9223372036854775807:=by
        obtain ⟨A',c',he,h0,h1,_⟩:=i3
        injection he with e1 e2 e3
        subst e3
        rw [HM.out] at h0
        exact ⟨h0,h1⟩
      have hk1M:k1 ≤ M:=by have:=HK1.out; omega
      have hkx:k1 ≤ x.length:=by rw [HM.out]; exact hk1M
      have j1:=Lib.hid (i3.take_ k1 hkx)
      have j2:=Lib.hid (i3.drop_ k1 hkx)
      have hkc:k1 ≤ c4:=by omega
      have hf3:=own_far X4.out.1 (Nat.le_refl _)
      have HT2:=HT
      rw [HM.out,HK1.out] at HT2
      have HR2:=HRR.out
      rw [HM.out,HK1.out] at HR2
      rw [HR2] at j2
      clear HR2
      clear q1 q2 hkx
      have hA:(∃ g,A4 = some ⟨g,0,none⟩)∨(A4 = none∧M = 0∧c4 = 0):=by
        rcases X4.out.1.2 with ⟨he,h0⟩ | ⟨g,cap,cur,he,_⟩
        · injection he with e1 e2 e3
          exact .inr ⟨e1,h0,e3⟩
        · injection he with e1 e2 e3
          exact .inl ⟨g,e1⟩
      have fin:Hid (∀ w5 v5,w5.ownsRow w4.heap.size 3 1 v5 y.length (ints y)→Below w4.drew.heap.size w4.drew w5→∀ V2,IsInts w4 V2 (r)→From W1.heap.size V2 →
          IsInts w5 v5 y∧IsInts w5 V2 (r)∧From w.heap.size v5∧From w.heap.size V2∧Below w.heap.size w w5):=by
        intro w5 v5 o5 b5 V2 iV fV
        have b5':Below w4.heap.size w4 w5:=⟨b5.os,b5.tape,b5.output,b5.size,b5.block⟩
        have bb:=HB.out.trans ((X4.out.2.trans (b5'.mono X4.out.2.size)).mono (by omega))
        refine ⟨IsInts.of_own o5,iV.below b5' (Nat.le_refl _),fun q hq=>?_,fun q hq=>?_,bb⟩
        · have:=(o5.lt q hq).1; have:=X4.out.2.size; omega
        · have:=fV q hq; omega
      rcases hA with ⟨g,rfl⟩ | ⟨rfl,hM0,hc0⟩
      · by_cases hck:c4 = k1
        · subst hck
          obtain rfl:M = c4:=by omega
          have j3:Hid (IsInts w4 (.slice (some ⟨g,0,none⟩) 0 0) r):=by
            have h:=j2.out
            simp only [if_true,HM.out,Nat.sub_self] at h
            exact h
          have f3:Hid (From W1.heap.size (.slice (some ⟨g,0,none⟩) 0 0)):=fun q hq=>hf3 q (by simpa [Value.ownBlock] using hq)
          go_wp2_with fail
          go_region_with (go_at_call 82; refine (HT2.out w4.drew _ (by have:=j1.out; exact this)).mono ?_; rintro e w5 ⟨v5,rfl,o5,b5⟩; obtain ⟨A5,c5,rfl⟩:=own_form o5)
          all_goals
            go_wp2
            go_ret2
            exact ⟨_,_,rfl,fin.out w5 _ o5 b5 _ j3.out f3.out⟩
        · have j3:Hid (IsInts w4 (.slice (some ⟨g,k1,none⟩) (M - k1) (c4 - k1)) r):=by
            have h:=j2.out
            rw [if_neg hck] at h
            simp only [Option.map,HM.out] at h
            have hadd:(⟨g,0,none⟩:Addr).add k1 = ⟨g,k1,none⟩:=by unfold Addr.add; split <;> simp_all
            rw [hadd] at h
            exact h
          have f3:Hid (From W1.heap.size (.slice (some ⟨g,k1,none⟩) (M - k1) (c4 - k1))):=fun q hq=>hf3 q (by simpa [Value.ownBlock] using hq)
          go_wp2_with fail
          go_region_with (go_at_call 82; refine (HT2.out w4.drew _ (by have:=j1.out; exact this)).mono ?_; rintro e w5 ⟨v5,rfl,o5,b5⟩; obtain ⟨A5,c5,rfl⟩:=own_form o5)
          all_goals
            go_wp2
            go_ret2
            exact ⟨_,_,rfl,fin.out w5 _ o5 b5 _ j3.out f3.out⟩
      · obtain rfl:c4 = k1:=by omega
        obtain rfl:M = c4:=by omega
        have HM0:=Lib.hid hM0
        clear hM0 hc0 hkc hcap
        have j3:Hid (IsInts w4 (.slice none 0 0) r):=by
          have hx0:x = []:=List.eq_nil_of_length_eq_zero (HM.out.trans HM0.out)
          rw [← HRR.out,hx0,List.drop_nil]
          exact IsInts.nil_ _ _ _ (by omega)
        have f3:Hid (From W1.heap.size (.slice none 0 0)):=fun q hq=>by simp [Value.ownBlock] at hq
        go_wp2_with fail
        go_region_with (go_at_call 82; refine (HT2.out w4.drew _ (by have:=j1.out; exact this)).mono ?_; rintro e w5 ⟨v5,rfl,o5,b5⟩; obtain ⟨A5,c5,rfl⟩:=own_form o5)
        all_goals
          go_wp2
          go_ret2
          exact ⟨_,_,rfl,fin.out w5 _ o5 b5 _ j3.out f3.out⟩
end Go.Proofs.YteiomfgehlojeaaGreatDoor
end
section
namespace Go.Proofs.YteiomfgehlojeaaGreatDoor
open Go.RowKit
def Bx4 (w:World) (t g:Nat) (a b c d:Value):Prop:=w.heap[g]? = some (.cells #[a,b,c,d] t (0,0))
section
variable {w w':World} {t g:Nat} {a b c d:Value}
theorem Bx4.c0 (h:Bx4 w t g a b c d):w.cell? ⟨g,0,none⟩ = some a:=by rw [cell_of_row w g 0 _ _ _ h]; rfl
theorem Bx4.c1 (h:Bx4 w t g a b c d):w.cell? ⟨g,1,none⟩ = some b:=by rw [cell_of_row w g 1 _ _ _ h]; rfl
theorem Bx4.c2 (h:Bx4 w t g a b c d):w.cell? ⟨g,2,none⟩ = some c:=by rw [cell_of_row w g 2 _ _ _ h]; rfl
theorem Bx4.c3 (h:Bx4 w t g a b c d):w.cell? ⟨g,3,none⟩ = some d:=by rw [cell_of_row w g 3 _ _ _ h]; rfl
theorem Bx4.fz (h:Bx4 w t g a b c d) (i:Nat):w.frozen? ⟨g,i,none⟩ = false:=frz_of_row h i
theorem Bx4.lt (h:Bx4 w t g a b c d):g < w.heap.size:=(Array.getElem?_eq_some_iff.1 h).1
theorem Bx4.keep (h:Bx4 w t g a b c d) (hk:w'.heap[g]? = w.heap[g]?):Bx4 w' t g a b c d:=hk.trans h
theorem Bx4.below {B:Nat} (h:Bx4 w t g a b c d) (hb:Below B w w') (hB:g < B):Bx4 w' t g a b c d:=(hb.block g hB).trans h
theorem Bx4.new (w:World) (t:Nat) (a b c d:Value):Bx4 (w.alloc (.cells #[a,b,c,d] t)) t w.heap.size a b c d:=heap_alloc_new w _
end
set_option maxRecDepth 100000 in
set_option maxHeartbeats 8000000 in
theorem rhDec_any (vi vf:Value) (d:Dr) (w:World) (h:DrOK w vi vf d) :
    Calls Tryz.prog 15 #[drv vi vf d] w fun e w'=>∃ sl,e = .returned (dv sl (trimD ⟨d.neg,d.int ++ d.frac,d.frac.length⟩))∧IsInts w' sl (trimD ⟨d.neg,d.int ++ d.frac,d.frac.length⟩).l∧From w.heap.size sl∧Below w.heap.size w w':=by
  obtain ⟨i0,hi,hz0,hz1,hz2⟩:=info_parts info_int
  obtain ⟨td,htd⟩:∃ td,trimD ⟨d.neg,d.int ++ d.frac,d.frac.length⟩ = td:=⟨_,rfl⟩
  rw [htd]
  obtain ⟨W2,hW2,s2,z1,z2,hB2⟩:∃ W2,(w.alloc (Obj.cells #[.bool d.neg,vi, .bool d.sep,vf] 32)).alloc (Obj.cells #[.bool false, .slice none 0 0, .int .i64 0] 26) = W2∧W2.heap.size = w.heap.size + 2 ∧
      Bx4 W2 32 w.heap.size (.bool d.neg) vi (.bool d.sep) vf∧Bq3 W2 (w.heap.size + 1) (.bool false) (.slice none 0 0) (.int .i64 0)∧Below w.heap.size w W2:=by
    refine ⟨_,rfl,by simp,(Bx4.new w _ _ _ _ _).keep (heap_alloc_old _ _ (by simp)),?_,((Below.refl _ w).alloc (Nat.le_refl _) _).alloc (by simp) _⟩
    have:=Bq3.new (w.alloc (Obj.cells #[.bool d.neg,vi, .bool d.sep,vf] 32)) (.bool false) (.slice none 0 0) (.int .i64 0)
    simpa using this
  obtain ⟨A1,c1,rfl⟩:=h.ii.form
  obtain ⟨A2,c2,rfl⟩:=h.jf.form
  have I1:=fun W (hB:Below W2.heap.size W2 W)=>(h.ii.below hB2 (Nat.le_refl _)).below hB (Nat.le_refl _)
  have I2:=fun W (hB:Below W2.heap.size W2 W)=>(h.jf.below hB2 (Nat.le_refl _)).below hB (Nat.le_refl _)
  have l1:=h.li
  have l2:=h.lf
  have hT:=fun W X (i:IsInts W X (d.int ++ d.frac))=>rdTrim_any X ⟨d.neg,d.int ++ d.frac,d.frac.length⟩ W i (h.di.append h.df) (by simp; omega) (by show d.frac.length ≤ 1000; omega)
  rw [htd] at hT
  obtain ⟨n,li,sp,lf⟩:=d
  simp only [drv,dv] at *
  have q1:=z1.c1
  obtain ⟨M,hM⟩:∃ M,(li ++ lf).length = M:=⟨_,rfl⟩
  have HM:=Lib.hid hM
  clear hM
  have HW:=Lib.hid hW2
  have HI1:=Lib.hid I1
  have HI2:=Lib.hid I2
  have HT:=Lib.hid hT
  have HZ:=Lib.hid (fun W (hB:Below W2.heap.size W2 W)=>And.intro (z1.below hB (by omega)) (z2.below hB (by omega)))
  have HB:=Lib.hid hB2
  clear hW2 I1 I2 hT z1 z2 hB2 h htd
  go_enter Tryz.func15,Tryz.ntmps15
  go_wp2_with (first
    | (at_builtin
       rw [HW.out]
       refine wpList_append_ints _ rfl _ _ 24 rfl W2.heap.size 3 i0 Tryz.underlying24 hi hz0 hz1 hz2 (.slice none 0 0) 0 [] (by simp [Act.eval,Act.put]) (World.ownsRow_nil _ _ _ _) (.slice A1 li.length c1) li (by simp [Act.eval,Act.put]) (HI1.out _ (Below.refl _ _)) (by omega) (Nat.le_refl _) ?_
       intro v3 w3 hown3 hgrow3
       have X3:Aside (w3.ownsRow W2.heap.size 3 1 v3 li.length (ints li)∧Below W2.heap.size W2 w3):=⟨by simpa using hown3,(Below.refl W2.heap.size W2).grown hgrow3 (Nat.le_refl _) (fun j hj=>by simp [Value.ownBlock] at hj)⟩
       clear hown3 hgrow3 q1
       have q3:=(HZ.out _ X3.out.2).1.c3)
    | (at_builtin
       refine wpList_append_ints _ rfl _ _ 24 rfl W2.heap.size 3 i0 Tryz.underlying24 hi hz0 hz1 hz2 v3 li.length (ints li) (by simp [Act.eval,Act.put]) X3.out.1 (.slice A2 lf.length c2) lf (by simp [Act.eval,Act.put]) (HI2.out _ X3.out.2) (by omega) X3.out.2.size ?_
       intro v4 w4 hown4 hgrow4
       have X4:Aside (w4.ownsRow W2.heap.size 3 1 v4 M (ints (li ++ lf))∧Below W2.heap.size W2 w4):=⟨by rw [← HM.out,List.length_append,ints_append]; exact hown4,X3.out.2.grown hgrow4 X3.out.2.size (fun j hj=>(X3.out.1.lt j hj).1)⟩
       clear hown4 hgrow4 q3
       obtain ⟨A4,c4,rfl⟩:=own_form X4.out.1
       have Z4:=(HZ.out _ X4.out.2).1
       have p0:=Z4.c0
       have p3:=Z4.c3
       clear Z4)
    | (go_at_call 45
       refine (HT.out w4 _ (IsInts.of_own (l:=li ++ lf) (by rw [HM.out]; exact X4.out.1))).mono ?_
       rintro e w5 ⟨v5,rfl,i5,f5,b5'⟩
       obtain ⟨A5,c5,rfl⟩:=i5.form
       have b5:=X4.out.2.trans (b5'.mono X4.out.2.size)
       have Z5:=(HZ.out _ b5).2
       have e0:=Z5.c0
       have e1:=Z5.c1
       have e2:=Z5.c2
       have ef:=Z5.fz
       have h4s:=X4.out.2.size))
  refine bodyPost_ret_by (results_cell_row (by rfl) _ _ (w.heap.size + 1) _ _ _ _ rfl (Z5.setAll _ _ _) Tryz.underlying26 rfl (by kernel_rfl)) rfl ?_
  refine ⟨.slice A5 td.l.length c5,rfl,?_,fun q hq=>?_,Below.set3 (HB.out.trans (b5.mono (by omega))) (by omega) _ _ _⟩
  · exact i5.set3 f5 (by omega) _ _ _
  · have:=f5 q hq
    omega
end Go.Proofs.YteiomfgehlojeaaGreatDoor
end
section
namespace Go.Proofs.YteiomfgehlojeaaGreatDoor
open Go.RowKit Go.Sym
theorem sv_at {B:Base} {i:Nat} {v:Value} (h:B.A i = some v) (h1:v.oneCell' = true):sv B (.atom i) = some v:=by simp [sv,h,h1]
def drG (p:Pat) (k:Nat) (q:Pat) (j:Nat):Pat:=.agg [p, .ls k,q, .ls j]
def drAl (k:Nat) (d:Dr):List (Nat × Value):=[(8 * k, .bool d.neg),(8 * k + 4, .bool d.sep),(4 * k + 2, .agg (ints d.int).toArray),(4 * k + 6, .agg (ints d.frac).toArray)]
structure HasR (B:Base) (p:Pat) (k:Nat) (q:Pat) (j:Nat) (d:Dr):Prop where
  l:HasL B k d.int
  r:HasL B j d.frac
  n:NP B p (.bool d.neg)
  s:NP B q (.bool d.sep)
section
variable {B:Base} {p q:Pat} {k j:Nat} {d:Dr}
theorem HasR.out {G:Nat→Prop} {w:World} (hD:HasR B p k q j d) {x:Value} (h:IsP B G w (drG p k q j) x):∃ vi vf,x = drv vi vf d∧IsInts w vi d.int∧IsInts w vf d.frac:=by
  obtain ⟨ys,rfl,y0,r0,rfl,a0,y1,r1,rfl,a1,y2,r2,rfl,a2,y3,r3,rfl,a3,rfl⟩:=h
  rw [hD.n.out a0,hD.s.out a2]
  exact ⟨y1,y3,rfl,isP_ls hD.l a1,isP_ls hD.r a3⟩
theorem ls_far {N k:Nat} {w:World} {x:Value} {l:List Int} (hL:HasL B k l) (a1:IsP B (fun g=>N ≤ g) w (.ls k) x):From' N x l:=by
  intro hl
  obtain ⟨_,_,gh,h1,h2⟩:=a1
  rw [hL.2] at h1
  injection h1 with h1
  subst h1
  exact from_rd h2 hl
theorem HasR.out2 {N:Nat} {w:World} (hD:HasR B p k q j d) {x:Value} (h:IsP B (fun g=>N ≤ g) w (drG p k q j) x):∃ vi vf,x = drv vi vf d∧IsInts w vi d.int∧IsInts w vf d.frac∧From' N vi d.int∧From' N vf d.frac:=by
  obtain ⟨ys,rfl,y0,r0,rfl,a0,y1,r1,rfl,a1,y2,r2,rfl,a2,y3,r3,rfl,a3,rfl⟩:=h
  rw [hD.n.out a0,hD.s.out a2]
  exact ⟨y1,y3,rfl,isP_ls hD.l a1,isP_ls hD.r a3,ls_far hD.l a1,ls_far hD.r a3⟩
theorem HasR.inn {G:Nat→Prop} {w:World} (hD:HasR B p k q j d) {vi vf:Value} (h1:IsInts w vi d.int) (h2:IsInts w vf d.frac) (g1:0 < d.int.length→∀ g,vi.ownBlock = some g→G g) (g2:0 < d.frac.length→∀ g,vf.ownBlock = some g→G g):IsP B G w (drG p k q j) (drv vi vf d) :=
  ⟨_,rfl,_,_,rfl,hD.n.inn rfl,_,_,rfl,to_ls' hD.l h1 g1,_,_,rfl,hD.s.inn rfl,_,_,rfl,to_ls' hD.r h2 g2,rfl⟩
theorem HasR.wf (hD:HasR B p k q j d):WfP B (drG p k q j):=⟨hD.n.wf,wf_ls hD.l,hD.s.wf,wf_ls hD.r,trivial⟩
def drA (h:HasR B p k q j d):Arg B:=⟨drG p k q j,fun w x=>∃ vi vf,x = drv vi vf d∧IsInts w vi d.int∧IsInts w vf d.frac,h.wf,fun _ _ _ hx=>h.out hx⟩
def drR (h:HasR B p k q j d):Ans B:=⟨drG p k q j,fun N w x=>∃ vi vf,x = drv vi vf d∧IsInts w vi d.int∧IsInts w vf d.frac∧From' N vi d.int∧From' N vf d.frac,h.wf,fun _ _ x hx=>by obtain ⟨v,u,e,h1,h2,h3,h4⟩:=hx; rw [e]; exact h.inn h1 h2 h3 h4⟩
def drtR (h:HasR B p k q j d):Ans B:=⟨.tup [drG p k q j, .val (.int .i64 0)],fun N w x=>∃ vi vf,x = .tuple #[drv vi vf d, .int .i64 0]∧IsInts w vi d.int∧IsInts w vf d.frac∧From' N vi d.int∧From' N vf d.frac,⟨h.wf,trivial,trivial⟩,fun _ _ x hx=>by obtain ⟨v,u,e,h1,h2,h3,h4⟩:=hx; rw [e]; exact ⟨_,rfl,_,_,rfl,h.inn h1 h2 h3 h4,_,_,rfl,rfl,rfl⟩⟩
end
def Rl.wv (R:Rl) (v1 v2 v3:Value):Rl:={ R with vlo:=v1,vhi:=v2,vst:=v3 }
structure RlNum (R:Rl):Prop where
  dlo:Dg R.lo.l
  dhi:Dg R.hi.l
  dst:Dg R.st.l
  llo:R.lo.l.length ≤ 40
  lhi:R.hi.l.length ≤ 40
  lst:R.st.l.length ≤ 40
  slo:R.lo.s ≤ 40
  shi:R.hi.s ≤ 40
  sst:R.st.s ≤ 40
  hsc:R.sc ≤ 40
  hmo:R.mo ≤ 6
  hlh:¬ 0 < cmpD (trimD R.lo) (trimD R.hi)
theorem RlNum.ok {R:Rl} (h:RlNum R) {w:World} {v1 v2 v3:Value} (h1:IsInts w v1 R.lo.l) (h2:IsInts w v2 R.hi.l) (h3:IsInts w v3 R.st.l):RlOK w (R.wv v1 v2 v3) :=
  ⟨h1,h2,h3,h.dlo,h.dhi,h.dst,h.llo,h.lhi,h.lst,h.slo,h.shi,h.sst,h.hsc,h.hmo,h.hlh⟩
theorem RlOK.num {w:World} {R:Rl} (h:RlOK w R):RlNum R:=⟨h.dlo,h.dhi,h.dst,h.llo,h.lhi,h.lst,h.slo,h.shi,h.sst,h.hsc,h.hmo,h.hlh⟩
def rlP (sg:Bool):Pat:=.agg [.at_ 8, .ls 1, .at_ 12, .at_ 16, .ls 2, .at_ 20, .at_ 24, .ls 3, .at_ 28, .val (.bool sg), .at_ 4004, .at_ 4008, .at_ 4012, .at_ 4016, .at_ 4020, .at_ 4024, .at_ 4028]
def rlAl (R:Rl):List (Nat × Value):=dAl 1 R.lo ++ dAl 2 R.hi ++ dAl 3 R.st ++ [(4004, .int .i64 R.ic),(4008, .int .i64 R.fc),(4012, .int .i64 R.sc),(4016, .int .i64 R.mi),(4020, .int .i64 R.mf),(4024, .int .i64 R.mo),(4028, .int .i64 R.hy)]
structure HasRl (B:Base) (R:Rl):Prop where
  lo:HasD B 1 R.lo
  hi:HasD B 2 R.hi
  st:HasD B 3 R.st
  ic:B.A 4004 = some (.int .i64 R.ic)
  fc:B.A 4008 = some (.int .i64 R.fc)
  sc:B.A 4012 = some (.int .i64 R.sc)
  mi:B.A 4016 = some (.int .i64 R.mi)
  mf:B.A 4020 = some (.int .i64 R.mf)
  mo:B.A 4024 = some (.int .i64 R.mo)
  hy:B.A 4028 = some (.int .i64 R.hy)
section
variable {B:Base} {R:Rl}
theorem HasRl.wf (h:HasRl B R):WfP B (rlP R.sg) :=
  ⟨⟨_,h.lo.2.1⟩,wf_ls h.lo.1,⟨_,h.lo.2.2⟩,⟨_,h.hi.2.1⟩,wf_ls h.hi.1,⟨_,h.hi.2.2⟩,⟨_,h.st.2.1⟩,wf_ls h.st.1,⟨_,h.st.2.2⟩,trivial,⟨_,h.ic⟩,⟨_,h.fc⟩,⟨_,h.sc⟩,⟨_,h.mi⟩,⟨_,h.mf⟩,⟨_,h.mo⟩,⟨_,h.hy⟩,trivial⟩
theorem HasRl.out {G:Nat→Prop} {w:World} (h:HasRl B R) {x:Value} (hx:IsP B G w (rlP R.sg) x):∃ v1 v2 v3,x = .agg (R.wv v1 v2 v3).cells∧IsInts w v1 R.lo.l∧IsInts w v2 R.hi.l∧IsInts w v3 R.st.l:=by
  obtain ⟨ys,rfl,y0,_,rfl,a0,y1,_,rfl,a1,y2,_,rfl,a2,y3,_,rfl,a3,y4,_,rfl,a4,y5,_,rfl,a5,y6,_,rfl,a6,y7,_,rfl,a7,y8,_,rfl,a8,y9,_,rfl,a9,y10,_,rfl,a10,y11,_,rfl,a11,y12,_,rfl,a12,y13,_,rfl,a13,y14,_,rfl,a14,y15,_,rfl,a15,y16,_,rfl,a16,rfl⟩:=hx
  rw [(NP.atm h.lo.2.1).out a0,(NP.atm h.lo.2.2).out a2,(NP.atm h.hi.2.1).out a3,(NP.atm h.hi.2.2).out a5,(NP.atm h.st.2.1).out a6,(NP.atm h.st.2.2).out a8,(NP.val _).out a9,(NP.atm h.ic).out a10,(NP.atm h.fc).out a11,(NP.atm h.sc).out a12,(NP.atm h.mi).out a13,(NP.atm h.mf).out a14,(NP.atm h.mo).out a15,(NP.atm h.hy).out a16]
  exact ⟨y1,y4,y7,rfl,isP_ls h.lo.1 a1,isP_ls h.hi.1 a4,isP_ls h.st.1 a7⟩
theorem HasRl.inn {G:Nat→Prop} {w:World} (h:HasRl B R) {v1 v2 v3:Value} (h1:IsInts w v1 R.lo.l) (h2:IsInts w v2 R.hi.l) (h3:IsInts w v3 R.st.l) (hG:∀ g,G g):IsP B G w (rlP R.sg) (.agg (R.wv v1 v2 v3).cells) :=
  ⟨_,rfl,_,_,rfl,(NP.atm h.lo.2.1).inn rfl,_,_,rfl,to_ls h.lo.1 h1 (fun _ _=>hG _),_,_,rfl,(NP.atm h.lo.2.2).inn rfl,_,_,rfl,(NP.atm h.hi.2.1).inn rfl,_,_,rfl,to_ls h.hi.1 h2 (fun _ _=>hG _),_,_,rfl,(NP.atm h.hi.2.2).inn rfl,_,_,rfl,(NP.atm h.st.2.1).inn rfl,_,_,rfl,to_ls h.st.1 h3 (fun _ _=>hG _),_,_,rfl,(NP.atm h.st.2.2).inn rfl,_,_,rfl,rfl,_,_,rfl,(NP.atm h.ic).inn rfl,_,_,rfl,(NP.atm h.fc).inn rfl,_,_,rfl,(NP.atm h.sc).inn rfl,_,_,rfl,(NP.atm h.mi).inn rfl,_,_,rfl,(NP.atm h.mf).inn rfl,_,_,rfl,(NP.atm h.mo).inn rfl,_,_,rfl,(NP.atm h.hy).inn rfl,rfl⟩
def rlA (h:HasRl B R):Arg B:=⟨rlP R.sg,fun w x=>∃ v1 v2 v3,x = .agg (R.wv v1 v2 v3).cells∧IsInts w v1 R.lo.l∧IsInts w v2 R.hi.l∧IsInts w v3 R.st.l,h.wf,fun _ _ _ hx=>h.out hx⟩
end
theorem rnClamp_any (v v1 v2:Value) (d lo hi:Dc) (w:World) (ha:IsInts w v d.l) (hb:IsInts w v1 lo.l) (hc:IsInts w v2 hi.l) (da:Dg d.l) (db:Dg lo.l) (dc:Dg hi.l)
    (la:d.l.length ≤ 40) (lb:lo.l.length ≤ 40) (lc:hi.l.length ≤ 40) (sa:d.s ≤ 40) (sb:lo.s ≤ 40) (sc:hi.s ≤ 40) (hlh:¬ 0 < cmpD (trimD lo) (trimD hi)) :
    Calls Tryz.prog 80 #[dv v d,dv v1 lo,dv v2 hi] w fun e w'=>∃ sl,e = .returned (.tuple #[dv sl (clampD d lo hi), .int .i64 0])∧IsInts w' sl (clampD d lo hi).l∧From' w.heap.size sl (clampD d lo hi).l∧Below w.heap.size w w':=by
  obtain ⟨c1,hc1⟩:∃ c,cmpD (trimD lo) (trimD hi) = c:=⟨_,rfl⟩
  obtain ⟨c2,hc2⟩:∃ c,cmpD (trimD d) (trimD lo) = c:=⟨_,rfl⟩
  obtain ⟨c3,hc3⟩:∃ c,cmpD (trimD d) (trimD hi) = c:=⟨_,rfl⟩
  obtain ⟨r,hr⟩:∃ r,clampD d lo hi = r:=⟨_,rfl⟩
  have hr1:c2 < 0→trimD lo = r:=fun h=>by rw [← hr]; unfold clampD; rw [hc2,if_pos h]
  have hr2:¬ c2 < 0→0 < c3→trimD hi = r:=fun h h'=>by rw [← hr]; unfold clampD; rw [hc2,hc3,if_neg h,if_pos h']
  have hr3:¬ c2 < 0→¬ 0 < c3→trimD d = r:=fun h h'=>by rw [← hr]; unfold clampD; rw [hc2,hc3,if_neg h,if_neg h']
  rw [hr]
  rw [hc1] at hlh
  let L:=dAl 1 d ++ dAl 2 lo ++ dAl 3 hi ++ dAl 4 r ++ [(200,Value.int .i64 c1),(204,Value.int .i64 c2),(208,Value.int .i64 c3)]
  have hA:HasD (bas w L) 1 d:=⟨⟨by decide,rfl⟩,rfl,rfl⟩
  have hL:HasD (bas w L) 2 lo:=⟨⟨by decide,rfl⟩,rfl,rfl⟩
  have hH:HasD (bas w L) 3 hi:=⟨⟨by decide,rfl⟩,rfl,rfl⟩
  have hR:HasD (bas w L) 4 r:=⟨⟨by decide,rfl⟩,rfl,rfl⟩
  have cE:∀ {k j i:Nat} {a b:Dc} {c:Int},HasD (bas w L) k a→HasD (bas w L) j b→(bas w L).A i = some (.int .i64 c)→cmpD (trimD a) (trimD b) = c→Dg a.l→Dg b.l→a.l.length ≤ 40→b.l.length ≤ 40→a.s ≤ 40→b.s ≤ 40→Ent2OK (bas w L) Tryz.prog ⟨18,[decP k,decP j], .at_ i⟩:=by
    intro k j i a b c h1 h2 h3 h4 h5 h6 h7 h8 h9 h10
    refine ent_mk [deA h1.g,deA h2.g] (scR (.atm h3) rfl) ?_
    rintro w _ ⟨_,_,rfl,⟨v,rfl,hv⟩,_,_,rfl,⟨u,rfl,hu⟩,rfl⟩
    have:=rdCompare_any v u a b w hv hu h5 h6 h7 h8 h9 h10
    rw [h4] at this
    exact this.mono (by rintro e w' ⟨rfl,hb⟩; exact ⟨_,rfl,rfl,hb⟩)
  have bI:∀ {op:BinOp} {i:Nat} {c:Int} {r:Bool},(bas w L).A i = some (.int .i64 c)→(∀ t ox oy w,(do eqGuard op t ox oy (.int .i64 c) (.int .i64 0); binOp op t (.int .i64 c) (.int .i64 0)).run Tryz.prog w = .ok (.bool r) w)→BinFOK Tryz.prog (bas w L) ⟨op, .atom i, .lit (.int .i64 0), .lit (.bool r)⟩:=fun h1 h2=>binI (y:=0) (sv_at h1 rfl) rfl rfl h2
  have h:Ent2OK (bas w L) Tryz.prog ⟨80,[decP 1,decP 2,decP 3], .tup [decP 4, .val (.int .i64 0)]⟩:=by
    by_cases x2:c2 < 0
    · refine run_mk (by kernel_rfl) rfl (T:=tbL [⟨.gtr, .atom 200, .lit (.int .i64 0), .lit (.bool false)⟩,⟨.lss, .atom 204, .lit (.int .i64 0), .lit (.bool true)⟩] [] [] []) (tbL_ok ?_ nilF nilF nilF)
        (orc:=ent2A [⟨46,[decP 1], .val (.bool true)⟩,⟨46,[decP 2], .val (.bool true)⟩,⟨46,[decP 3], .val (.bool true)⟩,⟨18,[decP 2,decP 3], .at_ 200⟩,⟨18,[decP 1,decP 2], .at_ 204⟩,⟨45,[decP 2],decP 4⟩]) (ent2_ok ?_) ⟨hA.g.wf,hL.g.wf,hH.g.wf,trivial⟩ ⟨hR.g.wf,trivial,trivial⟩ (by kernel_rfl)
      · exact consF (bI (c:=c1) rfl (run_gtrI (decide_eq_false hlh))) (consF (bI (c:=c2) rfl (run_lssI (decide_eq_true x2))) nilF)
      · exact consF (mayE hA.g da (by omega)) (consF (mayE hL.g db (by omega)) (consF (mayE hH.g dc (by omega)) (consF (cE hL hH rfl hc1 db dc lb lc sb sc) (consF (cE hA hL rfl hc2 da db la lb sa sb) (consF (trimE hL.g hR.g (hr1 x2) db (by omega) (by omega)) nilF)))))
    · by_cases x3:0 < c3
      · refine run_mk (by kernel_rfl) rfl (T:=tbL [⟨.gtr, .atom 200, .lit (.int .i64 0), .lit (.bool false)⟩,⟨.lss, .atom 204, .lit (.int .i64 0), .lit (.bool false)⟩,⟨.gtr, .atom 208, .lit (.int .i64 0), .lit (.bool true)⟩] [] [] []) (tbL_ok ?_ nilF nilF nilF)
          (orc:=ent2A [⟨46,[decP 1], .val (.bool true)⟩,⟨46,[decP 2], .val (.bool true)⟩,⟨46,[decP 3], .val (.bool true)⟩,⟨18,[decP 2,decP 3], .at_ 200⟩,⟨18,[decP 1,decP 2], .at_ 204⟩,⟨18,[decP 1,decP 3], .at_ 208⟩,⟨45,[decP 3],decP 4⟩]) (ent2_ok ?_) ⟨hA.g.wf,hL.g.wf,hH.g.wf,trivial⟩ ⟨hR.g.wf,trivial,trivial⟩ (by kernel_rfl)
        · exact consF (bI (c:=c1) rfl (run_gtrI (decide_eq_false hlh))) (consF (bI (c:=c2) rfl (run_lssI (decide_eq_false x2))) (consF (bI (c:=c3) rfl (run_gtrI (decide_eq_true x3))) nilF))
        · exact consF (mayE hA.g da (by omega)) (consF (mayE hL.g db (by omega)) (consF (mayE hH.g dc (by omega)) (consF (cE hL hH rfl hc1 db dc lb lc sb sc) (consF (cE hA hL rfl hc2 da db la lb sa sb) (consF (cE hA hH rfl hc3 da dc la lc sa sc) (consF (trimE hH.g hR.g (hr2 x2 x3) dc (by omega) (by omega)) nilF))))))
      · refine run_mk (by kernel_rfl) rfl (T:=tbL [⟨.gtr, .atom 200, .lit (.int .i64 0), .lit (.bool false)⟩,⟨.lss, .atom 204, .lit (.int .i64 0), .lit (.bool false)⟩,⟨.gtr, .atom 208, .lit (.int .i64 0), .lit (.bool false)⟩] [] [] []) (tbL_ok ?_ nilF nilF nilF)
          (orc:=ent2A [⟨46,[decP 1], .val (.bool true)⟩,⟨46,[decP 2], .val (.bool true)⟩,⟨46,[decP 3], .val (.bool true)⟩,⟨18,[decP 2,decP 3], .at_ 200⟩,⟨18,[decP 1,decP 2], .at_ 204⟩,⟨18,[decP 1,decP 3], .at_ 208⟩,⟨45,[decP 1],decP 4⟩]) (ent2_ok ?_) ⟨hA.g.wf,hL.g.wf,hH.g.wf,trivial⟩ ⟨hR.g.wf,trivial,trivial⟩ (by kernel_rfl)
        · exact consF (bI (c:=c1) rfl (run_gtrI (decide_eq_false hlh))) (consF (bI (c:=c2) rfl (run_lssI (decide_eq_false x2))) (consF (bI (c:=c3) rfl (run_gtrI (decide_eq_false x3))) nilF))
        · exact consF (mayE hA.g da (by omega)) (consF (mayE hL.g db (by omega)) (consF (mayE hH.g dc (by omega)) (consF (cE hL hH rfl hc1 db dc lb lc sb sc) (consF (cE hA hL rfl hc2 da db la lb sa sb) (consF (cE hA hH rfl hc3 da dc la lc sa sc) (consF (trimE hA.g hR.g (hr3 x2 x3) da (by omega) (by omega)) nilF))))))
  refine (h.2 w (bas_under _ _ _) [dv v d,dv v1 lo,dv v2 hi] ⟨_,_,rfl,hA.g.inn ha (fun _ _=>trivial),_,_,rfl,hL.g.inn hb (fun _ _=>trivial),_,_,rfl,hH.g.inn hc (fun _ _=>trivial),rfl⟩).mono ?_
  rintro e w' ⟨x,rfl,⟨ys,rfl,p,_,rfl,hp,q,_,rfl,hq,rfl⟩,hbl⟩
  obtain ⟨sl,rfl,hi,hf⟩:=hR.g.out2 hp
  exact ⟨sl,by rw [show q = .int .i64 0 from hq],hi,hf,hbl⟩
theorem rvValue_any (v:Value) (R:Rl) (d:Dc) (w:World) (hR:RlOK w R) (ha:IsInts w v d.l) (da:Dg d.l) (la:d.l.length ≤ 40) (hs:d.s ≤ R.sc) (hb:(atK R.sc d).natAbs < 10 ^ 40) :
    Calls Tryz.prog 43 #[.agg R.cells,dv v d] w fun e w'=>∃ sl,e = .returned (.tuple #[dv sl (clampD (al R.sc (atK R.sc d)) R.lo R.hi), .int .i64 0])∧IsInts w' sl (clampD (al R.sc (atK R.sc d)) R.lo R.hi).l∧From' w.heap.size sl (clampD (al R.sc (atK R.sc d)) R.lo R.hi).l∧Below w.heap.size w w':=by
  have hsc:=hR.hsc
  have hmo:=hR.hmo
  have N:=hR.num
  obtain ⟨r,hr⟩:∃ r,al R.sc (atK R.sc d) = r:=⟨_,rfl⟩
  have dr:Dg r.l:=by rw [← hr]; exact al_dg _ _
  have lr:r.l.length ≤ 40:=by rw [← hr]; exact al_len _ _ _ hb
  have sr:r.s = R.sc:=by rw [← hr]; rfl
  rw [hr]
  obtain ⟨z,hz⟩:∃ z,clampD r R.lo R.hi = z:=⟨_,rfl⟩
  rw [hz]
  let L:=rlAl R ++ dAl 4 d ++ dAl 5 r ++ dAl 6 z
  have hRl:HasRl (bas w L) R:=⟨⟨⟨by decide,rfl⟩,rfl,rfl⟩,⟨⟨by decide,rfl⟩,rfl,rfl⟩,⟨⟨by decide,rfl⟩,rfl,rfl⟩,rfl,rfl,rfl,rfl,rfl,rfl,rfl⟩
  have hA:HasD (bas w L) 4 d:=⟨⟨by decide,rfl⟩,rfl,rfl⟩
  have h5:HasD (bas w L) 5 r:=⟨⟨by decide,rfl⟩,rfl,rfl⟩
  have h6:HasD (bas w L) 6 z:=⟨⟨by decide,rfl⟩,rfl,rfl⟩
  have h:Ent2OK (bas w L) Tryz.prog ⟨43,[rlP R.sg,decP 4], .tup [decP 6, .val (.int .i64 0)]⟩:=by
    refine run_mk (by kernel_rfl) rfl (T:=tbL [] [] [] []) (tbL_ok nilF nilF nilF nilF)
      (orc:=ent2A [⟨79,[decP 4, .at_ 4012, .at_ 4024], .tup [decP 5, .val (.int .i64 0)]⟩,⟨80,[decP 5,decP 1,decP 2], .tup [decP 6, .val (.int .i64 0)]⟩]) (ent2_ok ?_) ⟨hRl.wf,hA.g.wf,trivial⟩ ⟨h6.g.wf,trivial,trivial⟩ (by generalize R.sg = sg; cases sg <;> kernel_rfl)
    refine consF (ent_mk [deA hA.g,scA (.atm hRl.sc),scA (.atm hRl.mo)] (detR' h5.g) ?_) (consF (ent_mk [deA h5.g,deA hRl.lo.g,deA hRl.hi.g] (detR' h6.g) ?_) nilF)
    · rintro w _ ⟨_,_,rfl,⟨v,rfl,hv⟩,_,_,rfl,rfl,_,_,rfl,rfl,rfl⟩
      have:=rnTo_any v d R.sc R.mo w hv da la hs hsc hmo hb
      rw [hr] at this
      exact this.mono (by rintro e w' ⟨sl,rfl,hi,hf,hb⟩; exact ⟨_,rfl,⟨_,rfl,hi,hf⟩,hb⟩)
    · rintro w _ ⟨_,_,rfl,⟨v,rfl,hv⟩,_,_,rfl,⟨v1,rfl,hv1⟩,_,_,rfl,⟨v2,rfl,hv2⟩,rfl⟩
      have:=rnClamp_any v v1 v2 r R.lo R.hi w hv hv1 hv2 dr N.dlo N.dhi lr N.llo N.lhi (by omega) N.slo N.shi N.hlh
      rw [hz] at this
      exact this.mono (by rintro e w' ⟨sl,rfl,hi,hf,hb⟩; exact ⟨_,rfl,⟨_,rfl,hi,hf⟩,hb⟩)
  refine (h.2 w (bas_under _ _ _) [.agg R.cells,dv v d] ⟨_,_,rfl,hRl.inn hR.ilo hR.ihi hR.ist (fun _=>trivial),_,_,rfl,hA.g.inn ha (fun _ _=>trivial),rfl⟩).mono ?_
  rintro e w' ⟨x,rfl,⟨ys,rfl,p,_,rfl,hp,q,_,rfl,hq,rfl⟩,hbl⟩
  obtain ⟨sl,rfl,hi,hf⟩:=h6.g.out2 hp
  exact ⟨sl,by rw [show q = .int .i64 0 from hq],hi,hf,hbl⟩
end Go.Proofs.YteiomfgehlojeaaGreatDoor
end
section
namespace Go.Proofs.YteiomfgehlojeaaGreatDoor
open Go.RowKit
def goodL (l:List Int) (m:Nat):List Int:=(l.take m).map (aroundI · 10)
theorem goodL_len (l:List Int) (m:Nat):(goodL l m).length = min m l.length:=by simp [goodL]
theorem goodL_dg (l:List Int) (m:Nat):Dg (goodL l m):=by
  intro x hx
  obtain ⟨y,_,rfl⟩:=List.mem_map.1 hx
  have:=aroundI_bd y 10 (by omega)
  omega
theorem goodL_succ (l:List Int) (k:Nat) (h:k < l.length):goodL l (k + 1) = goodL l k ++ [aroundI (l.getD k 0) 10]:=by
  unfold goodL
  rw [List.take_succ_eq_append_getElem h,List.map_append]
  simp [List.getD_eq_getElem?_getD,h]
set_option maxRecDepth 100000 in
set_option maxHeartbeats 4000000 in
theorem rfGood_any (v:Value) (l:List Int) (m:Nat) (w:World) (h:IsInts w v l) (hb:∀ x ∈ l,-9223372036854775808 ≤ x∧x ≤ 9223372036854775807) (hm:m ≤ 1000) :
    Calls Tryz.prog 29 #[v, .int .i64 m] w fun e w'=>∃ v',e = .returned v'∧w'.ownsRow w.heap.size 3 1 v' (goodL l m).length (ints (goodL l m))∧Below w.heap.size w w':=by
  obtain ⟨i0,hi,hz0,hz1,hz2⟩:=info_parts info_int
  obtain ⟨A,c,rfl⟩:=h.form
  have HI:=Lib.hid (fun W (hB:Below w.heap.size w W)=>h.below hB (Nat.le_refl _))
  have HX:=Lib.hid (fun k=>show -9223372036854775808 ≤ l.getD k 0∧l.getD k 0 ≤ 9223372036854775807 by
    by_cases hk:k < l.length
    · have:=hb (l[k]) (List.getElem_mem hk)
      simpa [List.getD_eq_getElem?_getD,List.getElem?_eq_getElem hk] using this
    · simp [List.getD_eq_getElem?_getD,List.getElem?_eq_none (Nat.le_of_not_lt hk)])
  obtain ⟨G,hG⟩:∃ G,goodL l m = G:=⟨_,rfl⟩
  rw [hG]
  have HG:=Lib.hid hG
  have HS:=Lib.hid (goodL_succ l)
  have HL:=Lib.hid (goodL_len l)
  have HE:=Lib.hid (fun k (h1:k ≤ m) (h2:k ≤ l.length) (h3:¬ (k < l.length∧k < m))=>show goodL l k = goodL l m by
    unfold goodL
    by_cases hk:k < m
    · rw [List.take_of_length_le (show l.length ≤ k by omega),List.take_of_length_le (show l.length ≤ m by omega)]
    · rw [show k = m by omega])
  obtain ⟨N,hN⟩:∃ N,l.length = N:=⟨_,rfl⟩
  rw [hN] at HI HS HL HE ⊢
  clear h hb hG hN
  go_enter Tryz.func29,Tryz.ntmps29
  go_wp2
  go_loopw [5,6] (fun v i wr=>∃ (k:Nat) (pv:Value),pv = v∧i = .int .i64 k∧k ≤ N∧k ≤ m∧Aside (wr.ownsRow w.heap.size 3 1 pv (goodL l k).length (ints (goodL l k))∧Below w.heap.size w wr)) (fun _ i _=>N - (intOf i).toNat)
  case atStart=>exact ⟨0,_,rfl,rfl,Nat.zero_le _,Nat.zero_le _,World.ownsRow_nil _ _ _ _,Below.refl _ _⟩
  case round =>
    obtain ⟨k,pv,rfl,rfl,hk1,hk2,HA⟩:=hrel
    by_cases hlt1:k < N
    · by_cases hlt2:k < m
      · obtain ⟨A',c',he,_,_,hcell⟩:=HI.out _ HA.out.2
        injection he with e1 e2 e3
        subst e1; subst e3
        rw [← e2] at hcell
        have E2:=Lib.hid e2
        clear e2
        obtain ⟨b,off,rfl,hc⟩:=hcell (by omega)
        have c1:=hc k (by omega)
        have hx:=HX.out k
        obtain ⟨x,hxe⟩:∃ x,l.getD k 0 = x:=⟨_,rfl⟩
        rw [hxe] at c1 hx
        have hsu:=HS.out k (by omega)
        rw [hxe] at hsu
        have HSU:=Lib.hid hsu
        have HAr:=Lib.hid (fun W=>around_any x 10 W hx.1 hx.2 (by omega) (by omega))
        obtain ⟨y,hy⟩:∃ y,aroundI x 10 = y:=⟨_,rfl⟩
        rw [hy] at HSU HAr
        have hlen:Hid ((goodL l k).length + 1 ≤ 100000):=by show _ ≤ _; rw [HL.out]; omega
        clear hc hcell hxe hsu hy hx
        go_wp2_with (first
          | (go_at_call 12; refine (HAr.out _).mono ?_; rintro e w2 ⟨rfl,rfl⟩)
          | (at_builtin
             refine wpList_append_own _ rfl _ _ 24 rfl w.heap.size 3 i0 (.int .i64 0) 1 8 Tryz.underlying24 hi hz0 hz1 hz2 rfl (by decide) pv (goodL l k).length (ints (goodL l k)) (by simp [Act.eval,Act.put]) (HA.out.1.alloc _) ⟨_,0,none⟩ 1 1 [.int .i64 y] rfl rfl (cell_one_new _ _ _) (fun x hx=>by simp at hx; subst hx; rfl) (by have:=hlen.out; unfold maxLen; omega) (by have:=hlen.out; omega) (by have:=HA.out.2.size; simp; omega) ?_
             intro v4 w4 hown4 hgrow4 hnil4
             have X4:Aside (w4.ownsRow w.heap.size 3 1 v4 (goodL l (k + 1)).length (ints (goodL l (k + 1)))∧Below w.heap.size w w4):=by
               refine ⟨by rw [HSU.out,List.length_append,ints_append]; exact hown4,?_⟩
               exact (HA.out.2.alloc HA.out.2.size _).grown hgrow4 (by have:=HA.out.2.size; simp; omega) (fun j hj=>(HA.out.1.lt j hj).1)
             clear hown4 hgrow4 hnil4))
        go_roundw
        case rel=>exact ⟨k + 1,_,rfl,by go_num,by omega,by omega,X4.out⟩
        case measure=>simp [intOf]; omega
      · have he:=Lib.hid (HE.out k (by omega) (by omega) (by omega))
        go_wp2
        go_ret
        exact ⟨_,rfl,by rw [← HG.out,← he.out]; exact HA.out.1,HA.out.2⟩
    · have he:=Lib.hid (HE.out k (by omega) (by omega) (by omega))
      go_wp2
      go_ret
      exact ⟨_,rfl,by rw [← HG.out,← he.out]; exact HA.out.1,HA.out.2⟩
end Go.Proofs.YteiomfgehlojeaaGreatDoor
end
section
namespace Go.Proofs.YteiomfgehlojeaaGreatDoor
open Go.RowKit Go.Sym
theorem rdSame_eq (v u:Value) (d:Dc) (w:World) (ha:IsInts w v d.l) (hb:IsInts w u d.l) (hl:d.l.length ≤ 1000) :
    Calls Tryz.prog 20 #[dv v d,dv u d] w fun e w'=>e = .returned (.bool true)∧Below w.heap.size w w':=by
  obtain ⟨n,hn⟩:∃ q,d.neg = q:=⟨_,rfl⟩
  let L:=lAl 1 d.l ++ [(12,Value.int .i64 d.s)]
  have hA:HasG (bas w L) (.val (.bool n)) 1 (.at_ 12) d:=⟨⟨by decide,rfl⟩,by rw [hn]; exact .val _, .atm rfl⟩
  have h:Ent2OK (bas w L) Tryz.prog ⟨20,[decG (.val (.bool n)) 1 (.at_ 12),decG (.val (.bool n)) 1 (.at_ 12)], .val (.bool true)⟩:=by
    refine run_mk (by kernel_rfl) rfl (T:=tbL [⟨.eql, .atom 12, .atom 12, .lit (.bool true)⟩] [] [] []) (tbL_ok ?_ nilF nilF nilF)
      (orc:=ent2A [⟨53,[.ls 1, .ls 1], .val (.bool true)⟩]) (ent2_ok ?_) ⟨hA.wf,hA.wf,trivial⟩ trivial (by cases n <;> kernel_rfl)
    · exact consF (binI (x:=d.s) (y:=d.s) rfl rfl rfl (run_eqlI (by simp))) nilF
    · refine consF (ent_mk [lsA hA.l,lsA hA.l] (scR (.val (.bool true)) rfl) ?_) nilF
      rintro w _ ⟨v,_,rfl,hv,u,_,rfl,hu,rfl⟩
      refine (same_any d.l d.l v u w hv hu (by omega) (by omega)).mono ?_
      rintro e w' ⟨rfl,n,rfl⟩
      exact ⟨_,rfl,(by show Value.bool (decide (d.l = d.l)) = _; simp),⟨rfl,rfl,rfl,Nat.le_refl _,fun _ _=>rfl⟩⟩
  refine (h.2 w (bas_under _ _ _) [dv v d,dv u d] ⟨_,_,rfl,hA.inn ha (fun _ _=>trivial),_,_,rfl,hA.inn hb (fun _ _=>trivial),rfl⟩).mono ?_
  rintro e w' ⟨x,rfl,hx,hb⟩
  exact ⟨by rw [show x = .bool true from hx],hb⟩
theorem rhMay_any (vi vf:Value) (d:Dr) (w:World) (h:DrOK w vi vf d) :
    Calls Tryz.prog 42 #[drv vi vf d] w fun e w'=>e = .returned (.bool true)∧Below w.heap.size w w':=by
  obtain ⟨s,hs⟩:∃ q,d.sep = q:=⟨_,rfl⟩
  have hz:s = false→(ints d.frac).toArray.size = 0:=fun e=>by
    have:=h.sp
    rw [hs,e] at this
    have:d.frac = []:=by simpa using this
    simp [this,ints]
  let L:=lAl 1 d.int ++ lAl 2 d.frac ++ [(200,Value.bool d.neg)]
  have hA:HasR (bas w L) (.at_ 200) 1 (.val (.bool s)) 2 d:=⟨⟨by decide,rfl⟩,⟨by decide,rfl⟩, .atm rfl,by rw [hs]; exact .val _⟩
  have h':Ent2OK (bas w L) Tryz.prog ⟨42,[drG (.at_ 200) 1 (.val (.bool s)) 2], .val (.bool true)⟩:=by
    refine run_mk (by kernel_rfl) rfl (T:=tbL [] [] [] (if s = false then [⟨2, .lit (.int .i64 0)⟩] else [])) (tbL_ok nilF nilF nilF ?_)
      (orc:=ent2A [⟨78,[.ls 1], .val (.bool true)⟩,⟨78,[.ls 2], .val (.bool true)⟩]) (ent2_ok ?_) ⟨hA.wf,trivial⟩ trivial (by cases s <;> kernel_rfl)
    · split
      · next hh=>exact consF ⟨_,hA.r.2,by rw [hz hh]; rfl⟩ nilF
      · exact nilF
    · refine consF (ent_mk [lsA hA.l] (scR (.val (.bool true)) rfl) ?_) (consF (ent_mk [lsA hA.r] (scR (.val (.bool true)) rfl) ?_) nilF)
      · rintro w _ ⟨v,_,rfl,hv,rfl⟩
        exact (rfMay_any v _ w hv h.di).mono (by rintro e w' ⟨rfl,rfl⟩; exact ⟨_,rfl,rfl,Below.refl _ _⟩)
      · rintro w _ ⟨v,_,rfl,hv,rfl⟩
        exact (rfMay_any v _ w hv h.df).mono (by rintro e w' ⟨rfl,rfl⟩; exact ⟨_,rfl,rfl,Below.refl _ _⟩)
  refine (h'.2 w (bas_under _ _ _) [drv vi vf d] ⟨_,_,rfl,hA.inn h.ii h.jf (fun _ _ _=>trivial) (fun _ _ _=>trivial),rfl⟩).mono ?_
  rintro e w' ⟨x,rfl,hx,hb⟩
  exact ⟨by rw [show x = .bool true from hx],hb⟩
def goodDr (d:Dr) (m k:Nat):Dr:=⟨d.neg,goodL d.int m,d.sep,if d.sep = true then goodL d.frac k else []⟩
theorem rhGood_any (vi vf:Value) (d:Dr) (m k:Nat) (w:World) (h1:IsInts w vi d.int) (h2:IsInts w vf d.frac) (b1:∀ x ∈ d.int,-9223372036854775808 ≤ x∧x ≤ 9223372036854775807) (b2:∀ x ∈ d.frac,-9223372036854775808 ≤ x∧x ≤ 9223372036854775807) (hm:m ≤ 1000) (hk:k ≤ 1000) :
    Calls Tryz.prog 8 #[drv vi vf d, .int .i64 m, .int .i64 k] w fun e w'=>∃ vi' vf',e = .returned (drv vi' vf' (goodDr d m k))∧IsInts w' vi' (goodDr d m k).int∧IsInts w' vf' (goodDr d m k).frac∧From' w.heap.size vi' (goodDr d m k).int∧From' w.heap.size vf' (goodDr d m k).frac∧Below w.heap.size w w':=by
  cases hs:d.sep
  · let L:=lAl 1 d.int ++ lAl 2 d.frac ++ [(200,Value.bool d.neg),(204,Value.int .i64 m),(208,Value.int .i64 k)] ++ lAl 3 (goodL d.int m)
    have hA:HasR (bas w L) (.at_ 200) 1 (.val (.bool false)) 2 d:=⟨⟨by decide,rfl⟩,⟨by decide,rfl⟩, .atm rfl,by rw [hs]; exact .val _⟩
    have h3:HasL (bas w L) 3 (goodL d.int m):=⟨by decide,rfl⟩
    have h':Ent2OK (bas w L) Tryz.prog ⟨8,[drG (.at_ 200) 1 (.val (.bool false)) 2, .at_ 204, .at_ 208], .agg [.at_ 200, .ls 3, .val (.bool false), .val (.slice none 0 0)]⟩:=by
      refine run_mk (by kernel_rfl) rfl (T:=tbL [] [] [] []) (tbL_ok nilF nilF nilF nilF)
        (orc:=ent2A [⟨29,[.ls 1, .at_ 204], .ls 3⟩]) (ent2_ok ?_) ⟨hA.wf,⟨_,rfl⟩,⟨_,rfl⟩,trivial⟩ ⟨⟨_,rfl⟩,wf_ls h3,trivial,trivial,trivial⟩ (by kernel_rfl)
      refine consF (ent_mk [lsA hA.l,scA (.atm (v:=.int .i64 m) rfl)] (lsR h3) ?_) nilF
      rintro w _ ⟨v,_,rfl,hv,_,_,rfl,rfl,rfl⟩
      exact (rfGood_any v _ m w hv b1 hm).mono (by rintro e w' ⟨sl,rfl,ho,hb⟩; exact ⟨_,rfl,⟨IsInts.of_own ho,own_far ho (Nat.le_refl _)⟩,hb⟩)
    refine (h'.2 w (bas_under _ _ _) [drv vi vf d, .int .i64 m, .int .i64 k] ⟨_,_,rfl,hA.inn h1 h2 (fun _ _ _=>trivial) (fun _ _ _=>trivial),_,_,rfl,⟨rfl,rfl⟩,_,_,rfl,⟨rfl,rfl⟩,rfl⟩).mono ?_
    rintro e w' ⟨x,rfl,⟨ys,rfl,y0,_,rfl,a0,y1,_,rfl,a1,y2,_,rfl,a2,y3,_,rfl,a3,rfl⟩,hb⟩
    have hg:goodDr d m k = ⟨d.neg,goodL d.int m,false,[]⟩:=by unfold goodDr; rw [hs]; rfl
    rw [hg]
    refine ⟨y1,y3,?_,isP_ls h3 a1,by rw [show y3 = .slice none 0 0 from a3]; exact IsInts.nil_ _ _ _ (by omega),ls_far h3 a1,(fun h=>absurd h (Nat.lt_irrefl _)),hb⟩
    rw [(NP.atm (v:=.bool d.neg) rfl).out a0,show y2 = .bool false from a2]
    rfl
  · let L:=lAl 1 d.int ++ lAl 2 d.frac ++ [(200,Value.bool d.neg),(204,Value.int .i64 m),(208,Value.int .i64 k)] ++ lAl 3 (goodL d.int m) ++ lAl 4 (goodL d.frac k)
    have hA:HasR (bas w L) (.at_ 200) 1 (.val (.bool true)) 2 d:=⟨⟨by decide,rfl⟩,⟨by decide,rfl⟩, .atm rfl,by rw [hs]; exact .val _⟩
    have h3:HasL (bas w L) 3 (goodL d.int m):=⟨by decide,rfl⟩
    have h4:HasL (bas w L) 4 (goodL d.frac k):=⟨by decide,rfl⟩
    have hg:goodDr d m k = ⟨d.neg,goodL d.int m,true,goodL d.frac k⟩:=by unfold goodDr; rw [hs]; rfl
    rw [hg]
    have hR:HasR (bas w L) (.at_ 200) 3 (.val (.bool true)) 4 ⟨d.neg,goodL d.int m,true,goodL d.frac k⟩:=⟨h3,h4, .atm rfl, .val _⟩
    have h':Ent2OK (bas w L) Tryz.prog ⟨8,[drG (.at_ 200) 1 (.val (.bool true)) 2, .at_ 204, .at_ 208],drG (.at_ 200) 3 (.val (.bool true)) 4⟩:=by
      refine run_mk (by kernel_rfl) rfl (T:=tbL [] [] [] []) (tbL_ok nilF nilF nilF nilF)
        (orc:=ent2A [⟨29,[.ls 1, .at_ 204], .ls 3⟩,⟨29,[.ls 2, .at_ 208], .ls 4⟩]) (ent2_ok ?_) ⟨hA.wf,⟨_,rfl⟩,⟨_,rfl⟩,trivial⟩ hR.wf (by kernel_rfl)
      refine consF (ent_mk [lsA hA.l,scA (.atm (v:=.int .i64 m) rfl)] (lsR h3) ?_) (consF (ent_mk [lsA hA.r,scA (.atm (v:=.int .i64 k) rfl)] (lsR h4) ?_) nilF)
      · rintro w _ ⟨v,_,rfl,hv,_,_,rfl,rfl,rfl⟩
        exact (rfGood_any v _ m w hv b1 hm).mono (by rintro e w' ⟨sl,rfl,ho,hb⟩; exact ⟨_,rfl,⟨IsInts.of_own ho,own_far ho (Nat.le_refl _)⟩,hb⟩)
      · rintro w _ ⟨v,_,rfl,hv,_,_,rfl,rfl,rfl⟩
        exact (rfGood_any v _ k w hv b2 hk).mono (by rintro e w' ⟨sl,rfl,ho,hb⟩; exact ⟨_,rfl,⟨IsInts.of_own ho,own_far ho (Nat.le_refl _)⟩,hb⟩)
    refine (h'.2 w (bas_under _ _ _) [drv vi vf d, .int .i64 m, .int .i64 k] ⟨_,_,rfl,hA.inn h1 h2 (fun _ _ _=>trivial) (fun _ _ _=>trivial),_,_,rfl,⟨rfl,rfl⟩,_,_,rfl,⟨rfl,rfl⟩,rfl⟩).mono ?_
    rintro e w' ⟨x,rfl,hx,hb⟩
    obtain ⟨v,u,rfl,i1,i2,f1,f2⟩:=hR.out2 hx
    exact ⟨v,u,rfl,i1,i2,f1,f2,hb⟩
end Go.Proofs.YteiomfgehlojeaaGreatDoor
end
section
namespace Go.Proofs.YteiomfgehlojeaaGreatDoor
open Go.RowKit
def DBox (w:World) (g:Nat) (a b c d:Value):Prop:=w.heap[g]? = some (.cells #[a,b,c,d] 63 (0,0))
section
variable {w w':World} {g:Nat} {a b c d:Value}
theorem DBox.c0 (h:DBox w g a b c d):w.cell? ⟨g,0,none⟩ = some a:=by rw [cell_of_row w g 0 _ _ _ h]; rfl
theorem DBox.c1 (h:DBox w g a b c d):w.cell? ⟨g,1,none⟩ = some b:=by rw [cell_of_row w g 1 _ _ _ h]; rfl
theorem DBox.c2 (h:DBox w g a b c d):w.cell? ⟨g,2,none⟩ = some c:=by rw [cell_of_row w g 2 _ _ _ h]; rfl
theorem DBox.c3 (h:DBox w g a b c d):w.cell? ⟨g,3,none⟩ = some d:=by rw [cell_of_row w g 3 _ _ _ h]; rfl
theorem DBox.fz (h:DBox w g a b c d) (i:Nat):w.frozen? ⟨g,i,none⟩ = false:=frz_of_row h i
theorem DBox.below {B:Nat} (h:DBox w g a b c d) (hb:Below B w w') (hB:g < B):DBox w' g a b c d:=(hb.block g hB).trans h
theorem DBox.new (w:World) (a b c d:Value):DBox (w.alloc (.cells #[a,b,c,d] 63)) w.heap.size a b c d:=heap_alloc_new w _
end
set_option maxRecDepth 100000 in
set_option maxHeartbeats 4000000 in
theorem atoms_any (vi vf:Value) (d:Dr) (w:World) (h:DrOK w vi vf d) :
    Calls Tryz.prog 203 #[drv vi vf d] w fun e w'=>∃ v',e = .returned v'∧w'.ownsRow w.heap.size 3 1 v' (atomsL d).length (ints (atomsL d))∧Below w.heap.size w w':=by
  obtain ⟨i0,hi,hz0,hz1,hz2⟩:=info_parts info_int
  obtain ⟨W1,hW1⟩:∃ W1,w.alloc (Obj.cells #[.bool d.neg,vi, .bool d.sep,vf] 63) = W1:=⟨_,rfl⟩
  have hs1:W1.heap.size = w.heap.size + 1:=by rw [← hW1]; simp
  have z1:DBox W1 w.heap.size (.bool d.neg) vi (.bool d.sep) vf:=by rw [← hW1]; exact DBox.new _ _ _ _ _
  have hB1:Below w.heap.size w W1:=by rw [← hW1]; exact (Below.refl _ w).alloc (Nat.le_refl _) _
  have hc:=clone_any vi d.int W1 (h.ii.below hB1 (Nat.le_refl _)) (by have:=h.li; omega)
  have hvf:=h.jf.below hB1 (Nat.le_refl _)
  have l1:=h.li
  have l2:=h.lf
  obtain ⟨AL,hAL⟩:∃ L,atomsL d = L:=⟨_,rfl⟩
  rw [hAL]
  unfold atomsL at hAL
  obtain ⟨n,li,sp,lf⟩:=d
  simp only [drv] at *
  obtain ⟨na,hna⟩:∃ n,li.length = n:=⟨_,rfl⟩
  obtain ⟨nb,hnb⟩:∃ n,lf.length = n:=⟨_,rfl⟩
  obtain ⟨Ab,cb,rfl⟩:∃ A c,vf = .slice A nb c:=by obtain ⟨A,c,h⟩:=h.jf.form; exact ⟨A,c,by rw [h,← hnb]⟩
  obtain ⟨Aa,ca,rfl⟩:∃ A c,vi = .slice A na c:=by obtain ⟨A,c,h⟩:=h.ii.form; exact ⟨A,c,by rw [h,← hna]⟩
  rw [hna] at l1 hc
  have HNB:=Lib.hid hnb
  rw [hnb] at l2
  have HC:=Lib.hid hc
  have HV:=Lib.hid (fun W (hB:Below W1.heap.size W1 W)=>hvf.below hB (Nat.le_refl _))
  have HW:=Lib.hid hW1
  have HB:=Lib.hid hB1
  have HZ:=Lib.hid (fun W (hB:Below W1.heap.size W1 W)=>z1.below hB (by omega))
  have HAL:=Lib.hid hAL
  have HNA:=Lib.hid hna
  have q1:=z1.c1
  clear hW1 z1 hB1 hc hvf h hna hnb hAL
  cases sp
  · go_enter Tryz.func203,Tryz.ntmps203
    go_wp2_with fail
    rw [HW.out]
    go_wp2_with fail
    refine HC.out.mono ?_
    rintro e w3 ⟨v3,rfl,o3,b3⟩
    have Z:=HZ.out _ b3
    have c2':=Z.c2
    have c3:=Z.c3
    have i3:=Lib.hid (HV.out _ b3)
    obtain ⟨A3,k3,rfl⟩:=own_form o3
    clear q1 Z
    have hs3:=b3.size
    have hle:Hid (na + lf.length ≤ 1000000):=by show _ ≤ _; have:=HNB.out; omega
    go_wp2_with (first
      | (at_builtin
         refine wpList_append_ints _ rfl _ _ 24 rfl W1.heap.size 3 i0 Tryz.underlying24 hi hz0 hz1 hz2 (.slice A3 na k3) na (ints li) (by simp [Act.eval,Act.put]) o3 (.slice Ab nb cb) lf (by simp [Act.eval,Act.put]) i3.out hle.out hs3 ?_
         intro v4 w4 hown4 hgrow4
         have X4:Aside (w4.ownsRow W1.heap.size 3 1 v4 (na + lf.length) (ints li ++ ints lf)∧Below W1.heap.size W1 w4):=⟨hown4,b3.grown hgrow4 (by omega) (fun j hj=>(o3.lt j hj).1)⟩
         clear hown4 hgrow4))
    go_ret
    refine ⟨_,rfl,?_,HB.out.trans (X4.out.2.mono (by omega))⟩
    have:=own_base (B':=w.heap.size) X4.out.1 (by omega)
    rw [← HAL.out]
    simpa [ints_append,HNA.out] using this
  · go_enter Tryz.func203,Tryz.ntmps203
    go_wp2_with fail
    rw [HW.out]
    go_wp2_with fail
    refine HC.out.mono ?_
    rintro e w3 ⟨v3,rfl,o3,b3⟩
    have Z:=HZ.out _ b3
    have c2':=Z.c2
    clear Z
    obtain ⟨A3,k3,rfl⟩:=own_form o3
    clear q1
    have hs3:=b3.size
    go_wp2_with (first
      | (at_builtin
         refine wpList_append_own _ rfl _ _ 24 rfl W1.heap.size 3 i0 (.int .i64 0) 1 8 Tryz.underlying24 hi hz0 hz1 hz2 rfl (by decide) (.slice A3 na k3) na (ints li) (by simp [Act.eval,Act.put]) (o3.alloc _) ⟨_,0,none⟩ 1 1 [.int .i64 10] rfl rfl (cell_one_new _ _ _) (fun x hx=>by simp at hx; subst hx; rfl) (by unfold maxLen; omega) (by omega) (by simp; omega) ?_
         intro v5 w5 hown5 hgrow5 hnil5
         have X5:Aside (w5.ownsRow W1.heap.size 3 1 v5 (na + 1) (ints li ++ [.int .i64 10])∧Below W1.heap.size W1 w5):=⟨hown5,(b3.alloc hs3 _).grown hgrow5 (by simp; omega) (fun j hj=>by have:=(o3.lt j hj).1; omega)⟩
         obtain ⟨A5,k5,rfl⟩:=own_form X5.out.1
         have c3:=(HZ.out _ X5.out.2).c3
         have i5:=Lib.hid (HV.out _ X5.out.2)
         have hs5:=X5.out.2.size
         have hle:Hid (na + 1 + lf.length ≤ 1000000):=by show _ ≤ _; have:=HNB.out; omega
         clear hown5 hgrow5 hnil5 c2')
      | (at_builtin
         refine wpList_append_ints _ rfl _ _ 24 rfl W1.heap.size 3 i0 Tryz.underlying24 hi hz0 hz1 hz2 (.slice A5 (na + 1) k5) (na + 1) (ints li ++ [.int .i64 10]) (by simp [Act.eval,Act.put]) X5.out.1 (.slice Ab nb cb) lf (by simp [Act.eval,Act.put]) i5.out hle.out hs5 ?_
         intro v4 w4 hown4 hgrow4
         have X4:Aside (w4.ownsRow W1.heap.size 3 1 v4 (na + 1 + lf.length) (ints li ++ [.int .i64 10] ++ ints lf)∧Below W1.heap.size W1 w4):=⟨hown4,X5.out.2.grown hgrow4 (by omega) (fun j hj=>(X5.out.1.lt j hj).1)⟩
         clear hown4 hgrow4))
    go_ret
    refine ⟨_,rfl,?_,HB.out.trans (X4.out.2.mono (by omega))⟩
    have:=own_base (B':=w.heap.size) X4.out.1 (by omega)
    have hAL2:li ++ [10] ++ lf = AL:=HAL.out
    have e:(li ++ [10] ++ lf).length = na + 1 + lf.length:=by simp [HNA.out]; omega
    rw [← hAL2,e,ints_append,ints_append]
    exact this
end Go.Proofs.YteiomfgehlojeaaGreatDoor
end
section
namespace Go.Proofs.YteiomfgehlojeaaGreatDoor
open Go.RowKit
def frI (x:Dc) (n:Nat):List Int:=List.replicate (n - (wholeD (trimD x)).length) 0 ++ wholeD (trimD x)
def frF (x:Dc) (n:Nat):List Int:=restD (trimD x) ++ List.replicate (n - (restD (trimD x)).length) 0
def fromDr (x:Dc) (whole rest:Nat):Dr:=⟨(trimD x).neg,if frI x whole = []∧frF x rest = [] then [0] else frI x whole,decide (0 < (frF x rest).length),frF x rest⟩
section
variable {w w':World} {g:Nat}
theorem Below.set4 {N:Nat} (h:Below N w w') (hg:N ≤ g) (x y z u:Value):Below N w ((((w'.setCell ⟨g,0,none⟩ x).setCell ⟨g,1,none⟩ y).setCell ⟨g,2,none⟩ z).setCell ⟨g,3,none⟩ u) :=
  (((h.setCell (p:=⟨g,0,none⟩) hg x).setCell (p:=⟨g,1,none⟩) hg y).setCell (p:=⟨g,2,none⟩) hg z).setCell (p:=⟨g,3,none⟩) hg u
theorem IsInts.set4 {v:Value} {l:List Int} {B:Nat} (h:IsInts w v l) (hf:From B v) (hg:g < B) (x y z u:Value):IsInts ((((w.setCell ⟨g,0,none⟩ x).setCell ⟨g,1,none⟩ y).setCell ⟨g,2,none⟩ z).setCell ⟨g,3,none⟩ u) v l :=
  (((h.far hf (p:=⟨g,0,none⟩) hg x).far hf (p:=⟨g,1,none⟩) hg y).far hf (p:=⟨g,2,none⟩) hg z).far hf (p:=⟨g,3,none⟩) hg u
end
end Go.Proofs.YteiomfgehlojeaaGreatDoor
end
section
namespace Go.Proofs.YteiomfgehlojeaaGreatDoor
open Go.RowKit
section
variable {w w':World} {t g:Nat} {a b c d:Value}
theorem Bx4.set0 (h:Bx4 w t g a b c d) (v:Value):Bx4 (w.setCell ⟨g,0,none⟩ v) t g v b c d:=heap_set1 w g 0 v _ _ _ h
theorem Bx4.set1 (h:Bx4 w t g a b c d) (v:Value):Bx4 (w.setCell ⟨g,1,none⟩ v) t g a v c d:=heap_set1 w g 1 v _ _ _ h
theorem Bx4.set2 (h:Bx4 w t g a b c d) (v:Value):Bx4 (w.setCell ⟨g,2,none⟩ v) t g a b v d:=heap_set1 w g 2 v _ _ _ h
theorem Bx4.set3 (h:Bx4 w t g a b c d) (v:Value):Bx4 (w.setCell ⟨g,3,none⟩ v) t g a b c v:=heap_set1 w g 3 v _ _ _ h
theorem Bx4.setAll (h:Bx4 w t g a b c d) (x y z u:Value):Bx4 ((((w.setCell ⟨g,0,none⟩ x).setCell ⟨g,1,none⟩ y).setCell ⟨g,2,none⟩ z).setCell ⟨g,3,none⟩ u) t g x y z u:=(((h.set0 _).set1 _).set2 _).set3 _
end
theorem grow_keep {w w':World} {row:Option Nat} (hg:w.grownBy w' row) {g:Nat} (hlt:g < w.heap.size) (hne:∀ k,row = some k→g < k):w'.heap[g]? = w.heap[g]? :=
  hg.block g hlt (by first | (intro e; have:=hne g e; omega) | (intro e; have:=hne g e.symm; omega))
set_option maxRecDepth 100000 in
set_option maxHeartbeats 16000000 in
theorem rhFrom_any (v:Value) (d:Dc) (m k:Nat) (w:World) (ha:IsInts w v d.l) (da:Dg d.l) (la:d.l.length ≤ 100) (hs:d.s ≤ 100) (hm:m ≤ 64) (hk:k ≤ 64) :
    Calls Tryz.prog 44 #[dv v d, .int .i64 m, .int .i64 k] w fun e w'=>∃ vi vf,e = .returned (.tuple #[drv vi vf (fromDr d m k), .int .i64 0])∧IsInts w' vi (fromDr d m k).int∧IsInts w' vf (fromDr d m k).frac∧From w.heap.size vi∧From w.heap.size vf∧Below w.heap.size w w':=by
  obtain ⟨i0,hi,hz0,hz1,hz2⟩:=info_parts info_int
  have dt:=trimD_dg d da
  have lt:=trimD_len d
  have st:=trimD_s d
  obtain ⟨D,hD⟩:∃ D,fromDr d m k = D:=⟨_,rfl⟩
  rw [hD]
  unfold fromDr frI frF at hD
  obtain ⟨t,ht⟩:∃ t,trimD d = t:=⟨_,rfl⟩
  rw [ht] at dt lt st hD
  have lw:(wholeD t).length ≤ 200:=by unfold wholeD; have:=trimL_le ((wideL t.l t.s).take ((wideL t.l t.s).length - t.s)); simp [wideL_len] at this ⊢; omega
  have lr:(restD t).length ≤ 200:=by unfold restD; simp [wideL_len]; omega
  obtain ⟨W2,hW2,s2,z1,z2,hB2⟩:∃ W2,(w.alloc (Obj.cells #[.bool d.neg,v, .int .i64 d.s] 26)).alloc (Obj.cells #[.bool false, .slice none 0 0, .bool false, .slice none 0 0] 32) = W2∧W2.heap.size = w.heap.size + 2 ∧
      Bq3 W2 w.heap.size (.bool d.neg) v (.int .i64 d.s)∧Bx4 W2 32 (w.heap.size + 1) (.bool false) (.slice none 0 0) (.bool false) (.slice none 0 0)∧Below w.heap.size w W2:=by
    refine ⟨_,rfl,by simp,(Bq3.new w _ _ _).keep (heap_alloc_old _ _ (by simp)),?_,((Below.refl _ w).alloc (Nat.le_refl _) _).alloc (by simp) _⟩
    have:=Bx4.new (w.alloc (Obj.cells #[.bool d.neg,v, .int .i64 d.s] 26)) 32 (.bool false) (.slice none 0 0) (.bool false) (.slice none 0 0)
    simpa using this
  have hMay:=rdMay_any v d W2 (ha.below hB2 (Nat.le_refl _)) da (by omega)
  have hTr:=fun W (hB:Below W2.heap.size W2 W)=>rdTrim_any v d W ((ha.below hB2 (Nat.le_refl _)).below hB (Nat.le_refl _)) da (by omega) (by omega)
  rw [ht] at hTr
  have hPa:=fun W X (i:IsInts W X t.l)=>rdParts_any X t W i dt (by omega) (by omega)
  obtain ⟨a,hae⟩:∃ a,wholeD t = a:=⟨_,rfl⟩
  obtain ⟨b,hbe⟩:∃ b,restD t = b:=⟨_,rfl⟩
  rw [hae] at hPa hD lw
  rw [hbe] at hPa hD lr
  obtain ⟨A0,c0,rfl⟩:=ha.form
  obtain ⟨dn,dl,ds⟩:=d
  obtain ⟨tn,tl,ts⟩:=t
  simp only [dv,drv] at *
  have HW:=Lib.hid hW2
  have HM:=Lib.hid hMay
  have HT:=Lib.hid hTr
  have HP:=Lib.hid hPa
  have HDD:=Lib.hid hD
  have HZ:=Lib.hid (fun W (hB:Below W2.heap.size W2 W)=>And.intro (z1.below hB (by omega)) (z2.below hB (by omega)))
  have HB:=Lib.hid hB2
  have q0:=z1.c0
  have q1:=z1.c1
  have q2:=z1.c2
  obtain ⟨na,hna⟩:∃ n,a.length = n:=⟨_,rfl⟩
  obtain ⟨nb,hnb⟩:∃ n,b.length = n:=⟨_,rfl⟩
  have HNA:=Lib.hid hna
  have HNB:=Lib.hid hnb
  rw [hna] at lw
  rw [hnb] at lr
  clear hW2 hMay hTr hPa hD z1 z2 hB2 ha da dt lt st ht hae hbe hna hnb
  have g1:¬ ((m:Int) < 0):=by omega
  have g2:¬ ((64:Int) < (m:Int)):=by omega
  have g3:¬ ((k:Int) < 0):=by omega
  have g4:¬ ((64:Int) < (k:Int)):=by omega
  go_enter Tryz.func44,Tryz.ntmps44
  go_wp2_with fail
  rw [HW.out]
  go_wp2_with fail
  refine HM.out.mono ?_
  rintro e w3 ⟨rfl,b3⟩
  have Z3:=(HZ.out _ b3).1.bx
  have p0:=Z3.c0
  have p1:=Z3.c1
  have p2:=Z3.c2
  clear q0 q1 q2 Z3
  go_wp2_with fail
  refine (HT.out w3 b3).mono ?_
  rintro e w4 ⟨v4,rfl,i4,f4,b4'⟩
  obtain ⟨A4,c4,rfl⟩:=i4.form
  have b4:=b3.trans (b4'.mono b3.size)
  have hs4:=b4.size
  clear p0 p1 p2 b4' b3
  obtain ⟨W5,hW5,k5,i5,B5,S5⟩:∃ W5,w4.alloc (Obj.cells #[.bool tn, .slice A4 tl.length c4, .int .i64 ts] 26) = W5∧Bq3 W5 w4.heap.size (.bool tn) (.slice A4 tl.length c4) (.int .i64 ts) ∧
      IsInts W5 (.slice A4 tl.length c4) tl∧Below W2.heap.size W2 W5∧W5.heap.size = w4.heap.size + 1 :=
    ⟨_,rfl,Bq3.new _ _ _ _,i4.alloc _,b4.alloc hs4 _,by simp⟩
  have q0:=k5.c0
  have q1:=k5.c1
  have q2:=k5.c2
  have HK5:=Lib.hid k5
  clear k5 i4 f4 b4
  go_wp2_with fail
  refine (HP.out W5 _ i5).mono ?_
  rintro e w6 ⟨v1,v2,rfl,ia,ib,fa,fb,b6'⟩
  obtain ⟨Aa,ca,rfl⟩:∃ A c,v1 = .slice A na c:=by obtain ⟨A,c,h⟩:=ia.form; exact ⟨A,c,by rw [h,HNA.out]⟩
  obtain ⟨Ab,cb,rfl⟩:∃ A c,v2 = .slice A nb c:=by obtain ⟨A,c,h⟩:=ib.form; exact ⟨A,c,by rw [h,HNB.out]⟩
  have B6:=B5.trans (b6'.mono B5.size)
  have hs6:=B6.size
  have K6:=HK5.out.below b6' (by omega)
  clear q0 q1 q2
  have q0:=K6.c0
  have HIa:=Lib.hid (fun W (hB:Below w6.heap.size w6 W)=>ia.below hB (Nat.le_refl _))
  have HIb:=Lib.hid (fun W (hB:Below w6.heap.size w6 W)=>ib.below hB (Nat.le_refl _))
  obtain ⟨W7,hW7,k7,B7,S7⟩:∃ W7,w6.alloc (Obj.cells #[.bool tn, .slice none 0 0, .bool false, .slice none 0 0] 32) = W7∧Bx4 W7 32 w6.heap.size (.bool tn) (.slice none 0 0) (.bool false) (.slice none 0 0) ∧
      Below w6.heap.size w6 W7∧W7.heap.size = w6.heap.size + 1 :=
    ⟨_,rfl,Bx4.new _ _ _ _ _ _,(Below.refl _ w6).alloc (Nat.le_refl _) _,by simp⟩
  clear ia ib fa fb b6' K6 HK5 i5 B5
  have HK7:=Lib.hid k7
  have HB7:=Lib.hid B7
  have HW7:=Lib.hid hW7
  clear k7 B7 hW7
  go_wp2_with fail
  rw [HW7.out]
  clear q0
  go_loopw [13] (fun n wr=>∃ (kk z:Nat) (pv:Value),n = .int .i64 kk∧kk ≤ 300∧z ≤ 64∧Aside (kk = na + z∧(z = 0∨kk ≤ m)) ∧
    Aside (Bx4 wr 32 w6.heap.size (.bool tn) pv (.bool false) (.slice none 0 0)∧wr.ownsRow W7.heap.size 3 1 pv z (ints (List.replicate z 0))∧Below w6.heap.size w6 wr∧W7.heap.size ≤ wr.heap.size)) (fun n _=>m - (intOf n).toNat)
  case atStart=>exact ⟨na,0,_,rfl,by omega,by omega,⟨rfl, .inl rfl⟩,HK7.out,World.ownsRow_nil _ _ _ _,HB7.out,Nat.le_refl _⟩
  case round =>
    obtain ⟨kk,z,pv,rfl,hkk,hz,HK,HA⟩:=hrel
    have r1:=HA.out.1.c1
    have r3:=HA.out.1.c3
    by_cases hlt:kk < m
    · clear r3
      go_wp2_with (first
        | (at_builtin
           refine wpList_append_own _ rfl _ _ 24 rfl W7.heap.size 3 i0 (.int .i64 0) 1 8 Tryz.underlying24 hi hz0 hz1 hz2 rfl (by decide) pv z (ints (List.replicate z 0)) (by simp [Act.eval,Act.put]) (HA.out.2.1.alloc _) ⟨_,0,none⟩ 1 1 [.int .i64 0] rfl rfl (cell_one_new _ _ _) (fun x hx=>by simp at hx; subst hx; rfl) (by unfold maxLen; omega) (by omega) (by have:=HA.out.2.2.2; simp; omega) ?_
           intro v8 w8 hown8 hgrow8 hnil8
           have hlt6:w6.heap.size < wr.heap.size:=by have:=HA.out.2.2.2; omega
           have X8:Aside (Bx4 w8 32 w6.heap.size (.bool tn) pv (.bool false) (.slice none 0 0)∧w8.ownsRow W7.heap.size 3 1 v8 (z + 1) (ints (List.replicate (z + 1) 0))∧Below w6.heap.size w6 w8∧W7.heap.size ≤ w8.heap.size):=by
             refine ⟨(HA.out.1.keep (heap_alloc_old _ _ hlt6)).keep (grow_keep hgrow8 (by simp; omega) (fun q hq=>by have:=(HA.out.2.1.lt q hq).1; omega)),by rw [List.replicate_succ',ints_append]; exact hown8,?_,?_⟩
             · exact (HA.out.2.2.1.alloc (by omega) _).grown hgrow8 (by simp; omega) (fun q hq=>by have:=(HA.out.2.1.lt q hq).1; omega)
             · have:=hgrow8.size; simp at this; have:=HA.out.2.2.2; omega
           obtain ⟨A8,c8,rfl⟩:=own_form X8.out.2.1
           have e1:=X8.out.1.c1
           have ef:=X8.out.1.fz
           clear hown8 hgrow8 hnil8 r1))
      go_roundw
      case rel =>
        refine ⟨kk + 1,z + 1,_,by go_num,by omega,by have:=HK.out; omega,⟨by have:=HK.out; omega, .inr (by omega)⟩,X8.out.1.set1 _,ownsRow_setCell_below X8.out.2.1 (by show w6.heap.size < _; omega) _,X8.out.2.2.1.setCell (p:=⟨w6.heap.size,1,none⟩) (Nat.le_refl _) _,by have:=X8.out.2.2.2; simpa using this⟩
      case measure=>simp [intOf]; omega
    · have hz2':=Lib.hid (show z = m - na by have:=HK.out; omega)
      obtain ⟨Li,hLi⟩:∃ L,List.replicate z 0 ++ a = L:=⟨_,rfl⟩
      obtain ⟨ni,hni⟩:∃ n,Li.length = n:=⟨_,rfl⟩
      have HLi:=Lib.hid hLi
      have HNi:=Lib.hid hni
      have hnz:Hid (z + a.length = ni):=by show _ = _; rw [← hni,← hLi]; simp
      have hia:=Lib.hid (HIa.out _ HA.out.2.2.1)
      clear hLi hni r3
      go_wp2_with (first
        | (at_builtin
           refine wpList_append_ints _ rfl _ _ 24 rfl W7.heap.size 3 i0 Tryz.underlying24 hi hz0 hz1 hz2 pv z (ints (List.replicate z 0)) (by simp [Act.eval,Act.put]) HA.out.2.1 (.slice Aa na ca) a (by simp [Act.eval,Act.put]) hia.out (by have:=HNA.out; omega) HA.out.2.2.2 ?_
           intro v8 w8 hown8 hgrow8
           have hlt6:w6.heap.size < wr.heap.size:=by have:=HA.out.2.2.2; omega
           have X8:Aside (Bx4 w8 32 w6.heap.size (.bool tn) pv (.bool false) (.slice none 0 0)∧w8.ownsRow W7.heap.size 3 1 v8 ni (ints Li)∧Below w6.heap.size w6 w8∧W7.heap.size ≤ w8.heap.size):=by
             refine ⟨HA.out.1.keep (grow_keep hgrow8 hlt6 (fun q hq=>by have:=(HA.out.2.1.lt q hq).1; omega)),by rw [← hnz.out,← HLi.out,ints_append]; exact hown8,?_,?_⟩
             · exact HA.out.2.2.1.grown hgrow8 (by omega) (fun q hq=>by have:=(HA.out.2.1.lt q hq).1; omega)
             · have:=hgrow8.size; have:=HA.out.2.2.2; omega
           obtain ⟨A8,c8,rfl⟩:=own_form X8.out.2.1
           have e1:=X8.out.1.c1
           have e3:=X8.out.1.c3
           have ef:=X8.out.1.fz
           clear hown8 hgrow8 r1)
        | (at_builtin
           obtain ⟨W9,hW9,X9⟩:∃ W9,w8.setCell ⟨w6.heap.size,1,none⟩ (.slice A8 ni c8) = W9∧Aside (Bx4 W9 32 w6.heap.size (.bool tn) (.slice A8 ni c8) (.bool false) (.slice none 0 0)∧W9.ownsRow W7.heap.size 3 1 (.slice A8 ni c8) ni (ints Li)∧Below w6.heap.size w6 W9∧W7.heap.size ≤ W9.heap.size) :=
             ⟨_,rfl,X8.out.1.set1 _,ownsRow_setCell_below X8.out.2.1 (by show w6.heap.size < _; omega) _,X8.out.2.2.1.setCell (p:=⟨w6.heap.size,1,none⟩) (Nat.le_refl _) _,by have:=X8.out.2.2.2; simpa using this⟩
           rw [hW9]
           have hib:=Lib.hid (HIb.out _ X9.out.2.2.1)
           have hb9:Hid (0 + b.length ≤ 1000000):=by show _ ≤ _; have:=HNB.out; omega
           refine wpList_append_ints _ rfl _ _ 24 rfl W9.heap.size 3 i0 Tryz.underlying24 hi hz0 hz1 hz2 (.slice none 0 0) 0 [] (by simp [Act.eval,Act.put]) (World.ownsRow_nil _ _ _ _) (.slice Ab nb cb) b (by simp [Act.eval,Act.put]) hib.out hb9.out (Nat.le_refl _) ?_
           intro v10 w10 hown10 hgrow10
           have X10:Aside (Bx4 w10 32 w6.heap.size (.bool tn) (.slice A8 ni c8) (.bool false) (.slice none 0 0)∧w10.ownsRow W7.heap.size 3 1 (.slice A8 ni c8) ni (ints Li)∧Below w6.heap.size w6 w10∧W9.heap.size ≤ w10.heap.size ∧
               w10.ownsRow W9.heap.size 3 1 v10 nb (ints b)∧(∀ q,(Value.slice A8 ni c8).ownBlock = some q→q < W9.heap.size)∧W7.heap.size ≤ W9.heap.size):=by
             refine ⟨X9.out.1.keep (grow_keep hgrow10 X9.out.1.lt (fun q hq=>by simp [Value.ownBlock] at hq)),X9.out.2.1.kept hgrow10 (by cases h:(Value.slice A8 ni c8).ownBlock <;> simp [Value.ownBlock]),?_,hgrow10.size,?_,fun q hq=>(X9.out.2.1.lt q hq).2,X9.out.2.2.2⟩
             · exact X9.out.2.2.1.grown hgrow10 (by have:=X9.out.2.2.2; omega) (fun q hq=>by simp [Value.ownBlock] at hq)
             · have:=hown10; rw [← HNB.out]; simpa using this
           obtain ⟨A10,c10,rfl⟩:=own_form X10.out.2.2.2.2.1
           have e1:=X10.out.1.c1
           have e3':=X10.out.1.c3
           have ef':=X10.out.1.fz
           clear hown10 hgrow10 hW9))
      obtain ⟨N9,hN9⟩:∃ N,W9.heap.size = N:=⟨_,rfl⟩
      rw [hN9] at X10
      obtain ⟨W11,hW11,X11⟩:∃ W11,w10.setCell ⟨w6.heap.size,3,none⟩ (.slice A10 nb c10) = W11∧Aside (Bx4 W11 32 w6.heap.size (.bool tn) (.slice A8 ni c8) (.bool false) (.slice A10 nb c10)∧W11.ownsRow W7.heap.size 3 1 (.slice A8 ni c8) ni (ints Li)∧Below w6.heap.size w6 W11∧N9 ≤ W11.heap.size ∧
          W11.ownsRow N9 3 1 (.slice A10 nb c10) nb (ints (b ++ List.replicate 0 0))) :=
        ⟨_,rfl,X10.out.1.set3 _,ownsRow_setCell_below X10.out.2.1 (by show w6.heap.size < _; omega) _,X10.out.2.2.1.setCell (p:=⟨w6.heap.size,3,none⟩) (Nat.le_refl _) _,by have:=X10.out.2.2.2.1; simpa using this,by
          have:=ownsRow_setCell_below X10.out.2.2.2.2.1 (a:=⟨w6.heap.size,3,none⟩) (by show w6.heap.size < _; have:=X10.out.2.2.2.2.2.2; omega) (.slice A10 nb c10)
          simpa using this⟩
      have HLT:=Lib.hid X10.out.2.2.2.2.2.1
      have h79:=X10.out.2.2.2.2.2.2
      rw [hW11]
      clear hW11 e1 e3' ef' hN9
      go_loopw [] (fun wr=>∃ (z2 nf cf:Nat) (Af:Option Addr),nf ≤ 300∧Aside (nf = nb + z2∧(z2 = 0∨nf ≤ k))∧Aside (Bx4 wr 32 w6.heap.size (.bool tn) (.slice A8 ni c8) (.bool false) (.slice Af nf cf)∧wr.ownsRow W7.heap.size 3 1 (.slice A8 ni c8) ni (ints Li)∧Below w6.heap.size w6 wr∧N9 ≤ wr.heap.size ∧
          wr.ownsRow N9 3 1 (.slice Af nf cf) nf (ints (b ++ List.replicate z2 0)))) (fun wr=>match wr.cell? ⟨w6.heap.size,3,none⟩ with | some (.slice _ n _)=>k - n | _=>0)
      case atStart=>exact ⟨0,nb,c10,A10,by omega,⟨by omega, .inl rfl⟩,X11.out⟩
      case round =>
        obtain ⟨z2,nf,cf,Af,hnf,HK2,HC⟩:=hrel
        have r1:=HC.out.1.c1
        have r2:=HC.out.1.c2
        have r3:=HC.out.1.c3
        by_cases hlt2:nf < k
        · clear r1 r2
          go_wp2_with (first
            | (at_builtin
               refine wpList_append_own _ rfl _ _ 24 rfl N9 3 i0 (.int .i64 0) 1 8 Tryz.underlying24 hi hz0 hz1 hz2 rfl (by decide) (.slice Af nf cf) nf (ints (b ++ List.replicate z2 0)) (by simp [Act.eval,Act.put]) (HC.out.2.2.2.2.alloc _) ⟨_,0,none⟩ 1 1 [.int .i64 0] rfl rfl (cell_one_new _ _ _) (fun x hx=>by simp at hx; subst hx; rfl) (by unfold maxLen; omega) (by omega) (by have:=HC.out.2.2.2.1; simp; omega) ?_
               intro v12 w12 hown12 hgrow12 hnil12
               have hlt6:w6.heap.size < wr.heap.size:=by have:=HC.out.2.2.2.1; omega
               have X12:Aside (Bx4 w12 32 w6.heap.size (.bool tn) (.slice A8 ni c8) (.bool false) (.slice Af nf cf)∧w12.ownsRow W7.heap.size 3 1 (.slice A8 ni c8) ni (ints Li)∧Below w6.heap.size w6 w12∧N9 ≤ w12.heap.size ∧
                   w12.ownsRow N9 3 1 v12 (nf + 1) (ints (b ++ List.replicate (z2 + 1) 0))):=by
                 refine ⟨(HC.out.1.keep (heap_alloc_old _ _ hlt6)).keep (grow_keep hgrow12 (by simp; omega) (fun q hq=>by have:=(HC.out.2.2.2.2.lt q hq).1; omega)),(HC.out.2.1.alloc _).kept hgrow12 ?_,?_,?_,by rw [List.replicate_succ',← List.append_assoc,ints_append]; exact hown12⟩
                 · by_cases hn:(Value.slice A8 ni c8).ownBlock = none
                   · exact .inl hn
                   · refine .inr (fun e=>?_)
                     obtain ⟨q,hq⟩:=Option.ne_none_iff_exists'.1 hn
                     have h1:=HLT.out q hq
                     have h2:=(HC.out.2.2.2.2.lt q (by rw [← e]; exact hq)).1
                     omega
                 · exact (HC.out.2.2.1.alloc (by omega) _).grown hgrow12 (by simp; omega) (fun q hq=>by have:=(HC.out.2.2.2.2.lt q hq).1; omega)
                 · have:=hgrow12.size; simp at this; have:=HC.out.2.2.2.1; omega
               obtain ⟨A12,c12,rfl⟩:=own_form X12.out.2.2.2.2
               have e3:=X12.out.1.c3
               have ef:=X12.out.1.fz
               clear hown12 hgrow12 hnil12))
          go_roundw
          case rel =>
            exact ⟨z2 + 1,nf + 1,c12,A12,by omega,⟨by have:=HK2.out; omega, .inr (by omega)⟩,X12.out.1.set3 _,ownsRow_setCell_below X12.out.2.1 (by show w6.heap.size < _; omega) _,X12.out.2.2.1.setCell (p:=⟨w6.heap.size,3,none⟩) (Nat.le_refl _) _,by have:=X12.out.2.2.2.1; simpa using this,ownsRow_setCell_below X12.out.2.2.2.2 (by show w6.heap.size < _; omega) _⟩
          case measure =>
            have q1:=(X12.out.1.set3 (.slice A12 (nf + 1) c12)).c3
            simp [q1,r3]; omega
        · have hz3:=Lib.hid (show z2 = k - nb by have:=HK2.out; omega)
          obtain ⟨F,hF⟩:∃ F,b ++ List.replicate z2 0 = F:=⟨_,rfl⟩
          have hFl:Hid (F.length = nf):=by show _ = _; rw [← hF]; simp; have:=HNB.out; have:=HK2.out; omega
          have HDE:Hid (D = ⟨tn,if Li = []∧F = [] then [0] else Li,decide (0 < nf),F⟩):=by
            show _ = _
            rw [← HDD.out,← hFl.out,← hF,← HLi.out,hz2'.out,hz3.out,HNA.out,HNB.out]
          rw [hF] at HC
          have HLl:=HNi
          have b2':=(HZ.out wr (B6.trans (HC.out.2.2.1.mono B6.size))).2
          have y0:=b2'.c0
          have y1:=b2'.c1
          have y2:=b2'.c2
          have y3:=b2'.c3
          have yf:=b2'.fz
          have HY:=Lib.hid b2'
          have r0:=HC.out.1.c0
          have rf:=HC.out.1.fz
          have hne12:w.heap.size + 1 < w6.heap.size:=by omega
          have hge2:k ≤ nf:=by omega
          clear hF b2' hlt2
          have hs11:=HC.out.2.2.2.1
          have fin:Hid (∀ W13,Bx4 W13 32 (w.heap.size + 1) (.bool false) (.slice none 0 0) (.bool false) (.slice none 0 0)→Below w6.heap.size w6 W13→W13.ownsRow N9 3 1 (.slice Af nf cf) nf (ints F)→∀ vi I,IsInts W13 vi I→From W7.heap.size vi→∀ x0 x2,
              IsInts ((((W13.setCell ⟨w.heap.size + 1,0,none⟩ x0).setCell ⟨w.heap.size + 1,1,none⟩ vi).setCell ⟨w.heap.size + 1,2,none⟩ x2).setCell ⟨w.heap.size + 1,3,none⟩ (.slice Af nf cf)) vi I ∧
              IsInts ((((W13.setCell ⟨w.heap.size + 1,0,none⟩ x0).setCell ⟨w.heap.size + 1,1,none⟩ vi).setCell ⟨w.heap.size + 1,2,none⟩ x2).setCell ⟨w.heap.size + 1,3,none⟩ (.slice Af nf cf)) (.slice Af nf cf) F ∧
              From w.heap.size vi∧From w.heap.size (.slice Af nf cf)∧Below w.heap.size w ((((W13.setCell ⟨w.heap.size + 1,0,none⟩ x0).setCell ⟨w.heap.size + 1,1,none⟩ vi).setCell ⟨w.heap.size + 1,2,none⟩ x2).setCell ⟨w.heap.size + 1,3,none⟩ (.slice Af nf cf))):=by
            intro W13 hb13 hB13 hF13 vi I hI hIf x0 x2
            have hIF:IsInts W13 (.slice Af nf cf) F:=IsInts.of_own (by rw [hFl.out]; exact hF13)
            have hFF:From N9 (.slice Af nf cf):=fun q hq=>(hF13.lt q hq).1
            exact ⟨hI.set4 hIf (by omega) _ _ _ _,hIF.set4 hFF (by omega) _ _ _ _,fun q hq=>by have:=hIf q hq; omega,fun q hq=>by have:=hFF q hq; omega,Below.set4 ((HB.out.trans ((B6.trans (hB13.mono B6.size)).mono (by omega)))) (by omega) _ _ _ _⟩
          have cells13:Hid (∀ x,Bx4 (wr.setCell ⟨w6.heap.size,2,none⟩ x) 32 (w.heap.size + 1) (.bool false) (.slice none 0 0) (.bool false) (.slice none 0 0)∧Below w6.heap.size w6 (wr.setCell ⟨w6.heap.size,2,none⟩ x)∧(wr.setCell ⟨w6.heap.size,2,none⟩ x).ownsRow N9 3 1 (.slice Af nf cf) nf (ints F)∧IsInts (wr.setCell ⟨w6.heap.size,2,none⟩ x) (.slice A8 ni c8) Li∧From W7.heap.size (.slice A8 ni c8)):=fun x =>
            ⟨HY.out.keep (Below.heap_setCell wr ⟨w6.heap.size,2,none⟩ x _ (by show _ ≠ w6.heap.size; omega)),HC.out.2.2.1.setCell (p:=⟨w6.heap.size,2,none⟩) (Nat.le_refl _) _,ownsRow_setCell_below HC.out.2.2.2.2 (by show w6.heap.size < _; omega) _,by
              have:=ownsRow_setCell_below HC.out.2.1 (a:=⟨w6.heap.size,2,none⟩) (by show w6.heap.size < _; omega) x
              rw [← HNi.out] at this
              rw [← HNi.out]
              exact IsInts.of_own this,fun q hq=>(HC.out.2.1.lt q hq).1⟩
          have HD1:Hid (¬ (ni = 0∧nf = 0)→D = ⟨tn,Li,decide (0 < nf),F⟩):=fun h=>by
            rw [HDE.out,if_neg (fun e=>h ⟨by rw [← HNi.out,e.1]; rfl,by rw [← hFl.out,e.2]; rfl⟩)]
          have HD0:Hid (ni = 0∧nf = 0→D = ⟨tn,[0],decide (0 < nf),F⟩):=fun h=>by
            rw [HDE.out,if_pos ⟨List.eq_nil_of_length_eq_zero (HNi.out.trans h.1),List.eq_nil_of_length_eq_zero (hFl.out.trans h.2)⟩]
          rcases Nat.eq_zero_or_pos ni with hni0 | hni
          · rcases Nat.eq_zero_or_pos nf with hnf0 | hnf1
            · have hDD:=Lib.hid (HD0.out ⟨hni0,hnf0⟩)
              obtain ⟨W13,hW13,K13⟩:∃ W13,(wr.setCell ⟨w6.heap.size,2,none⟩ (.bool false)).alloc (Obj.cells #[.int .i64 0] 3) = W13∧Aside (Bx4 W13 32 w6.heap.size (.bool tn) (.slice A8 ni c8) (.bool false) (.slice Af nf cf) ∧
                  Bx4 W13 32 (w.heap.size + 1) (.bool false) (.slice none 0 0) (.bool false) (.slice none 0 0)∧IsInts W13 (.slice (some ⟨wr.heap.size,0,none⟩) 1 1) [0]∧IsInts W13 (.slice Af nf cf) F∧Below w6.heap.size w6 W13∧w6.heap.size < wr.heap.size∧From (w6.heap.size + 1) (.slice Af nf cf)):=by
                obtain ⟨k1,k2,k3,k4,k5⟩:=cells13.out (.bool false)
                have hsz:(wr.setCell ⟨w6.heap.size,2,none⟩ (.bool false)).heap.size = wr.heap.size:=by simp
                have hlt6:w6.heap.size < wr.heap.size:=by omega
                refine ⟨_,rfl,(HC.out.1.set2 _).keep (heap_alloc_old _ _ (by rw [hsz]; exact hlt6)),k1.keep (heap_alloc_old _ _ (by rw [hsz]; omega)),⟨_,_,rfl,by decide,by decide,fun _=>⟨_,_,rfl,fun j hj=>?_⟩⟩,?_,k2.alloc (by rw [hsz]; omega) _,hlt6,fun q hq=>by have:=(k3.lt q hq).1; omega⟩
                · obtain rfl:j = 0:=by simpa using hj
                  rw [cell_of_row _ wr.heap.size 0 _ _ _ (by rw [← hsz]; exact heap_alloc_new _ _)]
                  rfl
                · exact (IsInts.of_own (l:=F) (by rw [hFl.out]; exact k3)).alloc _
              have r0':=K13.out.1.c0
              have r1':=K13.out.1.c1
              have r2':=K13.out.1.c2
              have r3':=K13.out.1.c3
              have rf':=K13.out.1.fz
              have y0':=K13.out.2.1.c0
              have y1':=K13.out.2.1.c1
              have y2':=K13.out.2.1.c2
              have y3':=K13.out.2.1.c3
              have yf':=K13.out.2.1.fz
              go_wp2_with fail
              subst hnf0
              refine bodyPost_ret_by (results_cell_two (by rfl) _ _ (w.heap.size + 1) _ _ _ _ _ rfl rfl (Bx4.setAll (K13.out.2.1.keep (Below.heap_setCell W13 ⟨w6.heap.size,1,none⟩ (.slice (some ⟨wr.heap.size,0,none⟩) 1 1) _ (by show _ ≠ w6.heap.size; omega))) (.bool tn) (.slice (some ⟨wr.heap.size,0,none⟩) 1 1) (.bool false) (.slice Af 0 cf)) Tryz.underlying32 rfl (by kernel_rfl)) rfl ?_
              have f1:From (w6.heap.size + 1) (.slice (some ⟨wr.heap.size,0,none⟩) 1 1):=fun q hq=>(show wr.heap.size = q by simpa [Value.ownBlock] using hq) ▸ K13.out.2.2.2.2.2.1
              have f2:=K13.out.2.2.2.2.2.2
              rw [hDD.out]
              exact ⟨.slice (some ⟨wr.heap.size,0,none⟩) 1 1, .slice Af 0 cf,rfl,(K13.out.2.2.1.far f1 (p:=⟨w6.heap.size,1,none⟩) (by show w6.heap.size < _; omega) _).set4 f1 (by omega) _ _ _ _,(K13.out.2.2.2.1.far f2 (p:=⟨w6.heap.size,1,none⟩) (by show w6.heap.size < _; omega) _).set4 f2 (by omega) _ _ _ _,
                fun q hq=>by have:=f1 q hq; omega,fun q hq=>by have:=f2 q hq; omega,Below.set4 (HB.out.trans ((B6.trans ((K13.out.2.2.2.2.1.setCell (p:=⟨w6.heap.size,1,none⟩) (Nat.le_refl _) _).mono B6.size)).mono (by omega))) (by omega) _ _ _ _⟩
            · have hDD:=Lib.hid (HD1.out (by omega))
              subst hni0
              go_wp2_with fail
              refine bodyPost_ret_by (results_cell_two (by rfl) _ _ (w.heap.size + 1) _ _ _ _ _ rfl rfl (Bx4.setAll (cells13.out (.bool true)).1 (.bool tn) _ (.bool true) (.slice Af nf cf)) Tryz.underlying32 rfl (by kernel_rfl)) rfl ?_
              have c13:=cells13.out (.bool true)
              have hf:=fin.out _ c13.1 c13.2.1 c13.2.2.1 _ _ c13.2.2.2.1 c13.2.2.2.2 (.bool tn) (.bool true)
              rw [hDD.out,decide_eq_true hnf1]
              exact ⟨.slice A8 0 c8, .slice Af nf cf,rfl,hf⟩
          · have hDD:=Lib.hid (HD1.out (by omega))
            go_wp2_with fail
            refine bodyPost_ret_by (results_cell_two (by rfl) _ _ (w.heap.size + 1) _ _ _ _ _ rfl rfl (Bx4.setAll (cells13.out (.bool (decide (0 < nf)))).1 (.bool tn) _ (.bool (decide (0 < nf))) (.slice Af nf cf)) Tryz.underlying32 rfl (by kernel_rfl)) rfl ?_
            have c13:=cells13.out (.bool (decide (0 < nf)))
            have hf:=fin.out _ c13.1 c13.2.1 c13.2.2.1 _ _ c13.2.2.2.1 c13.2.2.2.2 (.bool tn) (.bool (decide (0 < nf)))
            rw [hDD.out]
            exact ⟨.slice A8 ni c8, .slice Af nf cf,rfl,hf⟩
end Go.Proofs.YteiomfgehlojeaaGreatDoor
end
section
namespace Go.Proofs.YteiomfgehlojeaaGreatDoor
open Go.RowKit Go.Sym
theorem hasR_dr {B:Base} {k:Nat} {d:Dr} (hk:k < 1023) (h1:B.A (8 * k) = some (.bool d.neg)) (h2:B.A (8 * k + 4) = some (.bool d.sep)) (h3:B.A (gid k) = some (.agg (ints d.int).toArray)) (h4:B.A (gid (k + 1)) = some (.agg (ints d.frac).toArray)) :
    HasR B (.at_ (8 * k)) k (.at_ (8 * k + 4)) (k + 1) d:=⟨⟨by omega,h3⟩,⟨by omega,h4⟩, .atm h1, .atm h2⟩
def decOf (d:Dr):Dc:=trimD ⟨d.neg,d.int ++ d.frac,d.frac.length⟩
theorem rcCommit_any (vi vf:Value) (R:Rl) (d:Dr) (w:World) (hR:RlOK w R) (hd:DrOK w vi vf d) (lx:(decOf d).l.length ≤ 40) (sx:(decOf d).s ≤ R.sc) (hb:(atK R.sc (decOf d)).natAbs < 10 ^ 40)
    (z:Dc) (hz:clampD (al R.sc (atK R.sc (decOf d))) R.lo R.hi = z) (dz:Dg z.l) (lz:z.l.length ≤ 100) (sz:z.s ≤ 100) (hmi:R.mi ≤ 64) (hmf:R.mf ≤ 64) :
    Calls Tryz.prog 14 #[.agg R.cells,drv vi vf d] w fun e w'=>∃ vi' vf',e = .returned (.tuple #[drv vi' vf' (fromDr z R.mi R.mf), .int .i64 0])∧IsInts w' vi' (fromDr z R.mi R.mf).int∧IsInts w' vf' (fromDr z R.mi R.mf).frac∧From' w.heap.size vi' (fromDr z R.mi R.mf).int∧From' w.heap.size vf' (fromDr z R.mi R.mf).frac∧Below w.heap.size w w':=by
  have N:=hR.num
  obtain ⟨x,hx⟩:∃ x,decOf d = x:=⟨_,rfl⟩
  have dx:Dg x.l:=by rw [← hx]; exact trimD_dg _ (hd.di.append hd.df)
  rw [hx] at lx sx hb hz
  obtain ⟨r,hr⟩:∃ r,fromDr z R.mi R.mf = r:=⟨_,rfl⟩
  rw [hr]
  let L:=rlAl R ++ drAl 4 d ++ dAl 6 x ++ dAl 7 z ++ drAl 8 r
  have hRl:HasRl (bas w L) R:=⟨⟨⟨by decide,rfl⟩,rfl,rfl⟩,⟨⟨by decide,rfl⟩,rfl,rfl⟩,⟨⟨by decide,rfl⟩,rfl,rfl⟩,rfl,rfl,rfl,rfl,rfl,rfl,rfl⟩
  have hA:HasR (bas w L) (.at_ 32) 4 (.at_ 36) 5 d:=hasR_dr (k:=4) (by decide) rfl rfl rfl rfl
  have h6:HasD (bas w L) 6 x:=⟨⟨by decide,rfl⟩,rfl,rfl⟩
  have h7:HasD (bas w L) 7 z:=⟨⟨by decide,rfl⟩,rfl,rfl⟩
  have h8:HasR (bas w L) (.at_ 64) 8 (.at_ 68) 9 r:=hasR_dr (k:=8) (by decide) rfl rfl rfl rfl
  have h:Ent2OK (bas w L) Tryz.prog ⟨14,[rlP R.sg,drG (.at_ 32) 4 (.at_ 36) 5], .tup [drG (.at_ 64) 8 (.at_ 68) 9, .val (.int .i64 0)]⟩:=by
    refine run_mk (by kernel_rfl) rfl (T:=tbL [] [] [] []) (tbL_ok nilF nilF nilF nilF)
      (orc:=ent2A [⟨42,[drG (.at_ 32) 4 (.at_ 36) 5], .val (.bool true)⟩,⟨15,[drG (.at_ 32) 4 (.at_ 36) 5],decP 6⟩,⟨43,[rlP R.sg,decP 6], .tup [decP 7, .val (.int .i64 0)]⟩,⟨44,[decP 7, .at_ 4016, .at_ 4020], .tup [drG (.at_ 64) 8 (.at_ 68) 9, .val (.int .i64 0)]⟩]) (ent2_ok ?_) ⟨hRl.wf,hA.wf,trivial⟩ ⟨h8.wf,trivial,trivial⟩ (by generalize R.sg = sg; cases sg <;> kernel_rfl)
    refine consF (ent_mk [drA hA] (scR (.val (.bool true)) rfl) ?_) (consF (ent_mk [drA hA] (deR h6.g) ?_) (consF (ent_mk [rlA hRl,deA h6.g] (detR' h7.g) ?_) (consF (ent_mk [deA h7.g,scA (.atm hRl.mi),scA (.atm hRl.mf)] (drtR h8) ?_) nilF)))
    · rintro w _ ⟨_,_,rfl,⟨vi,vf,rfl,h1,h2⟩,rfl⟩
      exact (rhMay_any vi vf d w ⟨h1,h2,hd.di,hd.df,hd.li,hd.lf,hd.sp⟩).mono (by rintro e w' ⟨rfl,hb⟩; exact ⟨_,rfl,rfl,hb⟩)
    · rintro w _ ⟨_,_,rfl,⟨vi,vf,rfl,h1,h2⟩,rfl⟩
      have:=rhDec_any vi vf d w ⟨h1,h2,hd.di,hd.df,hd.li,hd.lf,hd.sp⟩
      rw [show trimD ⟨d.neg,d.int ++ d.frac,d.frac.length⟩ = x from hx] at this
      exact this.mono (by rintro e w' ⟨sl,rfl,hi,hf,hb⟩; exact ⟨_,rfl,⟨_,rfl,hi,hf⟩,hb⟩)
    · rintro w _ ⟨_,_,rfl,⟨v1,v2,v3,rfl,h1,h2,h3⟩,_,_,rfl,⟨v,rfl,hv⟩,rfl⟩
      have:=rvValue_any v (R.wv v1 v2 v3) x w (N.ok h1 h2 h3) hv dx lx sx hb
      have e:clampD (al (R.wv v1 v2 v3).sc (atK (R.wv v1 v2 v3).sc x)) (R.wv v1 v2 v3).lo (R.wv v1 v2 v3).hi = z:=hz
      rw [e] at this
      exact this.mono (by rintro e w' ⟨sl,rfl,hi,hf,hb⟩; exact ⟨_,rfl,⟨_,rfl,hi,hf⟩,hb⟩)
    · rintro w _ ⟨_,_,rfl,⟨v,rfl,hv⟩,_,_,rfl,rfl,_,_,rfl,rfl,rfl⟩
      have:=rhFrom_any v z R.mi R.mf w hv dz lz sz hmi hmf
      rw [hr] at this
      exact this.mono (by rintro e w' ⟨vi,vf,rfl,h1,h2,f1,f2,hb⟩; exact ⟨_,rfl,⟨_,_,rfl,h1,h2,fun _=>f1,fun _=>f2⟩,hb⟩)
  refine (h.2 w (bas_under _ _ _) [.agg R.cells,drv vi vf d] ⟨_,_,rfl,hRl.inn hR.ilo hR.ihi hR.ist (fun _=>trivial),_,_,rfl,hA.inn hd.ii hd.jf (fun _ _ _=>trivial) (fun _ _ _=>trivial),rfl⟩).mono ?_
  rintro e w' ⟨x,rfl,⟨ys,rfl,p,_,rfl,hp,q,_,rfl,hq,rfl⟩,hbl⟩
  obtain ⟨v,u,rfl,i1,i2,f1,f2⟩:=h8.out2 hp
  exact ⟨v,u,by rw [show q = .int .i64 0 from hq],i1,i2,f1,f2,hbl⟩
theorem dLen_any (vi vf:Value) (d:Dr) (w:World) (h:DrOK w vi vf d) :
    Calls Tryz.prog 149 #[drv vi vf d] w fun e w'=>e = .returned (.int .i64 (atomsL d).length)∧Below w.heap.size w w':=by
  let L:=drAl 4 d ++ lAl 6 (atomsL d) ++ [(200,Value.int .i64 (ints (atomsL d)).toArray.size)]
  have hA:HasR (bas w L) (.at_ 32) 4 (.at_ 36) 5 d:=hasR_dr (k:=4) (by decide) rfl rfl rfl rfl
  have h6:HasL (bas w L) 6 (atomsL d):=⟨by decide,rfl⟩
  have h':Ent2OK (bas w L) Tryz.prog ⟨149,[drG (.at_ 32) 4 (.at_ 36) 5], .at_ 200⟩:=by
    refine run_mk (by kernel_rfl) rfl (T:=tbL [] [] [] [⟨6, .atom 200⟩]) (tbL_ok nilF nilF nilF (consF ⟨_,rfl,rfl⟩ nilF))
      (orc:=ent2A [⟨203,[drG (.at_ 32) 4 (.at_ 36) 5], .ls 6⟩]) (ent2_ok ?_) ⟨hA.wf,trivial⟩ ⟨_,rfl⟩ (by kernel_rfl)
    refine consF (ent_mk [drA hA] (lsR h6) ?_) nilF
    rintro w _ ⟨_,_,rfl,⟨vi,vf,rfl,h1,h2⟩,rfl⟩
    exact (atoms_any vi vf d w ⟨h1,h2,h.di,h.df,h.li,h.lf,h.sp⟩).mono (by rintro e w' ⟨sl,rfl,ho,hb⟩; exact ⟨_,rfl,⟨IsInts.of_own ho,own_far ho (Nat.le_refl _)⟩,hb⟩)
  refine (h'.2 w (bas_under _ _ _) [drv vi vf d] ⟨_,_,rfl,hA.inn h.ii h.jf (fun _ _ _=>trivial) (fun _ _ _=>trivial),rfl⟩).mono ?_
  rintro e w' ⟨x,rfl,hx,hb⟩
  have e1:=(NP.atm (B:=bas w L) (v:=.int .i64 (ints (atomsL d)).toArray.size) rfl).out hx
  exact ⟨by rw [e1]; simp [ints_length],hb⟩
theorem dFits_any (vi vf:Value) (d:Dr) (m k:Nat) (w:World) (h1:IsInts w vi d.int) (h2:IsInts w vf d.frac) (hm:d.int.length ≤ m) (hk:d.frac.length ≤ k) :
    Calls Tryz.prog 32 #[drv vi vf d, .int .i64 m, .int .i64 k] w fun e w'=>e = .returned (.bool true)∧Below w.heap.size w w':=by
  let L:=drAl 4 d ++ [(200,Value.int .i64 (ints d.int).toArray.size),(204,Value.int .i64 (ints d.frac).toArray.size),(208,Value.int .i64 m),(212,Value.int .i64 k)]
  have hA:HasR (bas w L) (.at_ 32) 4 (.at_ 36) 5 d:=hasR_dr (k:=4) (by decide) rfl rfl rfl rfl
  have h':Ent2OK (bas w L) Tryz.prog ⟨32,[drG (.at_ 32) 4 (.at_ 36) 5, .at_ 208, .at_ 212], .val (.bool true)⟩:=by
    refine run_mk (by kernel_rfl) rfl (T:=tbL [⟨.leq, .atom 200, .atom 208, .lit (.bool true)⟩,⟨.leq, .atom 204, .atom 212, .lit (.bool true)⟩] [] [] [⟨4, .atom 200⟩,⟨5, .atom 204⟩]) (tbL_ok ?_ nilF nilF (consF ⟨_,rfl,rfl⟩ (consF ⟨_,rfl,rfl⟩ nilF)))
      (orc:=ent2A []) (ent2_ok nilF) ⟨hA.wf,⟨_,rfl⟩,⟨_,rfl⟩,trivial⟩ trivial (by kernel_rfl)
    exact consF (binI (x:=((ints d.int).toArray.size:Int)) (y:=m) rfl rfl rfl (run_leqI (by simp [ints_length]; exact hm))) (consF (binI (x:=((ints d.frac).toArray.size:Int)) (y:=k) rfl rfl rfl (run_leqI (by simp [ints_length]; exact hk))) nilF)
  refine (h'.2 w (bas_under _ _ _) [drv vi vf d, .int .i64 m, .int .i64 k] ⟨_,_,rfl,hA.inn h1 h2 (fun _ _ _=>trivial) (fun _ _ _=>trivial),_,_,rfl,⟨rfl,rfl⟩,_,_,rfl,⟨rfl,rfl⟩,rfl⟩).mono ?_
  rintro e w' ⟨x,rfl,hx,hb⟩
  exact ⟨by rw [show x = .bool true from hx],hb⟩
end Go.Proofs.YteiomfgehlojeaaGreatDoor
end
section
namespace Go.Proofs.YteiomfgehlojeaaGreatDoor
open Go.RowKit
theorem own_cut0 {w:World} {B:Nat} {t:TypeId} {A:Option Addr} {n c:Nat} {xs:List Value} (h:w.ownsRow B t 1 (.slice A n c) n xs) (hn:0 < n):w.ownsRow B t 1 (.slice A 0 c) 0 []:=by
  rcases h.2 with ⟨h0,_⟩ | ⟨g,cap,cur,he,hb,hg,h1,h2,h3,h4⟩
  · injection h0 with e1 e2 e3
    omega
  · injection he with e1 e2 e3
    subst e1 e3
    exact ⟨by simp, .inr ⟨g,c,cur,rfl,hb,hg,Nat.zero_le _,h2,h3,by simp⟩⟩
set_option maxRecDepth 100000 in
set_option maxHeartbeats 2000000 in
theorem growNil_any (n:Nat) (w:World) (hn:n ≤ 1000) :
    Calls Tryz.prog 154 #[.slice none 0 0, .int .i64 n] w fun e w'=>∃ v',e = .returned v'∧w'.ownsRow w.heap.size 3 1 v' 0 []∧Below w.heap.size w w':=by
  obtain ⟨i0,hi,hz0,hz1,hz2⟩:=info_parts info_int
  have g1:¬ ((n:Int) < 0):=by omega
  have hw1:IntKind.i64.wrap ((n:Int) - 0) = (n:Int):=by rw [wrap_in _ (by omega) (by omega)]; omega
  have hw2:IntKind.i64.wrap (n:Int) = (n:Int):=wrap_in _ (by omega) (by omega)
  rcases Nat.eq_zero_or_pos n with h0 | h0
  · subst h0
    go_enter Tryz.func154,Tryz.ntmps154
    go_wp2_with fail
    go_ret
    exact ⟨_,rfl,World.ownsRow_nil _ _ _ _,Below.refl _ _⟩
  · go_enter Tryz.func154,Tryz.ntmps154
    go_wp2_with (first
      | (at_builtin
         refine wpList_append_zeros _ rfl _ _ 24 3 rfl w.heap.size 3 i0 Tryz.underlying24 Tryz.underlying3 hi hz0 hz1 hz2 (.slice none 0 0) 0 [] (by simp [Act.eval,Act.put]) (World.ownsRow_nil _ _ _ _) n (by simp [Act.eval,Act.put]) (by omega) (Nat.le_refl _) ?_
         intro v1 w1 hown1 hgrow1
         have X1:Aside (w1.ownsRow w.heap.size 3 1 v1 n (List.replicate n (.int .i64 0))∧Below w.heap.size w w1):=⟨by simpa using hown1,(Below.refl _ w).grown hgrow1 (Nat.le_refl _) (fun k h=>by simp [Value.ownBlock] at h)⟩
         obtain ⟨A1,c1,rfl⟩:=own_form X1.out.1
         clear hown1 hgrow1))
    go_ret
    exact ⟨_,rfl,own_cut0 X1.out.1 h0,X1.out.2⟩
set_option maxRecDepth 100000 in
set_option maxHeartbeats 2000000 in
theorem concat_any (g:Nat) (u v:Value) (a b:List Int) (w:World) (hu:w.cell? ⟨g,0,none⟩ = some u) (hv:w.cell? ⟨g,1,none⟩ = some v) (ha:IsInts w u a) (hb:IsInts w v b) (la:a.length ≤ 200) (lb:b.length ≤ 200) :
    Calls Tryz.prog 75 #[.slice (some ⟨g,0,none⟩) 2 2] w fun e w'=>∃ v',e = .returned v'∧w'.ownsRow w.heap.size 3 1 v' (a ++ b).length (ints (a ++ b))∧Below w.heap.size w w':=by
  obtain ⟨i0,hi,hz0,hz1,hz2⟩:=info_parts info_int
  obtain ⟨na,hna⟩:∃ n,a.length = n:=⟨_,rfl⟩
  obtain ⟨nb,hnb⟩:∃ n,b.length = n:=⟨_,rfl⟩
  obtain ⟨Aa,ca,rfl⟩:∃ A c,u = .slice A na c:=by obtain ⟨A,c,h⟩:=ha.form; exact ⟨A,c,by rw [h,← hna]⟩
  obtain ⟨Ab,cb,rfl⟩:∃ A c,v = .slice A nb c:=by obtain ⟨A,c,h⟩:=hb.form; exact ⟨A,c,by rw [h,← hnb]⟩
  have hgl:g < w.heap.size:=World.block_lt_of_cell? w _ hu
  have HU:=Lib.hid (fun W (hB:Below w.heap.size w W)=>And.intro ((hB.cell (p:=⟨g,0,none⟩) hgl).trans hu) ((hB.cell (p:=⟨g,1,none⟩) hgl).trans hv))
  have HA:=Lib.hid (fun W (hB:Below w.heap.size w W)=>ha.below hB (Nat.le_refl _))
  have HB:=Lib.hid (fun W (hB:Below w.heap.size w W)=>hb.below hB (Nat.le_refl _))
  have HNA:=Lib.hid hna
  have HNB:=Lib.hid hnb
  rw [hna] at la
  rw [hnb] at lb
  have hw1:IntKind.i64.wrap ((na:Int) + (nb:Int)) = ((na + nb:Nat):Int):=by rw [wrap_in _ (by omega) (by omega)]; omega
  have hw2:IntKind.i64.wrap (na:Int) = (na:Int):=wrap_in _ (by omega) (by omega)
  have g1:¬ ((na:Int) < 0):=by omega
  have g2:¬ (((na + nb:Nat):Int) < 0):=by omega
  have HG:=Lib.hid (growNil_any (na + nb) w (by omega))
  clear ha hb hna hnb
  go_enter Tryz.func75,Tryz.ntmps75
  go_wp2_with fail
  refine wp_loop_rounds 3 ?_
  rw [rounds_succ]
  go_wp2_with fail
  rw [rounds_succ]
  go_wp2_with fail
  rw [rounds_succ]
  go_wp2_with fail
  refine HG.out.mono ?_
  rintro e w3 ⟨v3,rfl,o3,b3⟩
  obtain ⟨A3,c3,rfl⟩:=own_form o3
  obtain ⟨hu3,hv3⟩:=HU.out _ b3
  clear hu hv
  have hle1:Hid (0 + a.length ≤ 1000000):=by show _ ≤ _; have:=HNA.out; omega
  have hle2:Hid (na + b.length ≤ 1000000):=by show _ ≤ _; have:=HNB.out; omega
  have X3:Aside (w3.ownsRow w.heap.size 3 1 (.slice A3 0 c3) 0 []∧Below w.heap.size w w3):=⟨o3,b3⟩
  clear o3 b3
  go_wp2_with fail
  refine wp_loop_rounds 3 ?_
  rw [rounds_succ]
  go_wp2_with (first
    | (at_builtin
       refine wpList_append_ints _ rfl _ _ 24 rfl w.heap.size 3 i0 Tryz.underlying24 hi hz0 hz1 hz2 (.slice A3 0 c3) 0 [] (by simp [Act.eval,Act.put]) X3.out.1 (.slice Aa na ca) a (by simp [Act.eval,Act.put]) (HA.out _ X3.out.2) hle1.out X3.out.2.size ?_
       intro v4 w4 hown4 hgrow4
       have X4:Aside (w4.ownsRow w.heap.size 3 1 v4 na (ints a)∧Below w.heap.size w w4):=⟨by have:=hown4; simp only [Nat.zero_add,List.nil_append,HNA.out] at this; exact this,X3.out.2.grown hgrow4 X3.out.2.size (fun j hj=>(X3.out.1.lt j hj).1)⟩
       obtain ⟨A4,c4,rfl⟩:=own_form X4.out.1
       obtain ⟨hu4,hv4⟩:=HU.out _ X4.out.2
       clear hown4 hgrow4))
  clear hu3 hv3
  rw [rounds_succ]
  go_wp2_with (first
    | (at_builtin
       refine wpList_append_ints _ rfl _ _ 24 rfl w.heap.size 3 i0 Tryz.underlying24 hi hz0 hz1 hz2 (.slice A4 na c4) na (ints a) (by simp [Act.eval,Act.put]) X4.out.1 (.slice Ab nb cb) b (by simp [Act.eval,Act.put]) (HB.out _ X4.out.2) hle2.out X4.out.2.size ?_
       intro v5 w5 hown5 hgrow5
       have X5:Aside (w5.ownsRow w.heap.size 3 1 v5 (a ++ b).length (ints (a ++ b))∧Below w.heap.size w w5):=⟨by rw [List.length_append,HNA.out,ints_append]; exact hown5,X4.out.2.grown hgrow5 X4.out.2.size (fun j hj=>(X4.out.1.lt j hj).1)⟩
       clear hown5 hgrow5))
  rw [rounds_succ]
  go_wp2_with fail
  go_ret
  exact ⟨_,rfl,X5.out.1,X5.out.2⟩
end Go.Proofs.YteiomfgehlojeaaGreatDoor
end
