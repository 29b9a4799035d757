/- The claim TopSteps, part 8 of 46: Sy9, Sy10, ELaw, Nm1, Nm2, ERec, EAl0, EAl1, EAl2, EAl3, EAl4, EAl5, EAl6, EAl7, EAl8, EAl9, EAl10, EAl11, EAl12, EAlive, Wi0, Wi6, Wi7, Wi8, Jo1, Jo6, Jo9, Jo10, Jo11, Jo12, Jg0, Jg1, Jg2, Jg3, Jg4, Jg5, Jg6, Jg7, Jo13 -/
import Derived.Test.YteiomfgehlojeaaGreatDoorK07
import Derived.Test.YteiomfgehlojeaaGreatDoorK05
import Derived.Test.YteiomfgehlojeaaGreatDoorK03
import Derived.Test.YteiomfgehlojeaaGreatDoorK02
import Derived.Test.YteiomfgehlojeaaGreatDoorK06
import Derived.RangeFuncNested
import Derived.RangeFuncLeaves
import Derived.Shelf.Abstract
import Derived.WalkKit
import Derived.OwnWalkIn
import Derived.TacticsInMore
import Derived.LoopNIn
import Derived.LoopIn
import Derived.Lib.Hide
import Derived.Test.YteiomfgehlojeaaGreatDoorRows
import Derived.LaidHandle
import Derived.Lay
import Derived.LaidLaws
import Derived.WideWitness
import Derived.ProofKit
import Derived.Test.YteiomfgehlojeaaGreatDoorProg
import Derived.JoinedOf
import Derived.SevenTiedAt
set_option linter.unusedVariables false
set_option linter.unusedSimpArgs false
section
namespace Go.Proofs.YteiomfgehlojeaaGreatDoor
open Go.RowKit Go.Sym
theorem basW_cell {w w':World} {l:List (Nat × Value)} (h:Under (basW w l) w') {p:Addr} (hp:p.block < w.heap.size):w'.cell? p = w.cell? p:=by
  unfold World.cell?
  rw [h.old _ hp]
  rfl
theorem run_mkW {B:Base} {w:World} {l:List (Nat × Value)} (hev:evL l = true) (hB:B = basW w l) {orc:CallT} {T:Tb} (hT:TbOK Tryz.prog B T) (ho:CallOK B Tryz.prog orc) {f:Nat} {ps:List Pat} {r:Pat} (hw:WfPs B ps) (hr:WfP B r)
    (hrun:(match callE B T orc f (bldPs 0 ps).1 { nc:=(bldPs 0 ps).2 } with
      | some (x,_)=>matP (bldPs 0 ps).2 r x
      | none=>false) = true):Ent2OK B Tryz.prog ⟨f,ps,r⟩:=by
  refine ent2_of (by rw [hB]; exact ev_of hev) (callE_ok hT ho) (a:=(bldPs 0 ps).1) (c:=(bldPs 0 ps).2) rfl hw hr hrun
theorem ent_mkU {B:Base} {P:Program} {f:Nat} (l:List (Arg B)) (r:Ans B) (h:∀ (w:World) (xs:List Value),Under B w→AllA l w xs→Calls P f xs.toArray w fun e w'=>∃ x,e = .returned x∧r.P w.heap.size w' x∧Below w.heap.size w w'):Ent2OK B P ⟨f,l.map (·.p),r.p⟩:=by
  refine ⟨wf_all l,fun w hu xs hx=>(h w xs hu (all_of hx)).mono ?_⟩
  rintro e w' ⟨x,rfl,hx,hb⟩
  exact ⟨x,rfl,r.inn _ _ _ hx,hb⟩
def pdD (d:Dc):Dc:=⟨d.neg,wideL d.l (d.s + 1),d.s⟩
theorem num_wide (l:List Int) (n:Nat):num (wideL l n) = num l:=by
  unfold wideL
  rw [num_append,num_zeros]
  omega
theorem trim_pd (d:Dc) (h:Dg d.l):trimD (pdD d) = trimD d:=trimD_num d.s (h.wideL _) h (num_wide _ _)
theorem stripZ_bal:∀ (s:Nat) (l:List Int),(stripZ l s).1.length + s = l.length + (stripZ l s).2
  | 0,_=>rfl
  | s + 1,l=>by
    rw [stripZ]
    split
    · rename_i h
      have hne:l ≠ []:=by rintro rfl; simp at h
      have hl:0 < l.length:=List.length_pos_iff.2 hne
      have:=stripZ_bal s l.dropLast
      rw [List.length_dropLast] at this
      omega
    · rfl
theorem trim_whole (d:Dc) (I:Nat) (h:d.l.length ≤ I + d.s):(wholeD (trimD d)).length ≤ I:=by
  have h1:(trimD d).l.length ≤ I + (trimD d).s:=by
    unfold trimD
    split
    · simp
    · have h2:=stripZ_bal d.s (trimL d.l)
      have h3:(trimL d.l).length ≤ d.l.length:=(List.dropWhile_sublist _).length_le
      show (stripZ (trimL d.l) d.s).1.length ≤ I + (stripZ (trimL d.l) d.s).2
      omega
  unfold wholeD
  have h2:=trimL_le ((wideL (trimD d).l (trimD d).s).take ((wideL (trimD d).l (trimD d).s).length - (trimD d).s))
  rw [List.length_take,wideL_len] at h2
  rw [wideL_len]
  omega
theorem trim_rest (d:Dc):(restD (trimD d)).length ≤ d.s:=by
  have:=trimD_s d
  unfold restD
  rw [List.length_drop,wideL_len]
  omega
def modeL:List (List UInt8):=[[100,111,119,110],[117,112],[102,108,111,111,114],[99,101,105,108],[104,97,108,102,100,111,119,110],[104,97,108,102,117,112],[104,97,108,102,101,118,101,110]]
theorem mode_run (m:Nat) (hm:m ≤ 6) (w:World):Calls Tryz.prog 144 #[.int .i64 m] w fun e w'=>e = .returned (sB (modeL.getD m []))∧Below w.heap.size w w':=by
  have h:Ent2OK (bas w []) Tryz.prog ⟨144,[.val (.int .i64 m)], .val (sB (modeL.getD m []))⟩:=by
    refine run_mk (by kernel_rfl) rfl (T:=noTb) noTb_ok (orc:=noOrc) noOrc_ok ⟨trivial,trivial⟩ trivial ?_
    rcases (show m = 0∨m = 1∨m = 2∨m = 3∨m = 4∨m = 5∨m = 6 by omega) with rfl | rfl | rfl | rfl | rfl | rfl | rfl <;> kernel_rfl
  refine (h.2 w (bas_under _ _ _) [.int .i64 m] ⟨_,_,rfl,rfl,rfl⟩).mono ?_
  rintro e w' ⟨x,rfl,hx,hb⟩
  exact ⟨by rw [show x = _ from hx],hb⟩
theorem mode_ne (m:Nat) (hm:m ≤ 6):(⟨(modeL.getD m []).toArray⟩:ByteArray) ≠ ⟨#[]⟩:=by
  intro e
  have:=sB_inj (b:=[]) e
  rcases (show m = 0∨m = 1∨m = 2∨m = 3∨m = 4∨m = 5∨m = 6 by omega) with rfl | rfl | rfl | rfl | rfl | rfl | rfl <;> cases this
theorem Cg.d1_ok (g:Cg):Dg g.D1.l∧g.D1.l.length ≤ g.IC + g.SC∧g.D1.s = g.SC:=⟨goodL_dg _ _,by show (goodL _ _).length ≤ _; rw [goodL_len]; omega,rfl⟩
theorem Cg.d2_ok (g:Cg):Dg g.D2.l∧g.D2.l.length ≤ g.IC + g.SC∧g.D2.s = g.SC:=⟨goodL_dg _ _,by show (goodL _ _).length ≤ _; rw [goodL_len]; omega,rfl⟩
theorem Cg.low_ok (g:Cg):Dg g.Low.l∧g.Low.l.length ≤ g.IC + g.SC∧g.Low.s = g.SC:=by unfold Cg.Low; split <;> first | exact g.d2_ok | exact g.d1_ok
theorem Cg.high_ok (g:Cg):Dg g.High.l∧g.High.l.length ≤ g.IC + g.SC∧g.High.s = g.SC:=by unfold Cg.High; split <;> first | exact g.d1_ok | exact g.d2_ok
theorem Cg.step_ok (g:Cg):Dg g.Step.l∧g.Step.l.length ≤ g.IC + g.SC∧g.Step.s = g.SC:=by
  have:=g.st_bd
  have:=g.ic_bd
  refine ⟨fun x hx=>?_,by show [g.st].length ≤ _; simp; omega,rfl⟩
  have:x = g.st:=by simpa [Cg.Step] using hx
  omega
theorem trim2 (d:Dc) (h:Dg d.l):trimD (trimD d) = trimD d:=by
  rw [trimD_eq d.s d h (Nat.le_refl _),trim_cz]
theorem cmp_trim (K:Nat) (a b:Dc) (ha:Dg a.l) (hb:Dg b.l) (sa:a.s ≤ K) (sb:b.s ≤ K):cmpD (trimD a) (trimD b) = cmp3 (atK K a) (atK K b):=by
  rw [trimD_eq K a ha sa,trimD_eq K b hb sb,cmpD_cz]
theorem Cg.lo_hi (g:Cg):¬ 0 < cmpD (trimD g.Low) (trimD g.High):=by
  have h:=cmp_trim g.SC g.D1 g.D2 g.d1_ok.1 g.d2_ok.1 (Nat.le_of_eq g.d1_ok.2.2) (Nat.le_of_eq g.d2_ok.2.2)
  have h':=cmp_trim g.SC g.D2 g.D1 g.d2_ok.1 g.d1_ok.1 (Nat.le_of_eq g.d2_ok.2.2) (Nat.le_of_eq g.d1_ok.2.2)
  by_cases ht:g.turn = true
  · have h1:0 < cmpD (trimD g.D1) (trimD g.D2):=of_decide_eq_true ht
    unfold Cg.Low Cg.High
    rw [if_pos ht,if_pos ht,h']
    rw [h] at h1
    unfold cmp3 at h1 ⊢
    split at h1
    · omega
    · split at h1
      · omega
      · rw [if_pos (by omega)]; omega
  · have h1:¬ 0 < cmpD (trimD g.D1) (trimD g.D2):=fun e=>ht (decide_eq_true e)
    unfold Cg.Low Cg.High
    rw [if_neg ht,if_neg ht]
    exact h1
theorem Cg.step_pos (g:Cg):cmpD (trimD g.Step) (trimD ⟨false,[],0⟩) = 1:=by
  rw [cmp_trim g.SC g.Step ⟨false,[],0⟩ g.step_ok.1 Dg.nil (Nat.le_of_eq g.step_ok.2.2) (Nat.zero_le _),atK_zero]
  have hst:=g.st_bd
  have:0 < atK g.SC g.Step:=by
    unfold atK
    rw [if_neg (by simp [Cg.Step])]
    have h1:num g.Step.l = g.st.toNat:=by show num [g.st] = _; rw [num_cons,num_nil]; simp
    have h2:g.SC - g.Step.s = 0:=by rw [g.step_ok.2.2]; omega
    rw [h1,h2]
    simp
    omega
  unfold cmp3
  rw [if_neg (by omega),if_neg (by omega)]
def rulV (v1 v2 v3:Value) (g:Cg):Value:=.agg #[.bool (trimD g.Low).neg,v1, .int .i64 (trimD g.Low).s, .bool (trimD g.High).neg,v2, .int .i64 (trimD g.High).s, .bool (trimD g.Step).neg,v3, .int .i64 (trimD g.Step).s, .bool (trimD g.Low).neg, .int .i64 g.IC, .int .i64 g.FC, .int .i64 g.SC, .int .i64 g.MI, .int .i64 g.MF, .int .i64 g.MD, .int .i64 g.HI]
def cfgV' (dL dH dS:Dc) (ic fc sc mi mf md hi:Nat):Value:=.agg #[.string ⟨(prL dL).toArray⟩, .string ⟨(prL dH).toArray⟩, .string ⟨(prL dS).toArray⟩, .int .i64 ic, .int .i64 fc, .int .i64 sc, .int .i64 mi, .int .i64 mf, .int .i64 md, .int .i64 hi]
def rulV' (v1 v2 v3:Value) (dL dH dS:Dc) (ic fc sc mi mf md hi:Nat):Value:=.agg #[.bool (trimD dL).neg,v1, .int .i64 (trimD dL).s, .bool (trimD dH).neg,v2, .int .i64 (trimD dH).s, .bool (trimD dS).neg,v3, .int .i64 (trimD dS).s, .bool (trimD dL).neg, .int .i64 ic, .int .i64 fc, .int .i64 sc, .int .i64 mi, .int .i64 mf, .int .i64 md, .int .i64 hi]
set_option maxHeartbeats 1000000 in
theorem cfgNew_core (dL dH dS:Dc) (ic fc sc mi mf md hi:Nat) (mx:Int) (w:World) (hm:w.cell? ⟨1,0,none⟩ = some (.int .i64 mx)) (i1:1 ≤ ic) (i2:ic ≤ 8) (f1:fc ≤ 5) (s1:sc ≤ fc) (m1:mi ≤ ic) (n1:mf ≤ sc) (o1:md ≤ 6) (p1:1 ≤ hi) (p2:hi ≤ 6)
    (lo1:Dg dL.l) (lo2:dL.l.length ≤ ic + sc) (lo3:dL.s = sc) (hi1:Dg dH.l) (hi2:dH.l.length ≤ ic + sc) (hi3:dH.s = sc) (st1:Dg dS.l) (st2:dS.l.length ≤ ic + sc) (st3:dS.s = sc)
    (hcmp:¬ 0 < cmpD (trimD dL) (trimD dH)) (hpos:cmpD (trimD dS) (trimD ⟨false,[],0⟩) = 1) :
    Calls Tryz.prog 26 #[cfgV' dL dH dS ic fc sc mi mf md hi] w fun e w'=>∃ v1 v2 v3,e = .returned (.tuple #[rulV' v1 v2 v3 dL dH dS ic fc sc mi mf md hi, .nilIface])∧IsInts w' v1 (trimD dL).l∧IsInts w' v2 (trimD dH).l∧IsInts w' v3 (trimD dS).l ∧
      From' w.heap.size v1 (trimD dL).l∧From' w.heap.size v2 (trimD dH).l∧From' w.heap.size v3 (trimD dS).l∧Below w.heap.size w w':=by
  have hlt1:1 < w.heap.size:=World.block_lt_of_cell? w _ hm
  let L:List (Nat × Value):=[(12300, .string ⟨(prL dL).toArray⟩),(12304, .string ⟨(prL dH).toArray⟩),(12308, .string ⟨(prL dS).toArray⟩),(4004, .int .i64 ic),(4008, .int .i64 fc),
    (4012, .int .i64 sc),(4016, .int .i64 mi),(4020, .int .i64 mf),(4024, .int .i64 md),(4028, .int .i64 hi),
    (6000,sB (modeL.getD md [])),(6004, .int .i64 (cmpD (trimD dL) (trimD dH))),(248, .bool dL.neg),(126, .agg (ints (wideL dL.l (dL.s + 1))).toArray),(8, .bool (trimD dL).neg),
    (12, .int .i64 (trimD dL).s),(6, .agg (ints ((trimD dL).l)).toArray),(166, .agg (ints (wholeD (trimD dL))).toArray),(170, .agg (ints (restD (trimD dL))).toArray),(7164, .int .i64 (wholeD (trimD dL)).length),
    (7168, .int .i64 (restD (trimD dL)).length),(256, .bool dH.neg),(130, .agg (ints (wideL dH.l (dH.s + 1))).toArray),(16, .bool (trimD dH).neg),(20, .int .i64 (trimD dH).s),
    (10, .agg (ints ((trimD dH).l)).toArray),(174, .agg (ints (wholeD (trimD dH))).toArray),(178, .agg (ints (restD (trimD dH))).toArray),(7172, .int .i64 (wholeD (trimD dH)).length),(7176, .int .i64 (restD (trimD dH)).length),
    (264, .bool dS.neg),(134, .agg (ints (wideL dS.l (dS.s + 1))).toArray),(24, .bool (trimD dS).neg),(28, .int .i64 (trimD dS).s),(14, .agg (ints ((trimD dS).l)).toArray),
    (182, .agg (ints (wholeD (trimD dS))).toArray),(186, .agg (ints (restD (trimD dS))).toArray),(7180, .int .i64 (wholeD (trimD dS)).length),(7184, .int .i64 (restD (trimD dS)).length)]
  have hA:(basW w L).A 4012 = some (Value.int .i64 (sc:Nat)):=rfl
  have P1:HasG (basW w L) (.at_ 248) 31 (.at_ 4012) (pdD dL):=⟨⟨by decide,rfl⟩, .atm rfl, .atm (hA.trans (by rw [show (pdD dL).s = sc from lo3]))⟩
  have P2:HasG (basW w L) (.at_ 256) 32 (.at_ 4012) (pdD dH):=⟨⟨by decide,rfl⟩, .atm rfl, .atm (hA.trans (by rw [show (pdD dH).s = sc from hi3]))⟩
  have P3:HasG (basW w L) (.at_ 264) 33 (.at_ 4012) (pdD dS):=⟨⟨by decide,rfl⟩, .atm rfl, .atm (hA.trans (by rw [show (pdD dS).s = sc from st3]))⟩
  have T1:HasD (basW w L) 1 (trimD dL):=⟨⟨by decide,rfl⟩,rfl,rfl⟩
  have T2:HasD (basW w L) 2 (trimD dH):=⟨⟨by decide,rfl⟩,rfl,rfl⟩
  have T3:HasD (basW w L) 3 (trimD dS):=⟨⟨by decide,rfl⟩,rfl,rfl⟩
  have W1:HasL (basW w L) 41 (wholeD (trimD dL)):=⟨by decide,rfl⟩
  have W2:HasL (basW w L) 43 (wholeD (trimD dH)):=⟨by decide,rfl⟩
  have W3:HasL (basW w L) 45 (wholeD (trimD dS)):=⟨by decide,rfl⟩
  have R1:HasL (basW w L) 42 (restD (trimD dL)):=⟨by decide,rfl⟩
  have R2:HasL (basW w L) 44 (restD (trimD dH)):=⟨by decide,rfl⟩
  have R3:HasL (basW w L) 46 (restD (trimD dS)):=⟨by decide,rfl⟩
  have h':Ent2OK (basW w L) Tryz.prog ⟨26,[.agg [.at_ 12300, .at_ 12304, .at_ 12308, .at_ 4004, .at_ 4008, .at_ 4012, .at_ 4016, .at_ 4020, .at_ 4024, .at_ 4028]],
      .tup [.agg [.at_ 8, .ls 1, .at_ 12, .at_ 16, .ls 2, .at_ 20, .at_ 24, .ls 3, .at_ 28, .at_ 8, .at_ 4004, .at_ 4008, .at_ 4012, .at_ 4016, .at_ 4020, .at_ 4024, .at_ 4028], .val .nilIface]⟩:=by
    refine run_mkW (by kernel_rfl) rfl (T:=tbL [⟨.lss, .atom 4004, .lit (.int .i64 1), .lit (.bool false)⟩,⟨.gtr, .atom 4004, .lit (.int .i64 64), .lit (.bool false)⟩,⟨.lss, .atom 4008, .lit (.int .i64 0), .lit (.bool false)⟩,⟨.gtr, .atom 4008, .lit (.int .i64 64), .lit (.bool false)⟩,
        ⟨.lss, .atom 4012, .lit (.int .i64 0), .lit (.bool false)⟩,⟨.gtr, .atom 4012, .atom 4008, .lit (.bool false)⟩,⟨.lss, .atom 4016, .lit (.int .i64 0), .lit (.bool false)⟩,⟨.gtr, .atom 4016, .atom 4004, .lit (.bool false)⟩,⟨.lss, .atom 4020, .lit (.int .i64 0), .lit (.bool false)⟩,⟨.gtr, .atom 4020, .atom 4012, .lit (.bool false)⟩,
        ⟨.lss, .atom 4028, .lit (.int .i64 1), .lit (.bool false)⟩,⟨.gtr, .atom 4028, .lit (.int .i64 1024), .lit (.bool false)⟩,⟨.eql, .atom 6000, .lit (.string ⟨#[]⟩), .lit (.bool false)⟩,⟨.gtr, .atom 6004, .lit (.int .i64 0), .lit (.bool false)⟩,
        ⟨.leq, .atom 7164, .atom 4004, .lit (.bool true)⟩,⟨.leq, .atom 7168, .atom 4012, .lit (.bool true)⟩,⟨.leq, .atom 7172, .atom 4004, .lit (.bool true)⟩,⟨.leq, .atom 7176, .atom 4012, .lit (.bool true)⟩,⟨.leq, .atom 7180, .atom 4004, .lit (.bool true)⟩,⟨.leq, .atom 7184, .atom 4012, .lit (.bool true)⟩] [] []
        [⟨41, .atom 7164⟩,⟨42, .atom 7168⟩,⟨43, .atom 7172⟩,⟨44, .atom 7176⟩,⟨45, .atom 7180⟩,⟨46, .atom 7184⟩]) (tbL_ok ?tb nilF nilF ?ln)
      (orc:=ent2A [⟨144,[.at_ 4024], .at_ 6000⟩,
        ⟨13,[.at_ 12300], .tup [decG (.at_ 248) 31 (.at_ 4012), .val (.int .i64 0)]⟩,⟨72,[decG (.at_ 248) 31 (.at_ 4012)], .val (.bool true)⟩,⟨21,[decG (.at_ 248) 31 (.at_ 4012)],decG (.at_ 8) 1 (.at_ 12)⟩,⟨196,[decG (.at_ 8) 1 (.at_ 12)], .tup [.ls 41, .ls 42]⟩,
        ⟨13,[.at_ 12304], .tup [decG (.at_ 256) 32 (.at_ 4012), .val (.int .i64 0)]⟩,⟨72,[decG (.at_ 256) 32 (.at_ 4012)], .val (.bool true)⟩,⟨21,[decG (.at_ 256) 32 (.at_ 4012)],decG (.at_ 16) 2 (.at_ 20)⟩,⟨196,[decG (.at_ 16) 2 (.at_ 20)], .tup [.ls 43, .ls 44]⟩,
        ⟨13,[.at_ 12308], .tup [decG (.at_ 264) 33 (.at_ 4012), .val (.int .i64 0)]⟩,⟨72,[decG (.at_ 264) 33 (.at_ 4012)], .val (.bool true)⟩,⟨21,[decG (.at_ 264) 33 (.at_ 4012)],decG (.at_ 24) 3 (.at_ 28)⟩,⟨196,[decG (.at_ 24) 3 (.at_ 28)], .tup [.ls 45, .ls 46]⟩,
        ⟨66,[decG (.at_ 24) 3 (.at_ 28), .agg [.val (.bool false), .val (.slice none 0 0), .val (.int .i64 0)]], .val (.int .i64 1)⟩,⟨66,[decG (.at_ 8) 1 (.at_ 12),decG (.at_ 16) 2 (.at_ 20)], .at_ 6004⟩]) (ent2_ok ?ent)
      ⟨⟨⟨_,rfl⟩,⟨_,rfl⟩,⟨_,rfl⟩,⟨_,rfl⟩,⟨_,rfl⟩,⟨_,rfl⟩,⟨_,rfl⟩,⟨_,rfl⟩,⟨_,rfl⟩,⟨_,rfl⟩,trivial⟩,trivial⟩
      ⟨⟨⟨_,rfl⟩,wf_ls T1.1,⟨_,rfl⟩,⟨_,rfl⟩,wf_ls T2.1,⟨_,rfl⟩,⟨_,rfl⟩,wf_ls T3.1,⟨_,rfl⟩,⟨_,rfl⟩,⟨_,rfl⟩,⟨_,rfl⟩,⟨_,rfl⟩,⟨_,rfl⟩,⟨_,rfl⟩,⟨_,rfl⟩,⟨_,rfl⟩,trivial⟩,trivial,trivial⟩ ?run
    case tb =>
      refine consF (binI (x:=(ic:Int)) (y:=1) rfl rfl rfl (run_lssI (decide_eq_false (by omega)))) <|
        consF (binI (x:=(ic:Int)) (y:=64) rfl rfl rfl (run_gtrI (decide_eq_false (by omega)))) <|
        consF (binI (x:=(fc:Int)) (y:=0) rfl rfl rfl (run_lssI (decide_eq_false (by omega)))) <|
        consF (binI (x:=(fc:Int)) (y:=64) rfl rfl rfl (run_gtrI (decide_eq_false (by omega)))) <|
        consF (binI (x:=(sc:Int)) (y:=0) rfl rfl rfl (run_lssI (decide_eq_false (by omega)))) <|
        consF (binI (x:=(sc:Int)) (y:=(fc:Int)) rfl rfl rfl (run_gtrI (decide_eq_false (by omega)))) <|
        consF (binI (x:=(mi:Int)) (y:=0) rfl rfl rfl (run_lssI (decide_eq_false (by omega)))) <|
        consF (binI (x:=(mi:Int)) (y:=(ic:Int)) rfl rfl rfl (run_gtrI (decide_eq_false (by omega)))) <|
        consF (binI (x:=(mf:Int)) (y:=0) rfl rfl rfl (run_lssI (decide_eq_false (by omega)))) <|
        consF (binI (x:=(mf:Int)) (y:=(sc:Int)) rfl rfl rfl (run_gtrI (decide_eq_false (by omega)))) <|
        consF (binI (x:=(hi:Int)) (y:=1) rfl rfl rfl (run_lssI (decide_eq_false (by omega)))) <|
        consF (binI (x:=(hi:Int)) (y:=1024) rfl rfl rfl (run_gtrI (decide_eq_false (by omega)))) <|
        consF ⟨_,_,_,rfl,rfl,rfl,fun t ox oy w=>(run_eqlS (P:=Tryz.prog) _ _ t ox oy w).trans (by rw [decide_eq_false (mode_ne md o1)])⟩ <|
        consF (binI (x:=cmpD (trimD dL) (trimD dH)) (y:=0) rfl rfl rfl (run_gtrI (decide_eq_false hcmp))) <|
        consF (binI (x:=((wholeD (trimD dL)).length:Nat)) (y:=(ic:Int)) rfl rfl rfl (run_leqI (decide_eq_true (Int.ofNat_le.2 (trim_whole dL ic (by rw [lo3]; exact lo2)))))) <|
        consF (binI (x:=((restD (trimD dL)).length:Nat)) (y:=(sc:Int)) rfl rfl rfl (run_leqI (decide_eq_true (Int.ofNat_le.2 (by have:=trim_rest dL; rw [lo3] at this; exact this))))) <|
        consF (binI (x:=((wholeD (trimD dH)).length:Nat)) (y:=(ic:Int)) rfl rfl rfl (run_leqI (decide_eq_true (Int.ofNat_le.2 (trim_whole dH ic (by rw [hi3]; exact hi2)))))) <|
        consF (binI (x:=((restD (trimD dH)).length:Nat)) (y:=(sc:Int)) rfl rfl rfl (run_leqI (decide_eq_true (Int.ofNat_le.2 (by have:=trim_rest dH; rw [hi3] at this; exact this))))) <|
        consF (binI (x:=((wholeD (trimD dS)).length:Nat)) (y:=(ic:Int)) rfl rfl rfl (run_leqI (decide_eq_true (Int.ofNat_le.2 (trim_whole dS ic (by rw [st3]; exact st2)))))) <|
        consF (binI (x:=((restD (trimD dS)).length:Nat)) (y:=(sc:Int)) rfl rfl rfl (run_leqI (decide_eq_true (Int.ofNat_le.2 (by have:=trim_rest dS; rw [st3] at this; exact this))))) <|
        nilF
    case ln =>
      exact consF ⟨_,W1.2,by show some (Value.int .i64 _) = some (Value.int .i64 _); simp [ints]⟩ <| consF ⟨_,R1.2,by show some (Value.int .i64 _) = some (Value.int .i64 _); simp [ints]⟩ <| consF ⟨_,W2.2,by show some (Value.int .i64 _) = some (Value.int .i64 _); simp [ints]⟩ <| consF ⟨_,R2.2,by show some (Value.int .i64 _) = some (Value.int .i64 _); simp [ints]⟩ <| consF ⟨_,W3.2,by show some (Value.int .i64 _) = some (Value.int .i64 _); simp [ints]⟩ <| consF ⟨_,R3.2,by show some (Value.int .i64 _) = some (Value.int .i64 _); simp [ints]⟩ <| nilF
    case ent =>
      have hMode:Ent2OK (basW w L) Tryz.prog ⟨144,[.at_ 4024], .at_ 6000⟩:=by
        refine ent_mk [scA (.atm (v:=.int .i64 md) rfl)] (scR (.atm (v:=sB (modeL.getD md [])) rfl) rfl) ?_
        rintro w _ ⟨_,_,rfl,rfl,rfl⟩
        exact (mode_run md o1 w).mono (by rintro e w' ⟨rfl,hb⟩; exact ⟨_,rfl,rfl,hb⟩)
      have hPa:∀ (d:Dc) (i k:Nat) (p:Pat),(basW w L).A i = some (.string ⟨(prL d).toArray⟩)→HasG (basW w L) p k (.at_ 4012) (pdD d)→Dg d.l→d.l.length ≤ 20→d.s ≤ 20→Ent2OK (basW w L) Tryz.prog ⟨13,[.at_ i], .tup [decG p k (.at_ 4012), .val (.int .i64 0)]⟩:=by
        intro d i k p hi hP hd hl hs
        refine ent_mkU [scA (.atm hi)] (detR' hP) ?_
        rintro w1 _ hu ⟨_,_,rfl,rfl,rfl⟩
        exact (decParse_any d mx w1 (by rw [basW_cell hu hlt1]; exact hm) hd (by omega) (by omega)).mono (by rintro e w' ⟨sl,rfl,hI,hf,hb⟩; exact ⟨_,rfl,⟨sl,rfl,hI,fun _=>hf⟩,hb⟩)
      have hMy:∀ (d:Dc) (k:Nat) (p:Pat),HasG (basW w L) p k (.at_ 4012) (pdD d)→Dg d.l→d.s ≤ 20→Ent2OK (basW w L) Tryz.prog ⟨72,[decG p k (.at_ 4012)], .val (.bool true)⟩:=by
        intro d k p hP hd hs
        refine ent_mk [deA hP] (scR (.val (.bool true)) rfl) ?_
        rintro w1 _ ⟨_,_,rfl,⟨v,rfl,hv⟩,rfl⟩
        exact (decMay_any v (pdD d) w1 hv (hd.wideL _) (by show d.s ≤ 1000; omega)).mono (by rintro e w' ⟨rfl,hb⟩; exact ⟨_,rfl,rfl,hb⟩)
      have hTr:∀ (d:Dc) (k j:Nat) (p:Pat),HasG (basW w L) p k (.at_ 4012) (pdD d)→HasD (basW w L) j (trimD d)→Dg d.l→d.l.length ≤ 20→d.s ≤ 20→Ent2OK (basW w L) Tryz.prog ⟨21,[decG p k (.at_ 4012)],decG (.at_ (8 * j)) j (.at_ (8 * j + 4))⟩:=by
        intro d k j p hP hT hd hl hs
        refine ent_mk [deA hP] (deR hT.g) ?_
        rintro w1 _ ⟨_,_,rfl,⟨v,rfl,hv⟩,rfl⟩
        have:=decTrim_any v (pdD d) w1 hv (by show (wideL _ _).length ≤ _; rw [wideL_len]; omega) (by show d.s ≤ 1000; omega)
        rw [trim_pd d hd] at this
        exact this.mono (by rintro e w' ⟨sl,rfl,hI,hf,hb⟩; exact ⟨_,rfl,⟨sl,rfl,hI,hf⟩,hb⟩)
      have hPt:∀ (d:Dc) (j q:Nat),HasD (basW w L) j (trimD d)→HasL (basW w L) q (wholeD (trimD d))→HasL (basW w L) (q + 1) (restD (trimD d))→Dg d.l→d.l.length ≤ 20→d.s ≤ 20→Ent2OK (basW w L) Tryz.prog ⟨196,[decG (.at_ (8 * j)) j (.at_ (8 * j + 4))], .tup [.ls q, .ls (q + 1)]⟩:=by
        intro d j q hT h1 h2 hd hl hs
        have:=trimD_len d
        have:=trimD_s d
        refine ent_mk [deA hT.g] ⟨.tup [.ls q, .ls (q + 1)],fun N w x=>∃ v1 v2,x = .tuple #[v1,v2]∧IsInts w v1 (wholeD (trimD d))∧IsInts w v2 (restD (trimD d))∧From N v1∧From N v2,⟨wf_ls h1,wf_ls h2,trivial⟩,fun _ _ x hx=>by obtain ⟨v1,v2,e,a1,a2,a3,a4⟩:=hx; rw [e]; exact ⟨_,rfl,_,_,rfl,to_ls h1 a1 a3,_,_,rfl,to_ls h2 a2 a4,rfl⟩⟩ ?_
        rintro w1 _ ⟨_,_,rfl,⟨v,rfl,hv⟩,rfl⟩
        exact (parts_any v (trimD d) w1 hv (by omega) (by omega)).mono (by rintro e w' ⟨v1,v2,rfl,a1,a2,a3,a4,hb⟩; exact ⟨_,rfl,⟨v1,v2,rfl,a1,a2,a3,a4⟩,hb⟩)
      have tl:=trimD_len dL
      have th:=trimD_len dH
      have ts:=trimD_len dS
      have tls:=trimD_s dL
      have ths:=trimD_s dH
      have tss:=trimD_s dS
      refine consF hMode <| consF (hPa dL _ _ _ rfl P1 lo1 (by omega) (by omega)) <| consF (hMy dL _ _ P1 lo1 (by omega)) <| consF (hTr dL _ 1 _ P1 T1 lo1 (by omega) (by omega)) <| consF (hPt dL 1 41 T1 W1 R1 lo1 (by omega) (by omega)) <|
        consF (hPa dH _ _ _ rfl P2 hi1 (by omega) (by omega)) <| consF (hMy dH _ _ P2 hi1 (by omega)) <| consF (hTr dH _ 2 _ P2 T2 hi1 (by omega) (by omega)) <| consF (hPt dH 2 43 T2 W2 R2 hi1 (by omega) (by omega)) <|
        consF (hPa dS _ _ _ rfl P3 st1 (by omega) (by omega)) <| consF (hMy dS _ _ P3 st1 (by omega)) <| consF (hTr dS _ 3 _ P3 T3 st1 (by omega) (by omega)) <| consF (hPt dS 3 45 T3 W3 R3 st1 (by omega) (by omega)) <|
        consF (ent_mk [deA T3.g,⟨.agg [.val (.bool false), .val (.slice none 0 0), .val (.int .i64 0)],fun _ x=>x = dv (.slice none 0 0) ⟨false,[],0⟩,⟨trivial,trivial,trivial,trivial⟩,fun _ _ x hx=>by
          obtain ⟨ys,rfl,y0,_,rfl,b0,y1,_,rfl,b1,y2,_,rfl,b2,rfl⟩:=hx
          rw [show y0 = _ from b0,show y1 = _ from b1,show y2 = _ from b2]; rfl⟩] (scR (.val (.int .i64 1)) rfl) ?_) <|
        consF (ent_mk [deA T1.g,deA T2.g] (scR (.atm (v:=.int .i64 (cmpD (trimD dL) (trimD dH))) rfl) rfl) ?_) nilF
      · rintro w1 _ ⟨_,_,rfl,⟨v,rfl,hv⟩,_,_,rfl,rfl,rfl⟩
        have:=decCompare_any v (.slice none 0 0) (trimD dS) ⟨false,[],0⟩ w1 hv (IsInts.nil_ _ _ _ (by omega)) (trimD_dg _ st1) Dg.nil (by omega) (by simp) (by omega) (by simp)
        rw [trim2 _ st1,hpos] at this
        exact this.mono (by rintro e w' ⟨rfl,hb⟩; exact ⟨_,rfl,rfl,hb⟩)
      · rintro w1 _ ⟨_,_,rfl,⟨v,rfl,hv⟩,_,_,rfl,⟨u,rfl,hu⟩,rfl⟩
        have:=decCompare_any v u (trimD dL) (trimD dH) w1 hv hu (trimD_dg _ lo1) (trimD_dg _ hi1) (by omega) (by omega) (by omega) (by omega)
        rw [trim2 _ lo1,trim2 _ hi1] at this
        exact this.mono (by rintro e w' ⟨rfl,hb⟩; exact ⟨_,rfl,rfl,hb⟩)
    case run=>kernel_rfl
  refine (h'.2 w (basW_under _ _) [cfgV' dL dH dS ic fc sc mi mf md hi] ⟨_,_,rfl,⟨_,rfl,_,_,rfl,⟨rfl,rfl⟩,_,_,rfl,⟨rfl,rfl⟩,_,_,rfl,⟨rfl,rfl⟩,_,_,rfl,⟨rfl,rfl⟩,_,_,rfl,⟨rfl,rfl⟩,_,_,rfl,⟨rfl,rfl⟩,_,_,rfl,⟨rfl,rfl⟩,_,_,rfl,⟨rfl,rfl⟩,_,_,rfl,⟨rfl,rfl⟩,_,_,rfl,⟨rfl,rfl⟩,rfl⟩,rfl⟩).mono ?_
  rintro e w' ⟨x,rfl,⟨zs,rfl,z0,_,rfl,⟨ys,rfl,y0,_,rfl,b0,y1,_,rfl,b1,y2,_,rfl,b2,y3,_,rfl,b3,y4,_,rfl,b4,y5,_,rfl,b5,y6,_,rfl,b6,y7,_,rfl,b7,y8,_,rfl,b8,y9,_,rfl,b9,y10,_,rfl,b10,y11,_,rfl,b11,y12,_,rfl,b12,y13,_,rfl,b13,y14,_,rfl,b14,y15,_,rfl,b15,y16,_,rfl,b16,rfl⟩,z1,_,rfl,c1,rfl⟩,hb⟩
  refine ⟨y1,y4,y7,?_,isP_ls T1.1 b1,isP_ls T2.1 b4,isP_ls T3.1 b7,ls_far T1.1 b1,ls_far T2.1 b4,ls_far T3.1 b7,hb⟩
  rw [show z1 = .nilIface from c1,(NP.atm (v:=.bool (trimD dL).neg) rfl).out b0,(NP.atm (v:=.int .i64 (trimD dL).s) rfl).out b2,(NP.atm (v:=.bool (trimD dH).neg) rfl).out b3,(NP.atm (v:=.int .i64 (trimD dH).s) rfl).out b5,(NP.atm (v:=.bool (trimD dS).neg) rfl).out b6,(NP.atm (v:=.int .i64 (trimD dS).s) rfl).out b8,(NP.atm (v:=.bool (trimD dL).neg) rfl).out b9,(NP.atm (v:=.int .i64 ic) rfl).out b10,(NP.atm (v:=.int .i64 fc) rfl).out b11,(NP.atm (v:=.int .i64 sc) rfl).out b12,(NP.atm (v:=.int .i64 mi) rfl).out b13,(NP.atm (v:=.int .i64 mf) rfl).out b14,(NP.atm (v:=.int .i64 md) rfl).out b15,(NP.atm (v:=.int .i64 hi) rfl).out b16]
  rfl
theorem cfgNew_any (g:Cg) (mx:Int) (w:World) (hm:w.cell? ⟨1,0,none⟩ = some (.int .i64 mx)) :
    Calls Tryz.prog 26 #[cfgV g] w fun e w'=>∃ v1 v2 v3,e = .returned (.tuple #[rulV v1 v2 v3 g, .nilIface])∧IsInts w' v1 (trimD g.Low).l∧IsInts w' v2 (trimD g.High).l∧IsInts w' v3 (trimD g.Step).l ∧
      From' w.heap.size v1 (trimD g.Low).l∧From' w.heap.size v2 (trimD g.High).l∧From' w.heap.size v3 (trimD g.Step).l∧Below w.heap.size w w' :=
  cfgNew_core g.Low g.High g.Step g.IC g.FC g.SC g.MI g.MF g.MD g.HI mx w hm g.ic_bd.1 g.ic_bd.2.1 g.fc_bd.1 g.sc_bd.1 g.mi_bd.1 g.mf_bd.1 g.md_bd.1 g.hi_bd.1 g.hi_bd.2.1 g.low_ok.1 g.low_ok.2.1 g.low_ok.2.2 g.high_ok.1 g.high_ok.2.1 g.high_ok.2.2 g.step_ok.1 g.step_ok.2.1 g.step_ok.2.2 g.lo_hi g.step_pos
end Go.Proofs.YteiomfgehlojeaaGreatDoor
end
section
namespace Go.Proofs.YteiomfgehlojeaaGreatDoor
open Go.RowKit Go.Sym
set_option maxHeartbeats 1000000 in
theorem rcNew_core (dL dH dS:Dc) (ic fc sc mi mf md hi:Nat) (w:World) (i1:1 ≤ ic) (i2:ic ≤ 8) (f1:fc ≤ 5) (s1:sc ≤ fc) (m1:mi ≤ ic) (n1:mf ≤ sc) (o1:md ≤ 6) (p1:1 ≤ hi) (p2:hi ≤ 6)
    (lo1:Dg dL.l) (lo2:dL.l.length ≤ ic + sc) (lo3:dL.s = sc) (hi1:Dg dH.l) (hi2:dH.l.length ≤ ic + sc) (hi3:dH.s = sc) (st1:Dg dS.l) (st2:dS.l.length ≤ ic + sc) (st3:dS.s = sc)
    (hcmp:¬ 0 < cmpD (trimD dL) (trimD dH)) (hpos:cmpD (trimD dS) (trimD ⟨false,[],0⟩) = 1) :
    Calls Tryz.prog 58 #[cfgV' dL dH dS ic fc sc mi mf md hi] w fun e w'=>∃ v1 v2 v3,e = .returned (.tuple #[rulV' v1 v2 v3 dL dH dS ic fc sc mi mf md hi, .string ⟨#[]⟩, .int .i64 0])∧IsInts w' v1 (trimD dL).l∧IsInts w' v2 (trimD dH).l∧IsInts w' v3 (trimD dS).l ∧
      From' w.heap.size v1 (trimD dL).l∧From' w.heap.size v2 (trimD dH).l∧From' w.heap.size v3 (trimD dS).l∧Below w.heap.size w w':=by
  let L:List (Nat × Value):=[(12300, .string ⟨(prL dL).toArray⟩),(12304, .string ⟨(prL dH).toArray⟩),(12308, .string ⟨(prL dS).toArray⟩),(4004, .int .i64 ic),(4008, .int .i64 fc),
    (4012, .int .i64 sc),(4016, .int .i64 mi),(4020, .int .i64 mf),(4024, .int .i64 md),(4028, .int .i64 hi),
    (6004, .int .i64 (cmpD (trimD dL) (trimD dH))),(248, .bool dL.neg),(126, .agg (ints (wideL dL.l (dL.s + 1))).toArray),(8, .bool (trimD dL).neg),
    (12, .int .i64 (trimD dL).s),(6, .agg (ints ((trimD dL).l)).toArray),(166, .agg (ints (wholeD (trimD dL))).toArray),(170, .agg (ints (restD (trimD dL))).toArray),(7164, .int .i64 (wholeD (trimD dL)).length),
    (7168, .int .i64 (restD (trimD dL)).length),(256, .bool dH.neg),(130, .agg (ints (wideL dH.l (dH.s + 1))).toArray),(16, .bool (trimD dH).neg),(20, .int .i64 (trimD dH).s),
    (10, .agg (ints ((trimD dH).l)).toArray),(174, .agg (ints (wholeD (trimD dH))).toArray),(178, .agg (ints (restD (trimD dH))).toArray),(7172, .int .i64 (wholeD (trimD dH)).length),(7176, .int .i64 (restD (trimD dH)).length),
    (264, .bool dS.neg),(134, .agg (ints (wideL dS.l (dS.s + 1))).toArray),(24, .bool (trimD dS).neg),(28, .int .i64 (trimD dS).s),(14, .agg (ints ((trimD dS).l)).toArray),
    (182, .agg (ints (wholeD (trimD dS))).toArray),(186, .agg (ints (restD (trimD dS))).toArray),(7180, .int .i64 (wholeD (trimD dS)).length),(7184, .int .i64 (restD (trimD dS)).length)]
  have hA:(basW w L).A 4012 = some (Value.int .i64 (sc:Nat)):=rfl
  have P1:HasG (basW w L) (.at_ 248) 31 (.at_ 4012) (pdD dL):=⟨⟨by decide,rfl⟩, .atm rfl, .atm (hA.trans (by rw [show (pdD dL).s = sc from lo3]))⟩
  have P2:HasG (basW w L) (.at_ 256) 32 (.at_ 4012) (pdD dH):=⟨⟨by decide,rfl⟩, .atm rfl, .atm (hA.trans (by rw [show (pdD dH).s = sc from hi3]))⟩
  have P3:HasG (basW w L) (.at_ 264) 33 (.at_ 4012) (pdD dS):=⟨⟨by decide,rfl⟩, .atm rfl, .atm (hA.trans (by rw [show (pdD dS).s = sc from st3]))⟩
  have T1:HasD (basW w L) 1 (trimD dL):=⟨⟨by decide,rfl⟩,rfl,rfl⟩
  have T2:HasD (basW w L) 2 (trimD dH):=⟨⟨by decide,rfl⟩,rfl,rfl⟩
  have T3:HasD (basW w L) 3 (trimD dS):=⟨⟨by decide,rfl⟩,rfl,rfl⟩
  have W1:HasL (basW w L) 41 (wholeD (trimD dL)):=⟨by decide,rfl⟩
  have W2:HasL (basW w L) 43 (wholeD (trimD dH)):=⟨by decide,rfl⟩
  have W3:HasL (basW w L) 45 (wholeD (trimD dS)):=⟨by decide,rfl⟩
  have R1:HasL (basW w L) 42 (restD (trimD dL)):=⟨by decide,rfl⟩
  have R2:HasL (basW w L) 44 (restD (trimD dH)):=⟨by decide,rfl⟩
  have R3:HasL (basW w L) 46 (restD (trimD dS)):=⟨by decide,rfl⟩
  have h':Ent2OK (basW w L) Tryz.prog ⟨58,[.agg [.at_ 12300, .at_ 12304, .at_ 12308, .at_ 4004, .at_ 4008, .at_ 4012, .at_ 4016, .at_ 4020, .at_ 4024, .at_ 4028]],
      .tup [.agg [.at_ 8, .ls 1, .at_ 12, .at_ 16, .ls 2, .at_ 20, .at_ 24, .ls 3, .at_ 28, .at_ 8, .at_ 4004, .at_ 4008, .at_ 4012, .at_ 4016, .at_ 4020, .at_ 4024, .at_ 4028], .val (.string ⟨#[]⟩), .val (.int .i64 0)]⟩:=by
    refine run_mkW (by kernel_rfl) rfl (T:=tbL [⟨.lss, .atom 4004, .lit (.int .i64 1), .lit (.bool false)⟩,⟨.gtr, .atom 4004, .lit (.int .i64 64), .lit (.bool false)⟩,⟨.lss, .atom 4008, .lit (.int .i64 0), .lit (.bool false)⟩,⟨.gtr, .atom 4008, .lit (.int .i64 64), .lit (.bool false)⟩,
        ⟨.lss, .atom 4012, .lit (.int .i64 0), .lit (.bool false)⟩,⟨.gtr, .atom 4012, .atom 4008, .lit (.bool false)⟩,⟨.lss, .atom 4016, .lit (.int .i64 0), .lit (.bool false)⟩,⟨.gtr, .atom 4016, .atom 4004, .lit (.bool false)⟩,⟨.lss, .atom 4020, .lit (.int .i64 0), .lit (.bool false)⟩,⟨.gtr, .atom 4020, .atom 4012, .lit (.bool false)⟩,
        ⟨.lss, .atom 4028, .lit (.int .i64 1), .lit (.bool false)⟩,⟨.gtr, .atom 4028, .lit (.int .i64 1024), .lit (.bool false)⟩,⟨.lss, .atom 4024, .lit (.int .i64 0), .lit (.bool false)⟩,⟨.gtr, .atom 4024, .lit (.int .i64 6), .lit (.bool false)⟩,⟨.gtr, .atom 6004, .lit (.int .i64 0), .lit (.bool false)⟩,
        ⟨.leq, .atom 7164, .atom 4004, .lit (.bool true)⟩,⟨.leq, .atom 7168, .atom 4012, .lit (.bool true)⟩,⟨.leq, .atom 7172, .atom 4004, .lit (.bool true)⟩,⟨.leq, .atom 7176, .atom 4012, .lit (.bool true)⟩,⟨.leq, .atom 7180, .atom 4004, .lit (.bool true)⟩,⟨.leq, .atom 7184, .atom 4012, .lit (.bool true)⟩] [] []
        [⟨41, .atom 7164⟩,⟨42, .atom 7168⟩,⟨43, .atom 7172⟩,⟨44, .atom 7176⟩,⟨45, .atom 7180⟩,⟨46, .atom 7184⟩]) (tbL_ok ?tb nilF nilF ?ln)
      (orc:=ent2A [
        ⟨97,[.at_ 12300], .tup [decG (.at_ 248) 31 (.at_ 4012), .val (.int .i64 0)]⟩,⟨45,[decG (.at_ 248) 31 (.at_ 4012)],decG (.at_ 8) 1 (.at_ 12)⟩,⟨81,[decG (.at_ 8) 1 (.at_ 12)], .tup [.ls 41, .ls 42]⟩,
        ⟨97,[.at_ 12304], .tup [decG (.at_ 256) 32 (.at_ 4012), .val (.int .i64 0)]⟩,⟨45,[decG (.at_ 256) 32 (.at_ 4012)],decG (.at_ 16) 2 (.at_ 20)⟩,⟨81,[decG (.at_ 16) 2 (.at_ 20)], .tup [.ls 43, .ls 44]⟩,
        ⟨97,[.at_ 12308], .tup [decG (.at_ 264) 33 (.at_ 4012), .val (.int .i64 0)]⟩,⟨45,[decG (.at_ 264) 33 (.at_ 4012)],decG (.at_ 24) 3 (.at_ 28)⟩,⟨81,[decG (.at_ 24) 3 (.at_ 28)], .tup [.ls 45, .ls 46]⟩,
        ⟨18,[decG (.at_ 24) 3 (.at_ 28), .agg [.val (.bool false), .val (.slice none 0 0), .val (.int .i64 0)]], .val (.int .i64 1)⟩,⟨18,[decG (.at_ 8) 1 (.at_ 12),decG (.at_ 16) 2 (.at_ 20)], .at_ 6004⟩]) (ent2_ok ?ent)
      ⟨⟨⟨_,rfl⟩,⟨_,rfl⟩,⟨_,rfl⟩,⟨_,rfl⟩,⟨_,rfl⟩,⟨_,rfl⟩,⟨_,rfl⟩,⟨_,rfl⟩,⟨_,rfl⟩,⟨_,rfl⟩,trivial⟩,trivial⟩
      ⟨⟨⟨_,rfl⟩,wf_ls T1.1,⟨_,rfl⟩,⟨_,rfl⟩,wf_ls T2.1,⟨_,rfl⟩,⟨_,rfl⟩,wf_ls T3.1,⟨_,rfl⟩,⟨_,rfl⟩,⟨_,rfl⟩,⟨_,rfl⟩,⟨_,rfl⟩,⟨_,rfl⟩,⟨_,rfl⟩,⟨_,rfl⟩,⟨_,rfl⟩,trivial⟩,trivial,trivial,trivial⟩ ?run
    case tb =>
      refine consF (binI (x:=(ic:Int)) (y:=1) rfl rfl rfl (run_lssI (decide_eq_false (by omega)))) <|
        consF (binI (x:=(ic:Int)) (y:=64) rfl rfl rfl (run_gtrI (decide_eq_false (by omega)))) <|
        consF (binI (x:=(fc:Int)) (y:=0) rfl rfl rfl (run_lssI (decide_eq_false (by omega)))) <|
        consF (binI (x:=(fc:Int)) (y:=64) rfl rfl rfl (run_gtrI (decide_eq_false (by omega)))) <|
        consF (binI (x:=(sc:Int)) (y:=0) rfl rfl rfl (run_lssI (decide_eq_false (by omega)))) <|
        consF (binI (x:=(sc:Int)) (y:=(fc:Int)) rfl rfl rfl (run_gtrI (decide_eq_false (by omega)))) <|
        consF (binI (x:=(mi:Int)) (y:=0) rfl rfl rfl (run_lssI (decide_eq_false (by omega)))) <|
        consF (binI (x:=(mi:Int)) (y:=(ic:Int)) rfl rfl rfl (run_gtrI (decide_eq_false (by omega)))) <|
        consF (binI (x:=(mf:Int)) (y:=0) rfl rfl rfl (run_lssI (decide_eq_false (by omega)))) <|
        consF (binI (x:=(mf:Int)) (y:=(sc:Int)) rfl rfl rfl (run_gtrI (decide_eq_false (by omega)))) <|
        consF (binI (x:=(hi:Int)) (y:=1) rfl rfl rfl (run_lssI (decide_eq_false (by omega)))) <|
        consF (binI (x:=(hi:Int)) (y:=1024) rfl rfl rfl (run_gtrI (decide_eq_false (by omega)))) <|
        consF (binI (x:=(md:Int)) (y:=0) rfl rfl rfl (run_lssI (decide_eq_false (by omega)))) <|
        consF (binI (x:=(md:Int)) (y:=6) rfl rfl rfl (run_gtrI (decide_eq_false (by omega)))) <|
        consF (binI (x:=cmpD (trimD dL) (trimD dH)) (y:=0) rfl rfl rfl (run_gtrI (decide_eq_false hcmp))) <|
        consF (binI (x:=((wholeD (trimD dL)).length:Nat)) (y:=(ic:Int)) rfl rfl rfl (run_leqI (decide_eq_true (Int.ofNat_le.2 (trim_whole dL ic (by rw [lo3]; exact lo2)))))) <|
        consF (binI (x:=((restD (trimD dL)).length:Nat)) (y:=(sc:Int)) rfl rfl rfl (run_leqI (decide_eq_true (Int.ofNat_le.2 (by have:=trim_rest dL; rw [lo3] at this; exact this))))) <|
        consF (binI (x:=((wholeD (trimD dH)).length:Nat)) (y:=(ic:Int)) rfl rfl rfl (run_leqI (decide_eq_true (Int.ofNat_le.2 (trim_whole dH ic (by rw [hi3]; exact hi2)))))) <|
        consF (binI (x:=((restD (trimD dH)).length:Nat)) (y:=(sc:Int)) rfl rfl rfl (run_leqI (decide_eq_true (Int.ofNat_le.2 (by have:=trim_rest dH; rw [hi3] at this; exact this))))) <|
        consF (binI (x:=((wholeD (trimD dS)).length:Nat)) (y:=(ic:Int)) rfl rfl rfl (run_leqI (decide_eq_true (Int.ofNat_le.2 (trim_whole dS ic (by rw [st3]; exact st2)))))) <|
        consF (binI (x:=((restD (trimD dS)).length:Nat)) (y:=(sc:Int)) rfl rfl rfl (run_leqI (decide_eq_true (Int.ofNat_le.2 (by have:=trim_rest dS; rw [st3] at this; exact this))))) <|
        nilF
    case ln =>
      exact consF ⟨_,W1.2,by show some (Value.int .i64 _) = some (Value.int .i64 _); simp [ints]⟩ <| consF ⟨_,R1.2,by show some (Value.int .i64 _) = some (Value.int .i64 _); simp [ints]⟩ <| consF ⟨_,W2.2,by show some (Value.int .i64 _) = some (Value.int .i64 _); simp [ints]⟩ <| consF ⟨_,R2.2,by show some (Value.int .i64 _) = some (Value.int .i64 _); simp [ints]⟩ <| consF ⟨_,W3.2,by show some (Value.int .i64 _) = some (Value.int .i64 _); simp [ints]⟩ <| consF ⟨_,R3.2,by show some (Value.int .i64 _) = some (Value.int .i64 _); simp [ints]⟩ <| nilF
    case ent =>
      have hPa:∀ (d:Dc) (i k:Nat) (p:Pat),(basW w L).A i = some (.string ⟨(prL d).toArray⟩)→HasG (basW w L) p k (.at_ 4012) (pdD d)→Dg d.l→d.l.length ≤ 20→d.s ≤ 20→Ent2OK (basW w L) Tryz.prog ⟨97,[.at_ i], .tup [decG p k (.at_ 4012), .val (.int .i64 0)]⟩:=by
        intro d i k p hi hP hd hl hs
        refine ent_mkU [scA (.atm hi)] (detR' hP) ?_
        rintro w1 _ hu ⟨_,_,rfl,rfl,rfl⟩
        exact (rdParse_any d w1 hd (by omega) (by omega)).mono (by rintro e w' ⟨sl,rfl,hI,hf,hb⟩; exact ⟨_,rfl,⟨sl,rfl,hI,fun _=>hf⟩,hb⟩)
      have hTr:∀ (d:Dc) (k j:Nat) (p:Pat),HasG (basW w L) p k (.at_ 4012) (pdD d)→HasD (basW w L) j (trimD d)→Dg d.l→d.l.length ≤ 20→d.s ≤ 20→Ent2OK (basW w L) Tryz.prog ⟨45,[decG p k (.at_ 4012)],decG (.at_ (8 * j)) j (.at_ (8 * j + 4))⟩:=by
        intro d k j p hP hT hd hl hs
        refine ent_mk [deA hP] (deR hT.g) ?_
        rintro w1 _ ⟨_,_,rfl,⟨v,rfl,hv⟩,rfl⟩
        have:=rdTrim_any v (pdD d) w1 hv (hd.wideL _) (by show (wideL _ _).length ≤ _; rw [wideL_len]; omega) (by show d.s ≤ 1000; omega)
        rw [trim_pd d hd] at this
        exact this.mono (by rintro e w' ⟨sl,rfl,hI,hf,hb⟩; exact ⟨_,rfl,⟨sl,rfl,hI,hf⟩,hb⟩)
      have hPt:∀ (d:Dc) (j q:Nat),HasD (basW w L) j (trimD d)→HasL (basW w L) q (wholeD (trimD d))→HasL (basW w L) (q + 1) (restD (trimD d))→Dg d.l→d.l.length ≤ 20→d.s ≤ 20→Ent2OK (basW w L) Tryz.prog ⟨81,[decG (.at_ (8 * j)) j (.at_ (8 * j + 4))], .tup [.ls q, .ls (q + 1)]⟩:=by
        intro d j q hT h1 h2 hd hl hs
        have:=trimD_len d
        have:=trimD_s d
        refine ent_mk [deA hT.g] ⟨.tup [.ls q, .ls (q + 1)],fun N w x=>∃ v1 v2,x = .tuple #[v1,v2]∧IsInts w v1 (wholeD (trimD d))∧IsInts w v2 (restD (trimD d))∧From N v1∧From N v2,⟨wf_ls h1,wf_ls h2,trivial⟩,fun _ _ x hx=>by obtain ⟨v1,v2,e,a1,a2,a3,a4⟩:=hx; rw [e]; exact ⟨_,rfl,_,_,rfl,to_ls h1 a1 a3,_,_,rfl,to_ls h2 a2 a4,rfl⟩⟩ ?_
        rintro w1 _ ⟨_,_,rfl,⟨v,rfl,hv⟩,rfl⟩
        exact (rdParts_any v (trimD d) w1 hv (trimD_dg _ hd) (by omega) (by omega)).mono (by rintro e w' ⟨v1,v2,rfl,a1,a2,a3,a4,hb⟩; exact ⟨_,rfl,⟨v1,v2,rfl,a1,a2,a3,a4⟩,hb⟩)
      have tl:=trimD_len dL
      have th:=trimD_len dH
      have ts:=trimD_len dS
      have tls:=trimD_s dL
      have ths:=trimD_s dH
      have tss:=trimD_s dS
      refine consF (hPa dL _ _ _ rfl P1 lo1 (by omega) (by omega)) <| consF (hTr dL _ 1 _ P1 T1 lo1 (by omega) (by omega)) <| consF (hPt dL 1 41 T1 W1 R1 lo1 (by omega) (by omega)) <|
        consF (hPa dH _ _ _ rfl P2 hi1 (by omega) (by omega)) <| consF (hTr dH _ 2 _ P2 T2 hi1 (by omega) (by omega)) <| consF (hPt dH 2 43 T2 W2 R2 hi1 (by omega) (by omega)) <|
        consF (hPa dS _ _ _ rfl P3 st1 (by omega) (by omega)) <| consF (hTr dS _ 3 _ P3 T3 st1 (by omega) (by omega)) <| consF (hPt dS 3 45 T3 W3 R3 st1 (by omega) (by omega)) <|
        consF (ent_mk [deA T3.g,⟨.agg [.val (.bool false), .val (.slice none 0 0), .val (.int .i64 0)],fun _ x=>x = dv (.slice none 0 0) ⟨false,[],0⟩,⟨trivial,trivial,trivial,trivial⟩,fun _ _ x hx=>by
          obtain ⟨ys,rfl,y0,_,rfl,b0,y1,_,rfl,b1,y2,_,rfl,b2,rfl⟩:=hx
          rw [show y0 = _ from b0,show y1 = _ from b1,show y2 = _ from b2]; rfl⟩] (scR (.val (.int .i64 1)) rfl) ?_) <|
        consF (ent_mk [deA T1.g,deA T2.g] (scR (.atm (v:=.int .i64 (cmpD (trimD dL) (trimD dH))) rfl) rfl) ?_) nilF
      · rintro w1 _ ⟨_,_,rfl,⟨v,rfl,hv⟩,_,_,rfl,rfl,rfl⟩
        have:=rdCompare_any v (.slice none 0 0) (trimD dS) ⟨false,[],0⟩ w1 hv (IsInts.nil_ _ _ _ (by omega)) (trimD_dg _ st1) Dg.nil (by omega) (by simp) (by omega) (by simp)
        rw [trim2 _ st1,hpos] at this
        exact this.mono (by rintro e w' ⟨rfl,hb⟩; exact ⟨_,rfl,rfl,hb⟩)
      · rintro w1 _ ⟨_,_,rfl,⟨v,rfl,hv⟩,_,_,rfl,⟨u,rfl,hu⟩,rfl⟩
        have:=rdCompare_any v u (trimD dL) (trimD dH) w1 hv hu (trimD_dg _ lo1) (trimD_dg _ hi1) (by omega) (by omega) (by omega) (by omega)
        rw [trim2 _ lo1,trim2 _ hi1] at this
        exact this.mono (by rintro e w' ⟨rfl,hb⟩; exact ⟨_,rfl,rfl,hb⟩)
    case run=>kernel_rfl
  refine (h'.2 w (basW_under _ _) [cfgV' dL dH dS ic fc sc mi mf md hi] ⟨_,_,rfl,⟨_,rfl,_,_,rfl,⟨rfl,rfl⟩,_,_,rfl,⟨rfl,rfl⟩,_,_,rfl,⟨rfl,rfl⟩,_,_,rfl,⟨rfl,rfl⟩,_,_,rfl,⟨rfl,rfl⟩,_,_,rfl,⟨rfl,rfl⟩,_,_,rfl,⟨rfl,rfl⟩,_,_,rfl,⟨rfl,rfl⟩,_,_,rfl,⟨rfl,rfl⟩,_,_,rfl,⟨rfl,rfl⟩,rfl⟩,rfl⟩).mono ?_
  rintro e w' ⟨x,rfl,⟨zs,rfl,z0,_,rfl,⟨ys,rfl,y0,_,rfl,b0,y1,_,rfl,b1,y2,_,rfl,b2,y3,_,rfl,b3,y4,_,rfl,b4,y5,_,rfl,b5,y6,_,rfl,b6,y7,_,rfl,b7,y8,_,rfl,b8,y9,_,rfl,b9,y10,_,rfl,b10,y11,_,rfl,b11,y12,_,rfl,b12,y13,_,rfl,b13,y14,_,rfl,b14,y15,_,rfl,b15,y16,_,rfl,b16,rfl⟩,z1,_,rfl,c1,z2,_,rfl,c2,rfl⟩,hb⟩
  refine ⟨y1,y4,y7,?_,isP_ls T1.1 b1,isP_ls T2.1 b4,isP_ls T3.1 b7,ls_far T1.1 b1,ls_far T2.1 b4,ls_far T3.1 b7,hb⟩
  rw [show z1 = .string ⟨#[]⟩ from c1,show z2 = .int .i64 0 from c2,(NP.atm (v:=.bool (trimD dL).neg) rfl).out b0,(NP.atm (v:=.int .i64 (trimD dL).s) rfl).out b2,(NP.atm (v:=.bool (trimD dH).neg) rfl).out b3,(NP.atm (v:=.int .i64 (trimD dH).s) rfl).out b5,(NP.atm (v:=.bool (trimD dS).neg) rfl).out b6,(NP.atm (v:=.int .i64 (trimD dS).s) rfl).out b8,(NP.atm (v:=.bool (trimD dL).neg) rfl).out b9,(NP.atm (v:=.int .i64 ic) rfl).out b10,(NP.atm (v:=.int .i64 fc) rfl).out b11,(NP.atm (v:=.int .i64 sc) rfl).out b12,(NP.atm (v:=.int .i64 mi) rfl).out b13,(NP.atm (v:=.int .i64 mf) rfl).out b14,(NP.atm (v:=.int .i64 md) rfl).out b15,(NP.atm (v:=.int .i64 hi) rfl).out b16]
  rfl
theorem rcNew_any (g:Cg) (w:World) :
    Calls Tryz.prog 58 #[cfgV g] w fun e w'=>∃ v1 v2 v3,e = .returned (.tuple #[rulV v1 v2 v3 g, .string ⟨#[]⟩, .int .i64 0])∧IsInts w' v1 (trimD g.Low).l∧IsInts w' v2 (trimD g.High).l∧IsInts w' v3 (trimD g.Step).l ∧
      From' w.heap.size v1 (trimD g.Low).l∧From' w.heap.size v2 (trimD g.High).l∧From' w.heap.size v3 (trimD g.Step).l∧Below w.heap.size w w' :=
  rcNew_core g.Low g.High g.Step g.IC g.FC g.SC g.MI g.MF g.MD g.HI w g.ic_bd.1 g.ic_bd.2.1 g.fc_bd.1 g.sc_bd.1 g.mi_bd.1 g.mf_bd.1 g.md_bd.1 g.hi_bd.1 g.hi_bd.2.1 g.low_ok.1 g.low_ok.2.1 g.low_ok.2.2 g.high_ok.1 g.high_ok.2.1 g.high_ok.2.2 g.step_ok.1 g.step_ok.2.1 g.step_ok.2.2 g.lo_hi g.step_pos
end Go.Proofs.YteiomfgehlojeaaGreatDoor
end
section
namespace Go.Sym
open Go
def pD (k:Nat):List Pat:=[.at_ (8 * k), .ls k, .at_ (8 * k + 4)]
def pDr (k:Nat):List Pat:=[.at_ (8 * k), .ls k, .at_ (8 * k + 4), .ls (k + 1)]
def pIv (n:Int):Pat:=.val (.int .i64 n)
def pBv (b:Bool):Pat:=.val (.bool b)
def pNilS:Pat:=.val (.slice none 0 0)
def pN:List Pat:=[.at_ 4004, .at_ 4008, .at_ 4012, .at_ 4016, .at_ 4020, .at_ 4024, .at_ 4028]
def pR (sg:Bool):List Pat:=pD 1 ++ pD 2 ++ pD 3 ++ [pBv sg] ++ pN
def pRec:List Pat:=[.at_ 12000, .at_ 12004, .at_ 12008, .at_ 12012, .at_ 12016, .at_ 12020, .at_ 12024, .at_ 12028]
def pG:List Pat:=[.at_ 12100, .at_ 12104, .at_ 12108, .at_ 12112, .at_ 12116, .at_ 12120]
def pC:List Pat:=pD 60 ++ pD 61 ++ [.ls 62, .at_ 12148, .at_ 12152, .at_ 12156, .at_ 12160, .at_ 12164, .at_ 12168, .at_ 12172, .at_ 12176]
def pP:List Pat:=[.ls 80, .ls 80, .ls 80, .ls 80, .at_ 12200, .at_ 12204, .at_ 12208, .at_ 12212, .at_ 12216]
def pOwn (b:Bool):List Pat:=[pBv b, .ls 70, .at_ 564, .ls 71]
def ix (m:Nat) (met:Bool) (i:Nat):Nat:=if met then i else if Nat.ble i m then i else 2 * m - i
def kv (i:Nat):Nat:=100 + 4 * i
def kd (i:Nat):Nat:=102 + 4 * i
def drE (i : Nat) : List Ent2 := [
 { f:=68,ps:=[.agg (pDr (kd i))],r:=pBv true },
 { f:=37,ps:=[.agg (pDr (kd i))],r:=.agg (pD (kv i)) },
 { f:=36,ps:=[.agg (pD (kv i))],r:=.at_ (16000 + 4 * i) },
 { f:=470,ps:=[.agg (pD (kv i)), .at_ 4016, .at_ 4020],r:=.tup [.agg (pDr (kd i)),pIv 0] },
 { f:=149,ps:=[.agg (pDr (kd i))],r:=.at_ (20000 + 4 * i) }]
def stE (sg : Bool) (m : Nat) (met : Bool) (d : Int) (i : Nat) : Ent2 :=
 { f:=465,ps:=[.agg (pR sg), .agg (pD (kv (ix m met i))),pIv d],r:=.tup [.agg (pD (kv (ix m met (i + 1)))),pIv 0] }
def lawE (m : Nat) (met n0 sg : Bool) : List Ent2 :=
 let ng:=n0 && sg
 [ { f:=4,ps:=[.agg pG, .at_ 12140, .agg pC],r:=.agg (pRec ++ pP ++ pR sg ++ [pBv false,pNilS,pBv false,pNilS,pIv 0,pIv 0]) },
   { f:=7,ps:=[.agg pC],r:=.agg ([.at_ 12300, .at_ 12304, .at_ 12308] ++ pN) },
   { f:=26,ps:=[.agg ([.at_ 12300, .at_ 12304, .at_ 12308] ++ pN)],r:=.tup [.agg (pR sg), .val .nilIface] },
   { f:=24,ps:=[.agg pRec],r:=.tup [.ls 81, .val .nilIface] },
   { f:=8,ps:=[.agg (pDr 64), .at_ 4004, .at_ 4012],r:=.agg (pOwn n0) },
   { f:=31,ps:=[.agg (pOwn ng ++ [pIv 0,pIv 0])],r:=pBv true },
   { f:=32,ps:=[.agg (pOwn ng), .at_ 4004, .at_ 4008],r:=pBv true },
   { f:=71,ps:=[.ls 70],r:=.ls 70 },
   { f:=71,ps:=[.ls 71],r:=.ls 71 },
   { f:=68,ps:=[.agg (pOwn ng)],r:=pBv true },
   { f:=37,ps:=[.agg (pOwn ng)],r:=.agg (pD 90) },
   { f:=469,ps:=[.agg (pR sg), .agg (pD 90)],r:=.tup [.agg (pD (kv 0)),pIv 0] },
   { f:=12,ps:=[.at_ 12144,pIv 10],r:=pIv m },
   { f:=13,ps:=[.at_ (16000 + 4 * m)],r:=.tup [.agg (pD 92),pIv 0] },
   { f:=14,ps:=[.agg (pR sg), .agg (pOwn ng)],r:=.tup [.agg (pDr (kd 0)),pIv 0] },
   { f:=15,ps:=[.agg (pDr (kd 0))],r:=.agg (pD (kv 0)) },
   { f:=16,ps:=[.agg (pD 3),pIv m],r:=.tup [.agg (pD 94),pIv 0] },
   { f:=17,ps:=[.agg (pD (kv 0)), .agg (pD 94)],r:=.tup [.agg (pD 96),pIv 0] },
   { f:=18,ps:=[.agg (pD 96), .agg (pD 2)],r:=.at_ 15000 },
   { f:=19,ps:=[],r:=pBv true } ]
 ++ (if met then [{ f:=18,ps:=[.agg (pD 92), .agg (pD 2)],r:=pIv 0 }] else [{ f:=21,ps:=[.agg (pD 92)],r:=.agg (pD (kv m)) },{ f:=20,ps:=[.agg (pD (kv m)), .agg (pD 96)],r:=pBv true }])
 ++ ((List.range (2 * m + 1)).map drE).flatten ++ (List.range m).map (stE sg m met 1) ++ (List.range m).map (fun j=>stE sg m met (-1) (m + j))
def lawArgs:List Pat:=[.agg pG, .at_ 12140, .agg pC, .at_ 12144, .agg (pDr 64)]
def eqS (met:Bool):Tb where
  bin:=fun op a b=>match op,a,b with
    | .eql, .atom a, .atom b=>if Nat.beq a b && (Nat.ble 16000 a && (Nat.blt a 20000 && Nat.beq (a % 4) 0)) then some (.lit (.bool true)) else none
    | .gtr, .atom a, .lit b=>if Nat.beq a 15000 && litEq b (.int .i64 0) then some (.lit (.bool met)) else none
    | _,_,_=>none
  un:=fun _ _=>none
  mx:=fun _=>none
  ln:=fun _=>none
noncomputable def lawRun (B:Base) (m:Nat) (met n0 sg:Bool):Bool:=match callE B (eqS met) (ent2A (lawE m met n0 sg)) 3 (bldPs 0 lawArgs).1 { nc:=(bldPs 0 lawArgs).2 } with
  | some (r,_)=>matP (bldPs 0 lawArgs).2 (pBv true) r
  | none=>false
end Go.Sym
end
section
namespace Go.Proofs.YteiomfgehlojeaaGreatDoor
open Go.RowKit
theorem rest_num (t:Dc):num (wholeD t ++ restD t) = num t.l:=by
  unfold wholeD restD
  rw [num_append,num_trim,← num_append,List.take_append_drop,num_wide]
theorem whole_dg {t:Dc} (h:Dg t.l):Dg (wholeD t):=((h.wideL t.s).take _).trim
theorem rest_dg {t:Dc} (h:Dg t.l):Dg (restD t):=(h.wideL t.s).drop' _
theorem rest_len (t:Dc):(restD t).length = t.s:=by
  unfold restD
  rw [List.length_drop,wideL_len]
  omega
theorem frF_len (x:Dc) (k:Nat):(frF x k).length = max (trimD x).s k:=by
  unfold frF
  rw [List.length_append,List.length_replicate,rest_len]
  omega
theorem frI_len (x:Dc) (m:Nat):(frI x m).length = max (wholeD (trimD x)).length m:=by
  unfold frI
  rw [List.length_append,List.length_replicate]
  omega
theorem from_dg {x:Dc} (h:Dg x.l) (m k:Nat):Dg (fromDr x m k).int∧Dg (fromDr x m k).frac:=by
  have ht:=trimD_dg x h
  have h1:Dg (frI x m):=(Dg.replicate _).append (whole_dg ht)
  have h2:Dg (frF x k):=(rest_dg ht).append (Dg.replicate _)
  refine ⟨?_,h2⟩
  show Dg (if _ then _ else _)
  split
  · exact Dg.replicate 1
  · exact h1
theorem from_len (x:Dc) (m k:Nat):(fromDr x m k).int.length ≤ max 1 (max (wholeD (trimD x)).length m)∧(fromDr x m k).frac.length = max (trimD x).s k:=by
  refine ⟨?_,frF_len x k⟩
  show (if _ then _ else _:List Int).length ≤ _
  split
  · simp; omega
  · rw [frI_len]; omega
theorem from_sp (x:Dc) (m k:Nat):(fromDr x m k).sep = true∨(fromDr x m k).frac = []:=by
  show decide (0 < (frF x k).length) = true∨frF x k = []
  cases h:frF x k with
  | nil=>exact .inr rfl
  | cons a l=>exact .inl (by simp)
theorem from_dec {x:Dc} (h:Dg x.l) (m k:Nat):decOf (fromDr x m k) = trimD x:=by
  have ht:=trimD_dg x h
  obtain ⟨d1,d2⟩:=from_dg h m k
  obtain ⟨z,hz⟩:∃ z,k - (restD (trimD x)).length = z:=⟨_,rfl⟩
  have hfl:(fromDr x m k).frac.length = (trimD x).s + z:=by
    have:=(from_len x m k).2
    rw [rest_len] at hz
    omega
  have hn:num ((fromDr x m k).int ++ (fromDr x m k).frac) = num ((trimD x).l ++ List.replicate z 0):=by
    have e1:num (frI x m ++ frF x k) = num ((trimD x).l ++ List.replicate z 0):=by
      unfold frI frF
      rw [hz,List.append_assoc,num_append,num_zeros,Nat.zero_mul,Nat.zero_add,← List.append_assoc,num_shift,rest_num,num_shift]
    rw [← e1]
    show num ((if frI x m = []∧frF x k = [] then [0] else frI x m) ++ frF x k) = _
    split
    · rename_i hc
      rw [hc.1,hc.2]
      rfl
    · rfl
  unfold decOf
  rw [hfl,trimD_num _ (d1.append d2) (ht.append (Dg.replicate z)) hn,show (fromDr x m k).neg = (trimD x).neg from rfl,trimD_shift]
  exact trim2 x h
theorem from_ok {x:Dc} (h:Dg x.l) {m k I S:Nat} (hw:(wholeD (trimD x)).length ≤ I) (hs:(trimD x).s ≤ S) (hm:m ≤ 20) (hk:k ≤ 20) (hI:I ≤ 20) (hS:S ≤ 20) {w:World} {vi vf:Value} (h1:IsInts w vi (fromDr x m k).int) (h2:IsInts w vf (fromDr x m k).frac):DrOK w vi vf (fromDr x m k):=by
  have hl:=from_len x m k
  exact ⟨h1,h2,(from_dg h m k).1,(from_dg h m k).2,by omega,by omega,from_sp x m k⟩
def stepA (lo hi st x0:Int) (m:Nat):Nat→Int
  | 0=>clampI x0 lo hi
  | k + 1=>clampI (stepA lo hi st x0 m k + (if k < m then st else -st)) lo hi
theorem clampI_bd {x lo hi:Int} (h:lo ≤ hi):lo ≤ clampI x lo hi∧clampI x lo hi ≤ hi:=by
  unfold clampI
  split
  · omega
  · split <;> omega
theorem clampI_in {x lo hi:Int} (h1:lo ≤ x) (h2:x ≤ hi):clampI x lo hi = x:=by
  unfold clampI
  rw [if_neg (by omega),if_neg (by omega)]
theorem stepA_bd {lo hi st x0:Int} {m:Nat} (h:lo ≤ hi):∀ k,lo ≤ stepA lo hi st x0 m k∧stepA lo hi st x0 m k ≤ hi
  | 0=>clampI_bd h
  | k + 1=>clampI_bd h
section
variable {lo hi st x0:Int} {m:Nat} (h:lo ≤ hi) (hst:0 < st)
include h hst
theorem stepA_up (hf:stepA lo hi st x0 m 0 + m * st ≤ hi):∀ k,k ≤ m→stepA lo hi st x0 m k = stepA lo hi st x0 m 0 + k * st
  | 0,_=>by simp
  | k + 1,hk=>by
    have ih:=stepA_up hf k (by omega)
    have hb:=stepA_bd (lo:=lo) (hi:=hi) (st:=st) (x0:=x0) (m:=m) h 0
    show clampI (stepA lo hi st x0 m k + (if k < m then st else -st)) lo hi = _
    rw [if_pos (by omega),ih]
    have e:stepA lo hi st x0 m 0 + k * st + st = stepA lo hi st x0 m 0 + (k + 1:Nat) * st:=by push_cast; rw [Int.add_mul]; omega
    rw [e]
    have h1:((k + 1:Nat):Int) * st ≤ m * st:=Int.mul_le_mul_of_nonneg_right (by omega) (by omega)
    have h2:0 ≤ ((k + 1:Nat):Int) * st:=Int.mul_nonneg (by omega) (by omega)
    exact clampI_in (by omega) (by omega)
theorem stepA_down (hf:stepA lo hi st x0 m 0 + m * st ≤ hi):∀ k,k ≤ m→stepA lo hi st x0 m (m + k) = stepA lo hi st x0 m (m - k)
  | 0,_=>rfl
  | k + 1,hk=>by
    have ih:=stepA_down hf k (by omega)
    have u1:=stepA_up h hst hf (m - k) (by omega)
    have u2:=stepA_up h hst hf (m - (k + 1)) (by omega)
    have hb:=stepA_bd (lo:=lo) (hi:=hi) (st:=st) (x0:=x0) (m:=m) h (m - (k + 1))
    show clampI (stepA lo hi st x0 m (m + k) + (if m + k < m then st else -st)) lo hi = _
    rw [if_neg (by omega),ih]
    have e:stepA lo hi st x0 m (m - k) + -st = stepA lo hi st x0 m (m - (k + 1)):=by
      rw [u1,u2]
      have:((m - k:Nat):Int) = ((m - (k + 1):Nat):Int) + 1:=by omega
      rw [this,Int.add_mul]
      omega
    rw [e]
    exact clampI_in hb.1 hb.2
theorem stepA_met (hf:hi < stepA lo hi st x0 m 0 + m * st):stepA lo hi st x0 m m = hi:=by
  have key:∀ k,k ≤ m→stepA lo hi st x0 m k = hi∨stepA lo hi st x0 m k = stepA lo hi st x0 m 0 + k * st:=by
    intro k
    induction k with
    | zero=>exact fun _ => .inr (by simp)
    | succ k ih =>
      intro hk
      have hb:=stepA_bd (lo:=lo) (hi:=hi) (st:=st) (x0:=x0) (m:=m) h 0
      have e:stepA lo hi st x0 m (k + 1) = clampI (stepA lo hi st x0 m k + st) lo hi:=by
        show clampI (stepA lo hi st x0 m k + (if k < m then st else -st)) lo hi = _
        rw [if_pos (by omega)]
      rw [e]
      rcases ih (by omega) with h1 | h1
      · left
        rw [h1]
        unfold clampI
        rw [if_neg (by omega),if_pos (by omega)]
      · rw [h1]
        have e2:stepA lo hi st x0 m 0 + k * st + st = stepA lo hi st x0 m 0 + (k + 1:Nat) * st:=by push_cast; rw [Int.add_mul]; omega
        have h2:0 ≤ ((k + 1:Nat):Int) * st:=Int.mul_nonneg (by omega) (by omega)
        rw [e2]
        by_cases hc:hi < stepA lo hi st x0 m 0 + (k + 1:Nat) * st
        · left
          unfold clampI
          rw [if_neg (by omega),if_pos hc]
        · right
          exact clampI_in (by omega) (by omega)
  have hb:=stepA_bd (lo:=lo) (hi:=hi) (st:=st) (x0:=x0) (m:=m) h m
  rcases key m (Nat.le_refl _) with h1 | h1
  · exact h1
  · omega
end
end Go.Proofs.YteiomfgehlojeaaGreatDoor
end
section
namespace Go.Proofs.YteiomfgehlojeaaGreatDoor
open Go.RowKit Go.Sym
theorem rdTimes_far (v:Value) (d:Dc) (n:Nat) (w:World) (ha:IsInts w v d.l) (da:Dg d.l) (hl:d.l.length ≤ 100) (hs:d.s ≤ 1000) (hn:n ≤ 1000) :
    Calls Tryz.prog 16 #[dv v d, .int .i64 n] w fun e w'=>∃ sl,e = .returned (.tuple #[dv sl (timesD d n), .int .i64 0])∧IsInts w' sl (timesD d n).l∧From' w.heap.size sl (timesD d n).l∧Below w.heap.size w w':=by
  have hlen:(digs (n * num d.l)).length ≤ 1000000:=by
    have:(digs (n * num d.l)).length ≤ 104:=digs_len_le (by
      have h1:=num_lt da
      have h2:10 ^ d.l.length ≤ 10 ^ 100:=Nat.pow_le_pow_right (by omega) hl
      have h3:n * num d.l ≤ 1000 * num d.l:=Nat.mul_le_mul_right _ hn
      have h4:(10:Nat) ^ 104 = 10000 * 10 ^ 100:=by rw [show (104:Nat) = 4 + 100 from rfl,Nat.pow_add]
      rw [h4]
      generalize (10:Nat) ^ 100 = P at *
      omega)
    omega
  let L:=dAl 1 d ++ [(100,Value.int .i64 n)] ++ lAl 2 (digs (n * num d.l)) ++ dAl 3 (timesD d n)
  have hD:HasD (bas w L) 1 d:=⟨⟨by decide,rfl⟩,rfl,rfl⟩
  have hN:(bas w L).A 100 = some (.int .i64 n):=rfl
  have hL2:HasL (bas w L) 2 (digs (n * num d.l)):=⟨by decide,rfl⟩
  have hD3:HasD (bas w L) 3 (timesD d n):=⟨⟨by decide,rfl⟩,rfl,rfl⟩
  have hM:HasG (bas w L) (.at_ 8) 2 (.at_ 12) ⟨d.neg,digs (n * num d.l),d.s⟩:=⟨hL2, .atm rfl, .atm rfl⟩
  have h:Ent2OK (bas w L) Tryz.prog ⟨16,[decP 1, .at_ 100], .tup [decP 3, .val (.int .i64 0)]⟩:=by
    refine run_mk (by kernel_rfl) rfl (T:=tbL [⟨.lss, .atom 100, .lit (.int .i64 (-1000)), .lit (.bool false)⟩,⟨.gtr, .atom 100, .lit (.int .i64 1000), .lit (.bool false)⟩,⟨.lss, .atom 100, .lit (.int .i64 0), .lit (.bool false)⟩] [] [] []) (tbL_ok ?_ nilF nilF nilF)
      (orc:=ent2A [⟨46,[decP 1], .val (.bool true)⟩,⟨47,[.ls 1, .at_ 100], .ls 2⟩,⟨45,[decG (.at_ 8) 2 (.at_ 12)],decP 3⟩]) (ent2_ok ?_) ⟨hD.g.wf,⟨_,hN⟩,trivial⟩ ⟨hD3.g.wf,trivial,trivial⟩ (by kernel_rfl)
    · exact consF (binI (x:=n) (y:=-1000) rfl rfl rfl (run_lssI (decide_eq_false (by omega)))) (consF (binI (x:=n) (y:=1000) rfl rfl rfl (run_gtrI (decide_eq_false (by omega)))) (consF (binI (x:=n) (y:=0) rfl rfl rfl (run_lssI (by simp))) nilF))
    · refine consF (ent_mk [deA hD.g] (scR (.val (.bool true)) rfl) ?_) (consF (ent_mk [lsA hD.1,scA (.atm hN)] (lsR hL2) ?_) (consF (ent_mk [deA hM] (deR hD3.g) ?_) nilF))
      · rintro w _ ⟨_,_,rfl,⟨v,rfl,hv⟩,rfl⟩
        exact (rdMay_any v d w hv da hs).mono (by rintro e w' ⟨rfl,hb⟩; exact ⟨_,rfl,rfl,hb⟩)
      · rintro w _ ⟨v,_,rfl,hv,_,_,rfl,rfl,rfl⟩
        exact (rfTimes_any v d.l n w hv da hl hn).mono (by rintro e w' ⟨sl,rfl,ho,hb⟩; exact ⟨_,rfl,⟨IsInts.of_own ho,own_far ho (Nat.le_refl _)⟩,hb⟩)
      · rintro w _ ⟨_,_,rfl,⟨v,rfl,hv⟩,rfl⟩
        have e:trimD ⟨d.neg,digs (n * num d.l),d.s⟩ = timesD d n:=by unfold timesD; rw [decide_eq_false (show ¬ ((n:Int) < 0) by omega)]; simp
        have:=rdTrim_any v ⟨d.neg,digs (n * num d.l),d.s⟩ w hv (digs_dg _) hlen hs
        rw [e] at this
        exact this.mono (by rintro e w' ⟨sl,rfl,hi,hf,hb⟩; exact ⟨_,rfl,⟨_,rfl,hi,hf⟩,hb⟩)
  refine (h.2 w (bas_under _ _ _) [dv v d, .int .i64 n] ⟨_,_,rfl,hD.g.inn ha (fun _ _=>trivial),_,_,rfl,⟨hN,rfl⟩,rfl⟩).mono ?_
  rintro e w' ⟨x,rfl,⟨ys,rfl,a,_,rfl,ha,b,_,rfl,hb,rfl⟩,hB⟩
  obtain ⟨sl,rfl,hi,hf⟩:=hD3.g.out2 ha
  exact ⟨sl,by rw [show b = .int .i64 0 from hb],hi,hf,hB⟩
structure Ld where
  c:Cg
  k:Int
  d:Dr
namespace Ld
variable (q:Ld)
def lo:Int:=atK q.c.SC q.c.Low
def hi:Int:=atK q.c.SC q.c.High
def st:Int:=atK q.c.SC q.c.Step
def sg:Bool:=(trimD q.c.Low).neg
def R:Rl:={ lo:=trimD q.c.Low,hi:=trimD q.c.High,st:=trimD q.c.Step,vlo:=.slice none 0 0,vhi:=.slice none 0 0,vst:=.slice none 0 0,sg:=q.sg,ic:=q.c.IC,fc:=q.c.FC,sc:=q.c.SC,mi:=q.c.MI,mf:=q.c.MF,mo:=q.c.MD,hy:=q.c.HI }
def own0:Dr:=goodDr q.d q.c.IC q.c.SC
def own:Dr:=⟨q.d.neg && q.sg,q.own0.int,q.own0.sep,q.own0.frac⟩
def x0:Int:=atK q.c.SC (decOf q.own)
def m:Nat:=(aroundI q.k 10).toNat
def a (i:Nat):Int:=stepA q.lo q.hi q.st q.x0 q.m i
def D (i:Nat):Dc:=cz q.c.SC (q.a i)
def F (i:Nat):Dr:=fromDr (q.D i) q.c.MI q.c.MF
def up:Dc:=timesD (trimD q.c.Step) q.m
def far:Dc:=addD (q.D 0) q.up
def met:Bool:=decide (0 < cmpD (trimD q.far) (trimD (trimD q.c.High)))
theorem m_lt:q.m < 10:=by have:=aroundI_bd q.k 10 (by omega); unfold m; omega
theorem m_eq:(q.m:Int) = aroundI q.k 10:=by have:=aroundI_bd q.k 10 (by omega); unfold m; omega
theorem lo_cz:trimD q.c.Low = cz q.c.SC q.lo:=trimD_eq _ _ q.c.low_ok.1 (Nat.le_of_eq q.c.low_ok.2.2)
theorem hi_cz:trimD q.c.High = cz q.c.SC q.hi:=trimD_eq _ _ q.c.high_ok.1 (Nat.le_of_eq q.c.high_ok.2.2)
theorem st_cz:trimD q.c.Step = cz q.c.SC q.st:=trimD_eq _ _ q.c.step_ok.1 (Nat.le_of_eq q.c.step_ok.2.2)
theorem lo_hi:q.lo ≤ q.hi:=by
  have h:=q.c.lo_hi
  rw [q.lo_cz,q.hi_cz,cmpD_cz] at h
  have:=cmp3_pos_iff q.lo q.hi
  omega
theorem st_pos:0 < q.st:=by
  have h:=q.c.step_pos
  rw [q.st_cz,show trimD ⟨false,[],0⟩ = cz q.c.SC 0 from by rw [trimD_eq q.c.SC ⟨false,[],0⟩ Dg.nil (Nat.zero_le _),atK_zero],cmpD_cz] at h
  have:=(cmp3_pos_iff q.st 0).1 (by omega)
  exact this
theorem atK_lt {K p:Nat} {d:Dc} (h:Dg d.l) (hl:d.l.length + (K - d.s) ≤ p):(atK K d).natAbs < 10 ^ p:=by
  have h1:=num_lt h
  have h2:num d.l * 10 ^ (K - d.s) < 10 ^ p:=by
    have h3:num d.l * 10 ^ (K - d.s) < 10 ^ d.l.length * 10 ^ (K - d.s):=Nat.mul_lt_mul_of_pos_right h1 (Nat.pow_pos (by omega))
    rw [← Nat.pow_add] at h3
    exact Nat.lt_of_lt_of_le h3 (Nat.pow_le_pow_right (by omega) hl)
  unfold atK
  split <;> omega
theorem lo_lt:q.lo.natAbs < 10 ^ (q.c.IC + q.c.SC):=atK_lt q.c.low_ok.1 (by have:=q.c.low_ok; omega)
theorem hi_lt:q.hi.natAbs < 10 ^ (q.c.IC + q.c.SC):=atK_lt q.c.high_ok.1 (by have:=q.c.high_ok; omega)
theorem st_lt:q.st.natAbs < 10 ^ (q.c.IC + q.c.SC):=atK_lt q.c.step_ok.1 (by have:=q.c.step_ok; omega)
theorem bd:1 ≤ q.c.IC∧q.c.IC ≤ 8∧q.c.SC ≤ 5∧q.c.SC ≤ q.c.FC∧q.c.FC ≤ 5∧q.c.MI ≤ q.c.IC∧q.c.MF ≤ q.c.SC∧q.c.MD ≤ 6:=by
  have:=q.c.ic_bd
  have:=q.c.fc_bd
  have:=q.c.sc_bd
  have:=q.c.mi_bd
  have:=q.c.mf_bd
  have:=q.c.md_bd
  omega
theorem own_len:q.own.int.length ≤ q.c.IC∧q.own.frac.length ≤ q.c.SC∧Dg q.own.int∧Dg q.own.frac∧(q.own.sep = true∨q.own.frac = []):=by
  have h1:(goodL q.d.int q.c.IC).length ≤ q.c.IC:=by rw [goodL_len]; omega
  refine ⟨h1,?_,goodL_dg _ _,?_,?_⟩
  · show (if _ then _ else _:List Int).length ≤ _
    split
    · rw [goodL_len]; omega
    · simp
  · show Dg (if _ then _ else _)
    split
    · exact goodL_dg _ _
    · exact Dg.nil
  · show q.d.sep = true∨(if q.d.sep = true then _ else _) = []
    by_cases h:q.d.sep = true
    · exact .inl h
    · exact .inr (by rw [if_neg h])
theorem dec_ok:Dg (decOf q.own).l∧(decOf q.own).s ≤ q.c.SC∧(decOf q.own).l.length ≤ q.c.IC + q.c.SC∧q.x0.natAbs < 10 ^ (q.c.IC + q.c.SC):=by
  obtain ⟨h1,h2,h3,h4,_⟩:=q.own_len
  have hd:Dg (q.own.int ++ q.own.frac):=h3.append h4
  have hs:(decOf q.own).s ≤ q.own.frac.length:=trimD_s _
  have hl:(decOf q.own).l.length ≤ (q.own.int ++ q.own.frac).length:=trimD_len _
  rw [List.length_append] at hl
  refine ⟨trimD_dg _ hd,by omega,by omega,?_⟩
  unfold x0
  rw [show decOf q.own = trimD ⟨q.own.neg,q.own.int ++ q.own.frac,q.own.frac.length⟩ from rfl,atK_trim q.c.SC _ hd (by show q.own.frac.length ≤ _; omega)]
  exact atK_lt hd (by show (q.own.int ++ q.own.frac).length + (_ - q.own.frac.length) ≤ _; rw [List.length_append]; omega)
theorem a_bd (i:Nat):q.lo ≤ q.a i∧q.a i ≤ q.hi:=stepA_bd q.lo_hi i
theorem a_lt (i:Nat):(q.a i).natAbs < 10 ^ (q.c.IC + q.c.SC):=by
  have:=q.a_bd i
  have:=q.lo_lt
  have:=q.hi_lt
  omega
theorem D_ok (i:Nat):Dg (q.D i).l∧(q.D i).s ≤ q.c.SC∧(q.D i).l.length ≤ q.c.IC + q.c.SC:=⟨cz_dg _ _,cz_s _ _,cz_len _ _ _ (q.a_lt i)⟩
theorem D_trim (i:Nat):trimD (q.D i) = q.D i:=trim_cz _ _
theorem D_whole (i:Nat):(wholeD (trimD (q.D i))).length ≤ q.c.IC:=by
  rw [q.D_trim]
  show (wholeD (trimD (al q.c.SC (q.a i)))).length ≤ _
  exact trim_whole _ _ (al_len _ _ _ (q.a_lt i))
theorem F_ok (i:Nat) {w:World} {vi vf:Value} (h1:IsInts w vi (q.F i).int) (h2:IsInts w vf (q.F i).frac):DrOK w vi vf (q.F i):=by
  have hb:=q.bd
  refine from_ok (q.D_ok i).1 (q.D_whole i) (by rw [q.D_trim]; exact (q.D_ok i).2.1) ?_ ?_ ?_ ?_ h1 h2 <;> omega
theorem F_dec (i:Nat):decOf (q.F i) = q.D i:=by
  show decOf (fromDr _ _ _) = _
  rw [from_dec (q.D_ok i).1,q.D_trim]
theorem up_eq:q.up = cz q.c.SC (q.st * q.m):=by unfold up; rw [q.st_cz,timesD_cz]
theorem far_eq:q.far = cz q.c.SC (q.a 0 + q.st * q.m):=by unfold far; rw [q.up_eq]; exact addD_cz _ _ _
theorem step_lt (n:Int) (hn:n.natAbs ≤ 10) (x:Int) (hx:x.natAbs < 10 ^ (q.c.IC + q.c.SC)):(x + q.st * n).natAbs < 10 ^ 20∧(q.st * n).natAbs < 10 ^ 20:=by
  have h1:=q.st_lt
  have hb:=q.bd
  have h2:(10:Nat) ^ (q.c.IC + q.c.SC) ≤ 10 ^ 13:=Nat.pow_le_pow_right (by omega) (by omega)
  have h3:(q.st * n).natAbs ≤ q.st.natAbs * 10:=by rw [Int.natAbs_mul]; exact Nat.mul_le_mul_left _ hn
  have e1:(10:Nat) ^ 13 = 10000000000000:=by decide
  have e2:(10:Nat) ^ 20 = 100000000000000000000:=by decide
  omega
theorem met_iff:q.met = true↔q.hi < q.a 0 + q.m * q.st:=by
  unfold met
  rw [decide_eq_true_eq,q.far_eq,trim_cz,q.hi_cz,trim_cz,cmpD_cz,cmp3_pos_iff,Int.mul_comm q.st]
theorem R_num:RlNum q.R:=by
  have hb:=q.bd
  have h1:=q.c.low_ok
  have h2:=q.c.high_ok
  have h3:=q.c.step_ok
  have l1:=trimD_len q.c.Low
  have l2:=trimD_len q.c.High
  have l3:=trimD_len q.c.Step
  have s1:=trimD_s q.c.Low
  have s2:=trimD_s q.c.High
  have s3:=trimD_s q.c.Step
  refine ⟨trimD_dg _ h1.1,trimD_dg _ h2.1,trimD_dg _ h3.1,by show (trimD q.c.Low).l.length ≤ _; omega,by show (trimD q.c.High).l.length ≤ _; omega,by show (trimD q.c.Step).l.length ≤ _; omega,by show (trimD q.c.Low).s ≤ _; omega,by show (trimD q.c.High).s ≤ _; omega,by show (trimD q.c.Step).s ≤ _; omega,by show q.c.SC ≤ _; omega,hb.2.2.2.2.2.2.2,?_⟩
  show ¬ 0 < cmpD (trimD (trimD q.c.Low)) (trimD (trimD q.c.High))
  rw [trim2 _ h1.1,trim2 _ h2.1]
  exact q.c.lo_hi
def ixL (i:Nat):Nat:=if q.met then i else if Nat.ble i q.m then i else 2 * q.m - i
theorem a_ix (i:Nat) (h:i ≤ 2 * q.m):q.a (q.ixL i) = q.a i:=by
  unfold ixL
  by_cases hm:q.met = true
  · rw [if_pos hm]
  · rw [if_neg hm]
    by_cases hi:Nat.ble i q.m = true
    · rw [if_pos hi]
    · rw [if_neg hi]
      have hlt:¬ i ≤ q.m:=fun e=>hi (Nat.ble_eq_true_of_le e)
      have hf:q.a 0 + q.m * q.st ≤ q.hi:=by
        have:=q.met_iff
        have h2:¬ q.hi < q.a 0 + q.m * q.st:=fun e=>hm (this.2 e)
        omega
      have:=stepA_down q.lo_hi q.st_pos hf (i - q.m) (by omega)
      rw [show q.m + (i - q.m) = i by omega,show q.m - (i - q.m) = 2 * q.m - i by omega] at this
      exact this.symm
end Ld
end Go.Proofs.YteiomfgehlojeaaGreatDoor
end
section
namespace Go.Sym
open Go Go.Proofs Go.RowKit
def toldRec:Told:={ f:=241,args:=[],nb:=0,nc:=0,L:=[],r:=(.slc 0 0 40 8 (.ex 40)),nb':=1,nc':=0,L':=[(0, .cells 52 [(.lit (t [97,114,45,69,71])),(.lit (t [194,164,35,44,35,35,48,46,48,48])),(.lit (t [97,114,97,98])),(.lit (t [217,171])),(.lit (t [217,172])),(.lit (t [45])),(.lit (t [217,170])),(.lit (t [69,71,80])),(.lit (t [98,103,45,66,71])),(.lit (t [48,46,48,48,194,160,194,164])),(.lit (t [108,97,116,110])),(.lit (t [44])),(.lit (t [])),(.lit (t [45])),(.lit (t [37])),(.lit (t [66,71,78])),(.lit (t [98,110,45,66,68])),(.lit (t [35,44,35,35,44,35,35,48,46,48,48,194,164])),(.lit (t [98,101,110,103])),(.lit (t [46])),(.lit (t [44])),(.lit (t [45])),(.lit (t [37])),(.lit (t [224,167,179])),(.lit (t [99,115,45,67,90])),(.lit (t [35,44,35,35,48,46,48,48,194,160,194,164])),(.lit (t [108,97,116,110])),(.lit (t [44])),(.lit (t [226,128,175])),(.lit (t [45])),(.lit (t [37])),(.lit (t [75,196,141])),(.lit (t [100,97,45,68,75])),(.lit (t [35,44,35,35,48,46,48,48,194,160,194,164])),(.lit (t [108,97,116,110])),(.lit (t [44])),(.lit (t [46])),(.lit (t [45])),(.lit (t [37])),(.lit (t [107,114])),(.lit (t [100,101,45,65,84])),(.lit (t [194,164,194,160,35,44,35,35,48,46,48,48])),(.lit (t [108,97,116,110])),(.lit (t [44])),(.lit (t [46])),(.lit (t [45])),(.lit (t [37])),(.lit (t [226,130,172])),(.lit (t [100,101,45,67,72])),(.lit (t [194,164,194,160,35,44,35,35,48,46,48,48,59,194,164,45,35,44,35,35,48,46,48,48])),(.lit (t [108,97,116,110])),(.lit (t [46])),(.lit (t [226,128,153])),(.lit (t [45])),(.lit (t [37])),(.lit (t [67,72,70])),(.lit (t [100,101,45,68,69])),(.lit (t [35,44,35,35,48,46,48,48,194,160,194,164])),(.lit (t [108,97,116,110])),(.lit (t [44])),(.lit (t [46])),(.lit (t [45])),(.lit (t [37])),(.lit (t [226,130,172])),(.lit (t [100,122,45,66,84])),(.lit (t [194,164,35,44,35,35,44,35,35,48,46,48,48])),(.lit (t [116,105,98,116])),(.lit (t [46])),(.lit (t [44])),(.lit (t [45])),(.lit (t [37])),(.lit (t [78,117])),(.lit (t [101,108,45,71,82])),(.lit (t [35,44,35,35,48,46,48,48,194,160,194,164])),(.lit (t [108,97,116,110])),(.lit (t [44])),(.lit (t [46])),(.lit (t [45])),(.lit (t [37])),(.lit (t [226,130,172])),(.lit (t [101,110,45,71,66])),(.lit (t [194,164,35,44,35,35,48,46,48,48])),(.lit (t [108,97,116,110])),(.lit (t [46])),(.lit (t [44])),(.lit (t [45])),(.lit (t [37])),(.lit (t [194,163])),(.lit (t [101,110,45,73,78])),(.lit (t [194,164,35,44,35,35,44,35,35,48,46,48,48])),(.lit (t [108,97,116,110])),(.lit (t [46])),(.lit (t [44])),(.lit (t [45])),(.lit (t [37])),(.lit (t [226,130,185])),(.lit (t [101,110,45,85,83])),(.lit (t [194,164,35,44,35,35,48,46,48,48])),(.lit (t [108,97,116,110])),(.lit (t [46])),(.lit (t [44])),(.lit (t [45])),(.lit (t [37])),(.lit (t [36])),(.lit (t [101,115,45,69,83])),(.lit (t [35,44,35,35,48,46,48,48,194,160,194,164])),(.lit (t [108,97,116,110])),(.lit (t [44])),(.lit (t [46])),(.lit (t [45])),(.lit (t [37])),(.lit (t [226,130,172])),(.lit (t [101,116,45,69,69])),(.lit (t [35,44,35,35,48,46,48,48,194,160,194,164])),(.lit (t [108,97,116,110])),(.lit (t [44])),(.lit (t [226,128,175])),(.lit (t [226,136,146])),(.lit (t [37])),(.lit (t [226,130,172])),(.lit (t [102,97,45,73,82])),(.lit (t [35,44,35,35,48,46,48,48])),(.lit (t [97,114,97,98,101,120,116])),(.lit (t [217,171])),(.lit (t [217,172])),(.lit (t [226,136,146])),(.lit (t [217,170])),(.lit (t [])),(.lit (t [102,105,45,70,73])),(.lit (t [35,44,35,35,48,46,48,48,194,160,194,164])),(.lit (t [108,97,116,110])),(.lit (t [44])),(.lit (t [226,128,175])),(.lit (t [226,136,146])),(.lit (t [37])),(.lit (t [226,130,172])),(.lit (t [102,114,45,67,65])),(.lit (t [35,44,35,35,48,46,48,48,194,160,194,164])),(.lit (t [108,97,116,110])),(.lit (t [44])),(.lit (t [226,128,175])),(.lit (t [45])),(.lit (t [37])),(.lit (t [36])),(.lit (t [102,114,45,70,82])),(.lit (t [35,44,35,35,48,46,48,48,194,160,194,164])),(.lit (t [108,97,116,110])),(.lit (t [44])),(.lit (t [226,128,175])),(.lit (t [45])),(.lit (t [37])),(.lit (t [226,130,172])),(.lit (t [103,117,45,73,78])),(.lit (t [194,164,35,44,35,35,44,35,35,48,46,48,48])),(.lit (t [103,117,106,114])),(.lit (t [46])),(.lit (t [44])),(.lit (t [45])),(.lit (t [37])),(.lit (t [226,130,185])),(.lit (t [104,101,45,73,76])),(.lit (t [35,44,35,35,48,46,48,48,194,160,194,164])),(.lit (t [108,97,116,110])),(.lit (t [46])),(.lit (t [44])),(.lit (t [45])),(.lit (t [37])),(.lit (t [226,130,170])),(.lit (t [104,105,45,73,78])),(.lit (t [194,164,35,44,35,35,44,35,35,48,46,48,48])),(.lit (t [100,101,118,97])),(.lit (t [46])),(.lit (t [44])),(.lit (t [45])),(.lit (t [37])),(.lit (t [226,130,185])),(.lit (t [104,117,45,72,85])),(.lit (t [35,44,35,35,48,46,48,48,194,160,194,164])),(.lit (t [108,97,116,110])),(.lit (t [44])),(.lit (t [226,128,175])),(.lit (t [45])),(.lit (t [37])),(.lit (t [70,116])),(.lit (t [105,100,45,73,68])),(.lit (t [194,164,194,160,35,44,35,35,48,46,48,48])),(.lit (t [108,97,116,110])),(.lit (t [44])),(.lit (t [46])),(.lit (t [45])),(.lit (t [37])),(.lit (t [82,112])),(.lit (t [106,97,45,74,80])),(.lit (t [194,164,35,44,35,35,48])),(.lit (t [108,97,116,110])),(.lit (t [46])),(.lit (t [44])),(.lit (t [45])),(.lit (t [37])),(.lit (t [239,191,165])),(.lit (t [107,109,45,75,72])),(.lit (t [35,44,35,35,48,46,48,48,194,164])),(.lit (t [107,104,109,114])),(.lit (t [44])),(.lit (t [46])),(.lit (t [45])),(.lit (t [37])),(.lit (t [225,159,155])),(.lit (t [107,110,45,73,78])),(.lit (t [194,164,35,44,35,35,44,35,35,48,46,48,48])),(.lit (t [107,110,100,97])),(.lit (t [46])),(.lit (t [44])),(.lit (t [45])),(.lit (t [37])),(.lit (t [226,130,185])),(.lit (t [107,111,45,75,82])),(.lit (t [194,164,35,44,35,35,48])),(.lit (t [108,97,116,110])),(.lit (t [46])),(.lit (t [44])),(.lit (t [45])),(.lit (t [37])),(.lit (t [226,130,169])),(.lit (t [108,111,45,76,65])),(.lit (t [194,164,35,44,35,35,48,46,48,48,59,194,164,45,35,44,35,35,48,46,48,48])),(.lit (t [108,97,111,111])),(.lit (t [44])),(.lit (t [46])),(.lit (t [45])),(.lit (t [37])),(.lit (t [226,130,173])),(.lit (t [109,114,45,73,78])),(.lit (t [194,164,35,44,35,35,44,35,35,48,46,48,48])),(.lit (t [100,101,118,97])),(.lit (t [46])),(.lit (t [44])),(.lit (t [45])),(.lit (t [37])),(.lit (t [226,130,185])),(.lit (t [109,121,45,77,77])),(.lit (t [35,44,35,35,48,46,48,48,194,160,194,164])),(.lit (t [109,121,109,114])),(.lit (t [46])),(.lit (t [44])),(.lit (t [45])),(.lit (t [37])),(.lit (t [75])),(.lit (t [110,98,45,78,79])),(.lit (t [194,164,194,160,35,44,35,35,48,46,48,48,59,194,164,194,160,45,35,44,35,35,48,46,48,48])),(.lit (t [108,97,116,110])),(.lit (t [44])),(.lit (t [226,128,175])),(.lit (t [226,136,146])),(.lit (t [37])),(.lit (t [107,114])),(.lit (t [110,108,45,78,76])),(.lit (t [194,164,194,160,35,44,35,35,48,46,48,48,59,194,164,194,160,45,35,44,35,35,48,46,48,48])),(.lit (t [108,97,116,110])),(.lit (t [44])),(.lit (t [46])),(.lit (t [45])),(.lit (t [37])),(.lit (t [226,130,172])),(.lit (t [112,108,45,80,76])),(.lit (t [35,44,35,35,48,46,48,48,194,160,194,164])),(.lit (t [108,97,116,110])),(.lit (t [44])),(.lit (t [226,128,175])),(.lit (t [45])),(.lit (t [37])),(.lit (t [122,197,130])),(.lit (t [112,116,45,66,82])),(.lit (t [194,164,194,160,35,44,35,35,48,46,48,48])),(.lit (t [108,97,116,110])),(.lit (t [44])),(.lit (t [46])),(.lit (t [45])),(.lit (t [37])),(.lit (t [82,36])),(.lit (t [114,117,45,82,85])),(.lit (t [35,44,35,35,48,46,48,48,194,160,194,164])),(.lit (t [108,97,116,110])),(.lit (t [44])),(.lit (t [226,128,175])),(.lit (t [45])),(.lit (t [37])),(.lit (t [226,130,189])),(.lit (t [115,108,45,83,73])),(.lit (t [35,44,35,35,48,46,35,35,37])),(.lit (t [108,97,116,110])),(.lit (t [44])),(.lit (t [46])),(.lit (t [226,136,146])),(.lit (t [37])),(.lit (t [])),(.lit (t [116,97,45,73,78])),(.lit (t [194,164,194,160,35,44,35,35,44,35,35,48,46,48,48])),(.lit (t [116,97,109,108,100,101,99])),(.lit (t [46])),(.lit (t [44])),(.lit (t [45])),(.lit (t [37])),(.lit (t [226,130,185])),(.lit (t [116,104,45,84,72])),(.lit (t [194,164,35,44,35,35,48,46,48,48])),(.lit (t [116,104,97,105])),(.lit (t [46])),(.lit (t [44])),(.lit (t [45])),(.lit (t [37])),(.lit (t [224,184,191])),(.lit (t [122,104,45,67,78])),(.lit (t [194,164,35,44,35,35,48,46,48,48])),(.lit (t [108,97,116,110])),(.lit (t [46])),(.lit (t [44])),(.lit (t [45])),(.lit (t [37])),(.lit (t [194,165]))] true)] }
theorem told_row {P:Program} {T:Told} {xs vals:List Value} {n c sz:Nat} {et:TypeId} (h:∀ B:Base,(∀ i,B.A i = Option.none)→ToldOK B P T) (h0:T.nb = 0∧T.nc = 0∧T.L = []) (ha:T.args = xs.map .lit) (hr:T.r = .slc 0 0 n sz (.ex c)) (hL:T.L' = [(0, .cells et (vals.map .lit) true)]) (w:World) :
    Calls P T.f xs.toArray w fun e w'=>∃ g,e = .returned (.slice (some ⟨g,0,none⟩) n c)∧w'.heap[g]? = some (.cells vals.toArray et)∧w.heap.size ≤ g∧Below w.heap.size w w':=by
  obtain ⟨h1,h2,h3⟩:=h0
  have hno:∀ b,(ofL T.nb T.nc T.L).H.get b = none:=fun b=>by rw [h3]; rfl
  have hT:=h ⟨w.heap.size,w,fun _=>none⟩ (fun _=>rfl) Env.none w xs.toArray ⟨fun _ _=>rfl,fun _ _=>rfl,(fun b k hb=>by rw [hno] at hb; cases hb),(fun b _ k _ _ _ hb=>by rw [hno] at hb; cases hb),by rw [h1,h3]; show 0 ≤ 1000000; omega⟩
    ⟨Nat.le_refl _,fun _ _=>rfl,(fun g hg=>by obtain ⟨b,k,q,hb,_⟩:=hg; rw [hno] at hb; cases hb),(fun i x hx=>by cases hx),(fun n v h=>nomatch (show Option.none = some v from h)),fun i x hx=>by cases hx⟩ (by rw [ha]; simpa using gams_lits xs)
  refine hT.mono ?_
  rintro e w' ⟨ρ',x,rfl,hx,S⟩
  have hlive:∀ g,¬ Live Env.none (ofL T.nb T.nc T.L) g:=by
    rintro g ⟨b,k,q,hb,_⟩
    rw [hno] at hb; cases hb
  have hget:(ofL T.nb' T.nc' T.L').H.get 0 = some (.cells et (vals.map .lit) true):=by rw [hL]; rfl
  obtain ⟨g,o,z,arr,ys,k1,k2,k3,k4,k5,k6,k7,k8⟩:=S.rel.live 0 _ hget
  obtain ⟨rfl,hz⟩:=k8 rfl
  rw [gams_lits] at k5
  injection k5 with k5; subst k5
  rw [List.length_map] at k1 k7 hz
  have harr:arr = vals.toArray:=by
    apply Array.ext'
    apply List.ext_getElem?
    intro j
    by_cases hj:j < vals.length
    · have:=k7 j hj
      rw [Nat.zero_add] at this
      simpa using this
    · rw [List.getElem?_eq_none (by simp; omega),List.getElem?_eq_none (by simp; omega)]
  subst harr
  have hg:w.heap.size ≤ g:=by
    rcases S.fresh g ⟨0,_,_,hget,k1,rfl⟩ with h | h
    · exact h
    · exact absurd h (hlive g)
  refine ⟨g,?_,k2,hg,S.os,S.tape,S.output,S.size,fun k hk=>S.keep k hk (hlive k)⟩
  rw [hr] at hx
  simp only [gam,slcV,k1] at hx
  split at hx
  · injection hx with hx
    rw [← hx]
  · cases hx
theorem rec_told (B:Base) (hA:∀ i,B.A i = Option.none):ToldOK B Tryz.prog toldRec:=told_of (callE_ok noTb_ok noOrc_ok) (by kernel_rfl)
def recVals:List Value:=match toldRec.L' with
  | [(_, .cells _ l _)]=>l.filterMap fun | .lit v=>some v | _=>none
  | _=>[]
set_option maxRecDepth 100000 in
theorem records_any (w:World):Calls Tryz.prog 241 #[] w fun e w'=>∃ g,e = .returned (.slice (some ⟨g,0,none⟩) 40 40)∧w'.heap[g]? = some (.cells recVals.toArray 52)∧w.heap.size ≤ g∧Below w.heap.size w w' :=
  told_row (T:=toldRec) (xs:=[]) (sz:=8) rec_told ⟨by kernel_rfl,by kernel_rfl,by kernel_rfl⟩ (by kernel_rfl) (by kernel_rfl) (by kernel_rfl) w
def recS:List ByteArray:=recVals.map fun | .string s=>s | _=>⟨#[]⟩
theorem recVals_eq:recVals = recS.map Value.string:=by kernel_rfl
theorem recS_len:recS.length = 320:=by kernel_rfl
def rs (k j:Nat):ByteArray:=recS.getD (k * 8 + j) ⟨#[]⟩
theorem rec_cell {W:World} {g:Nat} (h:W.heap[g]? = some (.cells recVals.toArray 52)) (k j:Nat) (hk:k < 40) (hj:j < 8):W.cell? ⟨g,k * 8 + j,none⟩ = some (.string (rs k j)):=by
  have hl:=recS_len
  have hlt:k * 8 + j < recS.length:=by omega
  simp only [World.cell?,h,recVals_eq]
  unfold rs
  rw [List.getD_eq_getElem?_getD,List.getElem?_eq_getElem hlt]
  simp [hlt]
def rAgg (k:Nat):Value:=.agg #[.string (rs k 0), .string (rs k 1), .string (rs k 2), .string (rs k 3), .string (rs k 4), .string (rs k 5), .string (rs k 6), .string (rs k 7)]
def rEnc (k:Nat):Array Value:=#[.string (rs k 0),rAgg k]
def KpR (W W':World):Prop:=∀ (g:Nat) (arr:Array Value) (e:TypeId),W.heap[g]? = some (Obj.cells arr e (0,0))→W'.heap[g]? = some (Obj.cells arr e (0,0))
attribute [local go_sem] Oper.semAt_some
set_option maxRecDepth 100000 in
set_option maxHeartbeats 2000000 in
theorem all1_in (n:Nat) (hn:1 ≤ n) (w0:World):SeqStopsK Fence.wide n Tryz.prog 240 #[] rEnc KpR (fun ys=>ys = List.range 40) (fun pre=>pre <+: List.range 40) 40 w0:=fun l J Jx W hW hJ hJx hY h0=>by
  refine callsIn_of_wp Tryz.func240 rfl trivial ?_ rfl
  simp only [Tryz.ntmps240,List.size_toArray,List.length_cons,List.length_nil,Nat.reduceAdd,Nat.reduceSub,Array.replicate_succ,Array.replicate_zero,List.push_toArray,List.append_toArray,List.nil_append,List.cons_append]
  have hr:=(callsIn_wide (n:=n - 1)).2 (records_any W)
  gi_wp2_with (refine ⟨trivial,?_⟩; gi_at_call 241; refine hr.mono ?_; rintro e w1 ⟨g,rfl,hg,hgW,hB⟩)
  gi_loopw [6] (fun i wr=>∃ k:Nat,k ≤ 40∧i = .int .i64 k∧J (List.range k) wr∧wr.heap[g]? = some (.cells recVals.toArray 52))
    (fun i _=>40 - (RowKit.intOf i).toNat)
  case atStart=>exact ⟨0,Nat.zero_le _,rfl,hJ _ _ _ none h0 ⟨hB.os,hB.tape,hB.output,hB.size,fun k hk _=>hB.block k hk⟩ (fun r e=>by cases e),hg⟩
  case round =>
    obtain ⟨k,hk,rfl,hJs,hgr⟩:=hrel
    by_cases hlt:k < 40
    · have c0:=rec_cell hgr k 0 hlt (by omega)
      have c1:=rec_cell hgr k 1 hlt (by omega)
      have c2:=rec_cell hgr k 2 hlt (by omega)
      have c3:=rec_cell hgr k 3 hlt (by omega)
      have c4:=rec_cell hgr k 4 hlt (by omega)
      have c5:=rec_cell hgr k 5 hlt (by omega)
      have c6:=rec_cell hgr k 6 hlt (by omega)
      have c7:=rec_cell hgr k 7 hlt (by omega)
      have HG:=Lib.hid hgr
      have hyk:=fun W1 (hJ1:J (List.range k) W1)=>hY (List.range k) k W1 hJ1 (by simpa using hlt)
      unfold rEnc rAgg at hyk
      generalize rs k 0 = s0 at *
      generalize rs k 1 = s1 at *
      generalize rs k 2 = s2 at *
      generalize rs k 3 = s3 at *
      generalize rs k 4 = s4 at *
      generalize rs k 5 = s5 at *
      generalize rs k 6 = s6 at *
      generalize rs k 7 = s7 at *
      rw [Nat.add_zero] at c0
      clear hgr hY hg
      obtain ⟨fn,tmps,assign,body,hy,hR⟩:=hyk _ (hJ _ _ _ none hJs (World.grownBy_alloc wr (Obj.cells #[.string s0, .string s1, .string s2, .string s3, .string s4, .string s5, .string s6, .string s7] 52) none) (fun r e=>by cases e))
      have HG2:Hid ((wr.alloc (Obj.cells #[.string s0, .string s1, .string s2, .string s3, .string s4, .string s5, .string s6, .string s7] 52)).heap[g]? = some (Obj.cells recVals.toArray 52)):=by
        have:=HG.out
        exact (Below.heap_alloc wr _ g (Array.getElem?_eq_some_iff.1 this).1).trans this
      clear hyk
      gi_wp2
      refine hR.mono ?_
      rintro e W3 (⟨rfl,hJ3,hk3⟩ | ⟨rfl,hJx3⟩)
      · have HG3:=Lib.hid (hk3 g _ _ HG2.out)
        gi_wp2
        go_roundw
        case rel=>exact ⟨k + 1,by omega,by simp,by rw [List.range_succ]; exact hJ3,HG3.out⟩
        case measure=>simp [RowKit.intOf]; omega
      · gi_wp2
        refine bodyPost_ret (results_none rfl _ _ _) rfl ?_
        exact ⟨⟨_,rfl⟩, .inr ⟨_,⟨List.range' (k + 1) (40 - (k + 1)),by rw [← List.range_succ,List.range_eq_range',List.range_eq_range']; have:=@List.range'_append 0 (k + 1) (40 - (k + 1)) 1; simp only [Nat.one_mul,Nat.zero_add] at this; rw [this]; congr 1; omega⟩,hJx3⟩⟩
    · obtain rfl:k = 40:=by omega
      gi_wp2
      go_end0
      exact ⟨⟨_,rfl⟩, .inl ⟨_,rfl,hJs⟩⟩
set_option maxHeartbeats 1000000 in
theorem all_any (w:World):Calls Tryz.prog 211 #[] w fun e w'=>e = .returned (.func (.func 240) #[] #[])∧w' = w:=by
  go_enter Tryz.func211,Tryz.ntmps211
  go_wp2
  go_ret
  exact ⟨rfl,rfl⟩
theorem kpR_t {A B C:World} (h:KpR A B) (k:KpR B C):KpR A C:=fun g arr e hx=>k g arr e (h g arr e hx)
theorem kpR_b {n:Nat} (W:World) (l:Nat) (o o':Obj) (_:n ≤ l) (h:W.heap[l]? = some o) (hc:o.isCells = false) (_:o.isWalk = false):KpR W (W.putObj l o'):=by
  intro g arr e hg
  have hne:g ≠ l:=by
    rintro rfl
    rw [h] at hg
    injection hg with hg
    subst hg
    cases hc
  rw [World.putObj_heap_other hne]; exact hg
theorem kpR_alloc (W:World) (o:Obj):KpR W (W.alloc o):=fun g arr e hg=>(Below.heap_alloc W o g (Array.getElem?_eq_some_iff.1 hg).1).trans hg
set_option maxRecDepth 100000 in
set_option maxHeartbeats 4000000 in
theorem record_in (n:Nat) (hn:3 ≤ n) (nm:ByteArray) (kk:Nat) (hkk:kk < 40) (hit:rs kk 0 = nm) (hfirst:∀ j,j < kk→rs j 0 ≠ nm) (w:World) :
    CallsIn Fence.wide n Tryz.prog 161 #[.string nm] w fun e W'=>e = .returned (.tuple #[rAgg kk, .int .i64 0])∧Below w.heap.size w W':=by
  have h1:1 ≤ n:=by omega
  refine callsIn_of_wp_marks Tryz.func161 rfl trivial ?_ rfl
  simp only [Tryz.ntmps161,List.size_toArray,List.length_cons,List.length_nil,Nat.reduceAdd,Nat.reduceSub,Array.replicate_succ,Array.replicate_zero,List.push_toArray,List.append_toArray,List.nil_append,List.cons_append]
  gi_wp2_with (refine ⟨trivial,?_⟩; gi_at_call 211; refine ((callsIn_wide (n:=n - 1)).2 (all_any _)).mono ?_; rintro e w' ⟨rfl,rfl⟩)
  obtain ⟨W0,hW0⟩:∃ W0,((w.alloc (Obj.cells #[.string nm] 9)).alloc (Obj.cells #[.string ⟨#[]⟩, .string ⟨#[]⟩, .string ⟨#[]⟩, .string ⟨#[]⟩, .string ⟨#[]⟩, .string ⟨#[]⟩, .string ⟨#[]⟩, .string ⟨#[]⟩] 52)).alloc (Obj.cells #[.int .i64 0] 61) = W0:=⟨_,rfl⟩
  have hsz:W0.heap.size = w.heap.size + 3:=by rw [← hW0]; simp
  have hB0:Below w.heap.size w W0:=by rw [← hW0]; exact (((Below.refl _ w).alloc (Nat.le_refl _) _).alloc (by simp) _).alloc (by simp; omega) _
  have b1:Boxed W0 w.heap.size 9 (.string nm):=by rw [← hW0]; exact ((Boxed.new w 9 (.string nm)).alloc _).alloc _
  have b2:W0.heap[w.heap.size + 1]? = some (Obj.cells #[.string ⟨#[]⟩, .string ⟨#[]⟩, .string ⟨#[]⟩, .string ⟨#[]⟩, .string ⟨#[]⟩, .string ⟨#[]⟩, .string ⟨#[]⟩, .string ⟨#[]⟩] 52 (0,0)):=by
    rw [← hW0]
    have:=World.alloc_heap_new (w.alloc (Obj.cells #[.string nm] 9)) (Obj.cells #[.string ⟨#[]⟩, .string ⟨#[]⟩, .string ⟨#[]⟩, .string ⟨#[]⟩, .string ⟨#[]⟩, .string ⟨#[]⟩, .string ⟨#[]⟩, .string ⟨#[]⟩] 52)
    rw [World.size_alloc] at this
    exact (Below.heap_alloc _ _ _ (by simp)).trans this
  have b3:Boxed W0 (w.heap.size + 1 + 1) 61 (.int .i64 0):=by
    rw [← hW0]
    have:=Boxed.new ((w.alloc (Obj.cells #[.string nm] 9)).alloc (Obj.cells #[.string ⟨#[]⟩, .string ⟨#[]⟩, .string ⟨#[]⟩, .string ⟨#[]⟩, .string ⟨#[]⟩, .string ⟨#[]⟩, .string ⟨#[]⟩, .string ⟨#[]⟩] 52)) 61 (.int .i64 0)
    simp only [World.size_alloc] at this
    exact this
  rw [hW0]
  clear hW0
  refine wpIn_rangeFunc_ownH rfl h1 (gf:=240) (lb:=#[]) rfl trivial (enters_of Tryz.func240 (by kernel_rfl) rfl) (all1_in (n - 1) (by omega) W0) kpR_t (fun W l o o'=>kpR_b W l o o') (Below.refl _ _) (fun _=>rfl)
    (fun pre W=>(∀ j ∈ pre,rs j 0 ≠ nm)∧Boxed W w.heap.size 9 (.string nm)∧W.heap[w.heap.size + 1]? = some (Obj.cells #[.string ⟨#[]⟩, .string ⟨#[]⟩, .string ⟨#[]⟩, .string ⟨#[]⟩, .string ⟨#[]⟩, .string ⟨#[]⟩, .string ⟨#[]⟩, .string ⟨#[]⟩] 52 (0,0))∧Boxed W (w.heap.size + 1 + 1) 61 (.int .i64 0)∧Below w.heap.size w W)
    (fun c pre W=>c = .ret∧(∃ k p',pre = p' ++ [k]∧(∀ j ∈ p',rs j 0 ≠ nm)∧rs k 0 = nm∧∀ j,j < 8→W.cell? ⟨w.heap.size + 1,j,none⟩ = some (.string (rs k j)))∧W.cell? ⟨w.heap.size + 1 + 1,0,none⟩ = some (.int .i64 0)∧Below w.heap.size w W)
    ?hI ?hIx ⟨fun j hj=>absurd hj List.not_mem_nil,b1,b2,b3,hB0⟩
    (fun x a' W=>∃ Bx,W0.heap.size ≤ Bx∧W.heap[Bx]? = some (Obj.cells #[.string (rs x 0), .string (rs x 1), .string (rs x 2), .string (rs x 3), .string (rs x 4), .string (rs x 5), .string (rs x 6), .string (rs x 7)] 52 (0,0)) ∧
      a' = { tmps:=#[.string nm, .pointer (some ⟨w.heap.size,0,none⟩), .pointer (some ⟨w.heap.size + 1,0,none⟩), .pointer (some ⟨w.heap.size + 1 + 1,0,none⟩), .string (rs x 0), .pointer (some ⟨Bx,0,none⟩), .func (.func 240) #[] #[], .string (rs x 0),rAgg x,undef,undef,undef,undef,undef],defers:=[] })
    ?hAx ?assign ?body ?done ?stop
  case hI =>
    intro pre W W' row ⟨i1,i2,i3,i4,i5⟩ hg hr
    have ne:∀ b,b < W0.heap.size→some b ≠ row:=fun b hb e=>by have:=(hr _ e.symm).1; omega
    refine ⟨i1,i2.kept hg (ne _ (by omega)),(hg.block _ (Array.getElem?_eq_some_iff.1 i3).1 (ne _ (by omega))).trans i3,i4.kept hg (ne _ (by omega)),i5.grown hg i5.size (fun j hj=>?_)⟩
    have:=(hr _ hj).1
    omega
  case hIx =>
    intro c pre W W' row ⟨i1,⟨k,p',e1,e2,e3,i3⟩,i4,i5⟩ hg hr
    refine ⟨i1,⟨k,p',e1,e2,e3,fun j hj=>cell_kept (i3 j hj) hg (fun r e=>(hr r e).2)⟩,cell_kept i4 hg (fun r e=>(hr r e).2),i5.grown hg i5.size (fun j hj=>?_)⟩
    have:=(hr _ hj).1
    omega
  case hAx =>
    intro x a' _ W W' row ⟨Bx,i1,i2,i3⟩ hg hr
    refine ⟨Bx,i1,(hg.block _ (Array.getElem?_eq_some_iff.1 i2).1 (fun e=>?_)).trans i2,i3⟩
    obtain ⟨_,o,ho,hc⟩:=hr _ e.symm
    rw [i2] at ho
    injection ho with ho
    subst ho
    cases hc
  case assign =>
    rintro l pre x W K hi hK
    unfold rEnc rAgg
    unfold rAgg at hK
    generalize rs x 0 = s0 at *
    generalize rs x 1 = s1 at *
    generalize rs x 2 = s2 at *
    generalize rs x 3 = s3 at *
    generalize rs x 4 = s4 at *
    generalize rs x 5 = s5 at *
    generalize rs x 6 = s6 at *
    generalize rs x 7 = s7 at *
    obtain ⟨i1,i2,i3,i4,i5⟩:=hi
    have hW0:W0.heap.size ≤ W.heap.size:=by
      have:=i4.lt
      omega
    have X:=hK { tmps:=#[.string nm, .pointer (some ⟨w.heap.size,0,none⟩), .pointer (some ⟨w.heap.size + 1,0,none⟩), .pointer (some ⟨w.heap.size + 1 + 1,0,none⟩), .string s0, .pointer (some ⟨W.heap.size,0,none⟩), .func (.func 240) #[] #[], .string s0, .agg #[.string s0, .string s1, .string s2, .string s3, .string s4, .string s5, .string s6, .string s7],undef,undef,undef,undef,undef],defers:=[] }
      (W.alloc (Obj.cells #[.string s0, .string s1, .string s2, .string s3, .string s4, .string s5, .string s6, .string s7] 52)) ((KeepsOthers.alloc _ _).from _) (kpR_alloc _ _)
      ⟨i1,i2.alloc _,(Below.heap_alloc _ _ _ (Array.getElem?_eq_some_iff.1 i3).1).trans i3,i4.alloc _,i5.alloc i5.size _⟩ ⟨W.heap.size,hW0,World.alloc_heap_new _ _,rfl⟩
    clear hK i1 i2 i3 i4 i5
    gi_wp2
    exact X
  case body =>
    rintro l pre x a' W hl ⟨r,hr⟩ ⟨i1,i2,i3,i4,i5⟩ ⟨Bx,hBx,hcx,rfl⟩ hlt
    have ho:∀ j,j < 8→∀ o0:Value,(#[Value.string (rs x 0), .string (rs x 1), .string (rs x 2), .string (rs x 3), .string (rs x 4), .string (rs x 5), .string (rs x 6), .string (rs x 7)]:Array Value)[j]? = some o0→W.cell? ⟨Bx,j,none⟩ = some o0:=by
      intro j _ o0 h
      simp only [World.cell?,hcx]
      exact h
    have c0:=ho 0 (by omega) _ rfl
    have c1:=ho 1 (by omega) _ rfl
    have c2:=ho 2 (by omega) _ rfl
    have c3:=ho 3 (by omega) _ rfl
    have c4:=ho 4 (by omega) _ rfl
    have c5:=ho 5 (by omega) _ rfl
    have c6:=ho 6 (by omega) _ rfl
    have c7:=ho 7 (by omega) _ rfl
    have d1:=i2.cell
    by_cases hx:rs x 0 = nm
    · have hB2:∀ j,j < 8→W.cell? ⟨w.heap.size + 1,j,none⟩ = some (.string ⟨#[]⟩):=by
        intro j hj
        simp only [World.cell?,i3]
        have:j = 0∨j = 1∨j = 2∨j = 3∨j = 4∨j = 5∨j = 6∨j = 7:=by omega
        rcases this with rfl | rfl | rfl | rfl | rfl | rfl | rfl | rfl <;> rfl
      have hf2:∀ j,W.frozen? ⟨w.heap.size + 1,j,none⟩ = false:=by
        intro j
        simp [World.frozen?,i3]
      have e0:=hB2 0 (by omega)
      have e1:=hB2 1 (by omega)
      have e2:=hB2 2 (by omega)
      have e3:=hB2 3 (by omega)
      have e4:=hB2 4 (by omega)
      have e5:=hB2 5 (by omega)
      have e6:=hB2 6 (by omega)
      have e7:=hB2 7 (by omega)
      have f0:=hf2 0
      have f1:=hf2 1
      have f2:=hf2 2
      have f3:=hf2 3
      have f4:=hf2 4
      have f5:=hf2 5
      have f6:=hf2 6
      have f7:=hf2 7
      have e8:=i4.cell
      have f8:=i4.frozen
      have heq:((rs x 0).toList == nm.toList) = true:=by rw [hx]; simp
      have I3:=Lib.hid i3
      have I4:=Lib.hid i4
      have I5:=Lib.hid i5
      have I1:=Lib.hid i1
      have HX:=Lib.hid hx
      clear i1 i2 i3 i4 i5 hcx ho hB2 hf2 hx
      unfold rAgg
      generalize hs0:rs x 0 = s0 at *
      generalize hs1:rs x 1 = s1 at *
      generalize hs2:rs x 2 = s2 at *
      generalize hs3:rs x 3 = s3 at *
      generalize hs4:rs x 4 = s4 at *
      generalize hs5:rs x 5 = s5 at *
      generalize hs6:rs x 6 = s6 at *
      generalize hs7:rs x 7 = s7 at *
      have HS:=Lib.hid (And.intro hs0 (And.intro hs1 (And.intro hs2 (And.intro hs3 (And.intro hs4 (And.intro hs5 (And.intro hs6 hs7)))))))
      clear hs0 hs1 hs2 hs3 hs4 hs5 hs6 hs7
      obtain ⟨W9,hW9⟩:∃ W9,(((((((((W.setCell ⟨w.heap.size + 1,0,none⟩ (.string s0)).setCell ⟨w.heap.size + 1,1,none⟩ (.string s1)).setCell ⟨w.heap.size + 1,2,none⟩ (.string s2)).setCell ⟨w.heap.size + 1,3,none⟩ (.string s3)).setCell ⟨w.heap.size + 1,4,none⟩ (.string s4)).setCell ⟨w.heap.size + 1,5,none⟩ (.string s5)).setCell ⟨w.heap.size + 1,6,none⟩ (.string s6)).setCell ⟨w.heap.size + 1,7,none⟩ (.string s7)).setCell ⟨w.heap.size + 1 + 1,0,none⟩ (.int .i64 0)) = W9:=⟨_,rfl⟩
      have hK9:KeepsOthers W W9:=by
        rw [← hW9]
        exact (((((((((KeepsOthers.setCell W _ _).trans (KeepsOthers.setCell _ _ _)).trans (KeepsOthers.setCell _ _ _)).trans (KeepsOthers.setCell _ _ _)).trans (KeepsOthers.setCell _ _ _)).trans (KeepsOthers.setCell _ _ _)).trans (KeepsOthers.setCell _ _ _)).trans (KeepsOthers.setCell _ _ _)).trans (KeepsOthers.setCell _ _ _))
      have hB9:Below w.heap.size w W9:=by
        rw [← hW9]
        exact ((((((((I5.out.setCell (p:=⟨w.heap.size + 1,0,none⟩) (by simp) _).setCell (p:=⟨w.heap.size + 1,1,none⟩) (by simp) _).setCell (p:=⟨w.heap.size + 1,2,none⟩) (by simp) _).setCell (p:=⟨w.heap.size + 1,3,none⟩) (by simp) _).setCell (p:=⟨w.heap.size + 1,4,none⟩) (by simp) _).setCell (p:=⟨w.heap.size + 1,5,none⟩) (by simp) _).setCell (p:=⟨w.heap.size + 1,6,none⟩) (by simp) _).setCell (p:=⟨w.heap.size + 1,7,none⟩) (by simp) _).setCell (p:=⟨w.heap.size + 1 + 1,0,none⟩) (by simp; omega) _
      have hc9:∀ j,j < 8→W9.cell? ⟨w.heap.size + 1,j,none⟩ = some (.string (rs x j)):=by
        obtain ⟨q0,q1,q2,q3,q4,q5,q6,q7⟩:=HS.out
        intro j hj
        rw [← hW9]
        have:j = 0∨j = 1∨j = 2∨j = 3∨j = 4∨j = 5∨j = 6∨j = 7:=by omega
        rcases this with rfl | rfl | rfl | rfl | rfl | rfl | rfl | rfl
        all_goals simp [World.cell?_setCell_same',World.cell?_setCell_other,e0,e1,e2,e3,e4,e5,e6,e7,q0,q1,q2,q3,q4,q5,q6,q7]
      have hd9:W9.cell? ⟨w.heap.size + 1 + 1,0,none⟩ = some (.int .i64 0):=by
        rw [← hW9]
        simp [World.cell?_setCell_same',World.cell?_setCell_other,e8]
      have XX:Hid (KeepsFrom W0.heap.size W W9∧(Code.ret = Code.ret∧(∃ k p',pre ++ [x] = p' ++ [k]∧(∀ j ∈ p',rs j 0 ≠ nm)∧rs k 0 = nm∧∀ j,j < 8→W9.cell? ⟨w.heap.size + 1,j,none⟩ = some (.string (rs k j)))∧W9.cell? ⟨w.heap.size + 1 + 1,0,none⟩ = some (.int .i64 0)∧Below w.heap.size w W9)) :=
        ⟨hK9.from W0.heap.size,rfl,⟨x,pre,rfl,I1.out,HS.out.1.trans HX.out,hc9⟩,hd9,hB9⟩
      have HW9:=Lib.hid hW9
      clear hW9
      clear hK9 hB9 hc9 hd9
      have HSZ:=Lib.hid hsz
      clear hsz
      gi_wp2
      rw [HW9.out]
      obtain ⟨x1,_,x3,x4,x5⟩:=XX.out
      exact ⟨x1,rfl,x3,x4,x5⟩
    · have X:KeepsFrom W0.heap.size W W∧KpR W W∧((∀ j ∈ pre ++ [x],rs j 0 ≠ nm)∧Boxed W w.heap.size 9 (.string nm)∧W.heap[w.heap.size + 1]? = some (Obj.cells #[.string ⟨#[]⟩, .string ⟨#[]⟩, .string ⟨#[]⟩, .string ⟨#[]⟩, .string ⟨#[]⟩, .string ⟨#[]⟩, .string ⟨#[]⟩, .string ⟨#[]⟩] 52 (0,0))∧Boxed W (w.heap.size + 1 + 1) 61 (.int .i64 0)∧Below w.heap.size w W):=by
        refine ⟨KeepsFrom.refl _ _,fun _ _ _ h=>h,fun j hj=>?_,i2,i3,i4,i5⟩
        rcases List.mem_append.1 hj with h | h
        · exact i1 j h
        · rw [List.mem_singleton.1 h]; exact hx
      have XX:=Lib.hid X
      have hne:((rs x 0).toList == nm.toList) = false:=by
        rw [toList_dec]
        exact decide_eq_false fun h=>hx (bytes_ext h)
      clear i1 i2 i3 i4 i5 X hcx ho c0 c1 c2 c3 c4 c5 c6 c7
      generalize rs x 0 = s0 at *
      generalize rAgg x = ag at *
      gi_wp2
      exact XX.out
  case done =>
    rintro D xs W hD rfl ⟨i1,_⟩ hK
    exact absurd hit (i1 kk (List.mem_range.2 hkk))
  case stop =>
    rintro D c pre W hD hSp ⟨rfl,⟨k,p',rfl,hp,hk,hc⟩,hd,hB⟩ hK
    have hkk2:k = kk:=by
      have hpre:p' ++ [k] = List.range (p'.length + 1):=by
        have hSp':p' ++ [k] <+: List.range 40:=hSp
        have h1:=List.prefix_iff_eq_take.1 hSp'
        rw [h1,List.take_range,List.length_append,List.length_singleton]
        congr 1
        have:=hSp'.length_le
        simp at this
        omega
      rw [List.range_succ] at hpre
      have h2:=List.append_inj' hpre (by simp)
      obtain ⟨h3,h4⟩:=h2
      have hk2:k = p'.length:=by simpa using h4
      rcases Nat.lt_trichotomy k kk with h | h | h
      · exact absurd hk (hfirst k h)
      · exact h
      · refine absurd hit (hp kk ?_)
        rw [h3,List.mem_range]
        omega
    subst hkk2
    have hc':∀ j,j < 8→(W.putObj D (.deferred none)).cell? ⟨w.heap.size + 1,j,none⟩ = some (.string (rs k j)):=fun j hj=>cell_kept (hc j hj) (grownBy_putObj' _ D (.deferred none)) (fun r e=>by cases e; exact ⟨_,hK,rfl⟩)
    have hd':=cell_kept hd (grownBy_putObj' _ D (.deferred none)) (fun r e=>by cases e; exact ⟨_,hK,rfl⟩)
    have hB':Below w.heap.size w (W.putObj D (.deferred none)):=hB.grown (grownBy_putObj' _ D (.deferred none)) hB.size (fun j hj=>by cases hj; omega)
    have c0:=hc' 0 (by omega)
    have c1:=hc' 1 (by omega)
    have c2:=hc' 2 (by omega)
    have c3:=hc' 3 (by omega)
    have c4:=hc' 4 (by omega)
    have c5:=hc' 5 (by omega)
    have c6:=hc' 6 (by omega)
    have c7:=hc' 7 (by omega)
    clear hc' hc hd hp hSp hB
    gi_wp2
    refine ⟨by simp, .inl ⟨_,_,rfl,run_takeDeferred hK,?_⟩⟩
    refine ⟨.tuple #[rAgg k, .int .i64 0],?_,rfl,hB'⟩
    unfold rAgg
    simp [results,Tryz.f161,go_sem,hd',c0,c1,c2,c3,c4,c5,c6,c7]
end Go.Sym
end
section
namespace Go.Sym
open Go Go.Proofs
theorem al0 {B:Base} (hE:CallOK B Tryz.prog (entsA entsL)) (hN:CallOK B Tryz.prog namesA):ToldOK B Tryz.prog told0:=by
  refine told_of (callE_ok noTb_ok (orc:=orcs [entsA entsL,namesA]) (orcs_ok ?_)) (by kernel_rfl)
  intro a h
  simp only [List.mem_cons,List.not_mem_nil,or_false] at h
  rcases h with rfl | rfl
  · exact hE
  · exact hN
end Go.Sym
end
section
namespace Go.Sym
open Go Go.Proofs
theorem al1 {B:Base} (hE:CallOK B Tryz.prog (entsA entsL)) (hN:CallOK B Tryz.prog namesA) (h0:ToldOK B Tryz.prog told0):ToldOK B Tryz.prog told1:=by
  refine told_of (callE_ok noTb_ok (orc:=orcs [entsA entsL,namesA,toldA told0]) (orcs_ok ?_)) (by kernel_rfl)
  intro a h
  simp only [List.mem_cons,List.not_mem_nil,or_false] at h
  rcases h with rfl | rfl | rfl
  · exact hE
  · exact hN
  · exact told_ok h0
end Go.Sym
end
section
namespace Go.Sym
open Go Go.Proofs
theorem al2 {B:Base} (hE:CallOK B Tryz.prog (entsA entsL)) (hN:CallOK B Tryz.prog namesA) (h0:ToldOK B Tryz.prog told0) (h1:ToldOK B Tryz.prog told1):ToldOK B Tryz.prog told2:=by
  refine told_of (callE_ok noTb_ok (orc:=orcs [entsA entsL,namesA,toldA told0,toldA told1]) (orcs_ok ?_)) (by kernel_rfl)
  intro a h
  simp only [List.mem_cons,List.not_mem_nil,or_false] at h
  rcases h with rfl | rfl | rfl | rfl
  · exact hE
  · exact hN
  · exact told_ok h0
  · exact told_ok h1
end Go.Sym
end
section
namespace Go.Sym
open Go Go.Proofs
theorem al3 {B:Base} (hE:CallOK B Tryz.prog (entsA entsL)) (hN:CallOK B Tryz.prog namesA) (h0:ToldOK B Tryz.prog told0) (h1:ToldOK B Tryz.prog told1) (h2:ToldOK B Tryz.prog told2):ToldOK B Tryz.prog told3:=by
  refine told_of (callE_ok noTb_ok (orc:=orcs [entsA entsL,namesA,toldA told0,toldA told1,toldA told2]) (orcs_ok ?_)) (by kernel_rfl)
  intro a h
  simp only [List.mem_cons,List.not_mem_nil,or_false] at h
  rcases h with rfl | rfl | rfl | rfl | rfl
  · exact hE
  · exact hN
  · exact told_ok h0
  · exact told_ok h1
  · exact told_ok h2
end Go.Sym
end
section
namespace Go.Sym
open Go Go.Proofs
theorem al4 {B:Base} (hE:CallOK B Tryz.prog (entsA entsL)) (hN:CallOK B Tryz.prog namesA) (h0:ToldOK B Tryz.prog told0) (h1:ToldOK B Tryz.prog told1) (h2:ToldOK B Tryz.prog told2) (h3:ToldOK B Tryz.prog told3):ToldOK B Tryz.prog told4:=by
  refine told_of (callE_ok noTb_ok (orc:=orcs [entsA entsL,namesA,toldA told0,toldA told1,toldA told2,toldA told3]) (orcs_ok ?_)) (by kernel_rfl)
  intro a h
  simp only [List.mem_cons,List.not_mem_nil,or_false] at h
  rcases h with rfl | rfl | rfl | rfl | rfl | rfl
  · exact hE
  · exact hN
  · exact told_ok h0
  · exact told_ok h1
  · exact told_ok h2
  · exact told_ok h3
end Go.Sym
end
section
namespace Go.Sym
open Go Go.Proofs
theorem al5 {B:Base} (hE:CallOK B Tryz.prog (entsA entsL)) (hN:CallOK B Tryz.prog namesA) (h0:ToldOK B Tryz.prog told0) (h1:ToldOK B Tryz.prog told1) (h2:ToldOK B Tryz.prog told2) (h3:ToldOK B Tryz.prog told3) (h4:ToldOK B Tryz.prog told4):ToldOK B Tryz.prog told5:=by
  refine told_of (callE_ok noTb_ok (orc:=orcs [entsA entsL,namesA,toldA told0,toldA told1,toldA told2,toldA told3,toldA told4]) (orcs_ok ?_)) (by kernel_rfl)
  intro a h
  simp only [List.mem_cons,List.not_mem_nil,or_false] at h
  rcases h with rfl | rfl | rfl | rfl | rfl | rfl | rfl
  · exact hE
  · exact hN
  · exact told_ok h0
  · exact told_ok h1
  · exact told_ok h2
  · exact told_ok h3
  · exact told_ok h4
end Go.Sym
end
section
namespace Go.Sym
open Go Go.Proofs
theorem al6 {B:Base} (hE:CallOK B Tryz.prog (entsA entsL)) (hN:CallOK B Tryz.prog namesA) (h0:ToldOK B Tryz.prog told0) (h1:ToldOK B Tryz.prog told1) (h2:ToldOK B Tryz.prog told2) (h3:ToldOK B Tryz.prog told3) (h4:ToldOK B Tryz.prog told4) (h5:ToldOK B Tryz.prog told5):ToldOK B Tryz.prog told6:=by
  refine told_of (callE_ok noTb_ok (orc:=orcs [entsA entsL,namesA,toldA told0,toldA told1,toldA told2,toldA told3,toldA told4,toldA told5]) (orcs_ok ?_)) (by kernel_rfl)
  intro a h
  simp only [List.mem_cons,List.not_mem_nil,or_false] at h
  rcases h with rfl | rfl | rfl | rfl | rfl | rfl | rfl | rfl
  · exact hE
  · exact hN
  · exact told_ok h0
  · exact told_ok h1
  · exact told_ok h2
  · exact told_ok h3
  · exact told_ok h4
  · exact told_ok h5
end Go.Sym
end
section
namespace Go.Sym
open Go Go.Proofs
theorem al7 {B:Base} (hE:CallOK B Tryz.prog (entsA entsL)) (hN:CallOK B Tryz.prog namesA) (h0:ToldOK B Tryz.prog told0) (h1:ToldOK B Tryz.prog told1) (h2:ToldOK B Tryz.prog told2) (h3:ToldOK B Tryz.prog told3) (h4:ToldOK B Tryz.prog told4) (h5:ToldOK B Tryz.prog told5) (h6:ToldOK B Tryz.prog told6):ToldOK B Tryz.prog told7:=by
  refine told_of (callE_ok noTb_ok (orc:=orcs [entsA entsL,namesA,toldA told0,toldA told1,toldA told2,toldA told3,toldA told4,toldA told5,toldA told6]) (orcs_ok ?_)) (by kernel_rfl)
  intro a h
  simp only [List.mem_cons,List.not_mem_nil,or_false] at h
  rcases h with rfl | rfl | rfl | rfl | rfl | rfl | rfl | rfl | rfl
  · exact hE
  · exact hN
  · exact told_ok h0
  · exact told_ok h1
  · exact told_ok h2
  · exact told_ok h3
  · exact told_ok h4
  · exact told_ok h5
  · exact told_ok h6
end Go.Sym
end
section
namespace Go.Sym
open Go Go.Proofs
theorem al8 {B:Base} (hE:CallOK B Tryz.prog (entsA entsL)) (hN:CallOK B Tryz.prog namesA) (h0:ToldOK B Tryz.prog told0) (h1:ToldOK B Tryz.prog told1) (h2:ToldOK B Tryz.prog told2) (h3:ToldOK B Tryz.prog told3) (h4:ToldOK B Tryz.prog told4) (h5:ToldOK B Tryz.prog told5) (h6:ToldOK B Tryz.prog told6) (h7:ToldOK B Tryz.prog told7):ToldOK B Tryz.prog told8:=by
  refine told_of (callE_ok noTb_ok (orc:=orcs [entsA entsL,namesA,toldA told0,toldA told1,toldA told2,toldA told3,toldA told4,toldA told5,toldA told6,toldA told7]) (orcs_ok ?_)) (by kernel_rfl)
  intro a h
  simp only [List.mem_cons,List.not_mem_nil,or_false] at h
  rcases h with rfl | rfl | rfl | rfl | rfl | rfl | rfl | rfl | rfl | rfl
  · exact hE
  · exact hN
  · exact told_ok h0
  · exact told_ok h1
  · exact told_ok h2
  · exact told_ok h3
  · exact told_ok h4
  · exact told_ok h5
  · exact told_ok h6
  · exact told_ok h7
end Go.Sym
end
section
namespace Go.Sym
open Go Go.Proofs
theorem al9 {B:Base} (hE:CallOK B Tryz.prog (entsA entsL)) (hN:CallOK B Tryz.prog namesA) (h0:ToldOK B Tryz.prog told0) (h1:ToldOK B Tryz.prog told1) (h2:ToldOK B Tryz.prog told2) (h3:ToldOK B Tryz.prog told3) (h4:ToldOK B Tryz.prog told4) (h5:ToldOK B Tryz.prog told5) (h6:ToldOK B Tryz.prog told6) (h7:ToldOK B Tryz.prog told7) (h8:ToldOK B Tryz.prog told8):ToldOK B Tryz.prog told9:=by
  refine told_of (callE_ok noTb_ok (orc:=orcs [entsA entsL,namesA,toldA told0,toldA told1,toldA told2,toldA told3,toldA told4,toldA told5,toldA told6,toldA told7,toldA told8]) (orcs_ok ?_)) (by kernel_rfl)
  intro a h
  simp only [List.mem_cons,List.not_mem_nil,or_false] at h
  rcases h with rfl | rfl | rfl | rfl | rfl | rfl | rfl | rfl | rfl | rfl | rfl
  · exact hE
  · exact hN
  · exact told_ok h0
  · exact told_ok h1
  · exact told_ok h2
  · exact told_ok h3
  · exact told_ok h4
  · exact told_ok h5
  · exact told_ok h6
  · exact told_ok h7
  · exact told_ok h8
end Go.Sym
end
section
namespace Go.Sym
open Go Go.Proofs
theorem al10 {B:Base} (hE:CallOK B Tryz.prog (entsA entsL)) (hN:CallOK B Tryz.prog namesA) (h0:ToldOK B Tryz.prog told0) (h1:ToldOK B Tryz.prog told1) (h2:ToldOK B Tryz.prog told2) (h3:ToldOK B Tryz.prog told3) (h4:ToldOK B Tryz.prog told4) (h5:ToldOK B Tryz.prog told5) (h6:ToldOK B Tryz.prog told6) (h7:ToldOK B Tryz.prog told7) (h8:ToldOK B Tryz.prog told8) (h9:ToldOK B Tryz.prog told9):ToldOK B Tryz.prog told10:=by
  refine told_of (callE_ok noTb_ok (orc:=orcs [entsA entsL,namesA,toldA told0,toldA told1,toldA told2,toldA told3,toldA told4,toldA told5,toldA told6,toldA told7,toldA told8,toldA told9]) (orcs_ok ?_)) (by kernel_rfl)
  intro a h
  simp only [List.mem_cons,List.not_mem_nil,or_false] at h
  rcases h with rfl | rfl | rfl | rfl | rfl | rfl | rfl | rfl | rfl | rfl | rfl | rfl
  · exact hE
  · exact hN
  · exact told_ok h0
  · exact told_ok h1
  · exact told_ok h2
  · exact told_ok h3
  · exact told_ok h4
  · exact told_ok h5
  · exact told_ok h6
  · exact told_ok h7
  · exact told_ok h8
  · exact told_ok h9
end Go.Sym
end
section
namespace Go.Sym
open Go Go.Proofs
theorem al11 {B:Base} (hE:CallOK B Tryz.prog (entsA entsL)) (hN:CallOK B Tryz.prog namesA) (h0:ToldOK B Tryz.prog told0) (h1:ToldOK B Tryz.prog told1) (h2:ToldOK B Tryz.prog told2) (h3:ToldOK B Tryz.prog told3) (h4:ToldOK B Tryz.prog told4) (h5:ToldOK B Tryz.prog told5) (h6:ToldOK B Tryz.prog told6) (h7:ToldOK B Tryz.prog told7) (h8:ToldOK B Tryz.prog told8) (h9:ToldOK B Tryz.prog told9) (h10:ToldOK B Tryz.prog told10):ToldOK B Tryz.prog told11:=by
  refine told_of (callE_ok noTb_ok (orc:=orcs [entsA entsL,namesA,toldA told0,toldA told1,toldA told2,toldA told3,toldA told4,toldA told5,toldA told6,toldA told7,toldA told8,toldA told9,toldA told10]) (orcs_ok ?_)) (by kernel_rfl)
  intro a h
  simp only [List.mem_cons,List.not_mem_nil,or_false] at h
  rcases h with rfl | rfl | rfl | rfl | rfl | rfl | rfl | rfl | rfl | rfl | rfl | rfl | rfl
  · exact hE
  · exact hN
  · exact told_ok h0
  · exact told_ok h1
  · exact told_ok h2
  · exact told_ok h3
  · exact told_ok h4
  · exact told_ok h5
  · exact told_ok h6
  · exact told_ok h7
  · exact told_ok h8
  · exact told_ok h9
  · exact told_ok h10
end Go.Sym
end
section
namespace Go.Sym
open Go Go.Proofs
theorem al12 {B:Base} (hE:CallOK B Tryz.prog (entsA entsL)) (hN:CallOK B Tryz.prog namesA) (h0:ToldOK B Tryz.prog told0) (h1:ToldOK B Tryz.prog told1) (h2:ToldOK B Tryz.prog told2) (h3:ToldOK B Tryz.prog told3) (h4:ToldOK B Tryz.prog told4) (h5:ToldOK B Tryz.prog told5) (h6:ToldOK B Tryz.prog told6) (h7:ToldOK B Tryz.prog told7) (h8:ToldOK B Tryz.prog told8) (h9:ToldOK B Tryz.prog told9) (h10:ToldOK B Tryz.prog told10) (h11:ToldOK B Tryz.prog told11):ToldOK B Tryz.prog told12:=by
  refine told_of (callE_ok noTb_ok (orc:=orcs [entsA entsL,namesA,toldA told0,toldA told1,toldA told2,toldA told3,toldA told4,toldA told5,toldA told6,toldA told7,toldA told8,toldA told9,toldA told10,toldA told11]) (orcs_ok ?_)) (by kernel_rfl)
  intro a h
  simp only [List.mem_cons,List.not_mem_nil,or_false] at h
  rcases h with rfl | rfl | rfl | rfl | rfl | rfl | rfl | rfl | rfl | rfl | rfl | rfl | rfl | rfl
  · exact hE
  · exact hN
  · exact told_ok h0
  · exact told_ok h1
  · exact told_ok h2
  · exact told_ok h3
  · exact told_ok h4
  · exact told_ok h5
  · exact told_ok h6
  · exact told_ok h7
  · exact told_ok h8
  · exact told_ok h9
  · exact told_ok h10
  · exact told_ok h11
end Go.Sym
end
section
namespace Go.Sym
open Go Go.Proofs Go.RowKit
theorem record_any (nm:ByteArray) (kk:Nat) (hkk:kk < 40) (hit:rs kk 0 = nm) (hfirst:∀ j,j < kk→rs j 0 ≠ nm) (w:World) :
    Calls Tryz.prog 161 #[.string nm] w fun e W'=>e = .returned (.tuple #[rAgg kk, .int .i64 0])∧Below w.heap.size w W' :=
  (callsIn_wide (n:=3)).1 (record_in 3 (Nat.le_refl _) nm kk hkk hit hfirst w)
def firstB (nm:ByteArray) (kk:Nat):Bool:=(List.range kk).all fun j=>!decide ((rs j 0).data.toList = nm.data.toList)
theorem first_of {nm:ByteArray} {kk:Nat} (h:firstB nm kk = true):∀ j,j < kk→rs j 0 ≠ nm:=by
  intro j hj e
  have:=List.all_eq_true.1 h j (List.mem_range.2 hj)
  rw [e] at this
  simp at this
theorem us_ok {B:Base}:EntOK B Tryz.prog us:=⟨.tuple #[rAgg 12, .int .i64 0],fun ρ=>by kernel_rfl,fun w _=>record_any _ 12 (by omega) (by kernel_rfl) (first_of (by kernel_rfl)) w⟩
theorem de_ok {B:Base}:EntOK B Tryz.prog de:=⟨.tuple #[rAgg 7, .int .i64 0],fun ρ=>by kernel_rfl,fun w _=>record_any _ 7 (by omega) (by kernel_rfl) (first_of (by kernel_rfl)) w⟩
theorem alive_told {B:Base} (hG:Ground B) (hA:∀ n,B.A n = Option.none):ToldOK B Tryz.prog told12:=by
  have hE:CallOK B Tryz.prog (entsA entsL):=ents_ok (entsL_but hG hA us_ok de_ok)
  have hN:CallOK B Tryz.prog namesA:=namesA_ok
  have h0:=al0 hE hN
  have h1:=al1 hE hN h0
  have h2:=al2 hE hN h0 h1
  have h3:=al3 hE hN h0 h1 h2
  have h4:=al4 hE hN h0 h1 h2 h3
  have h5:=al5 hE hN h0 h1 h2 h3 h4
  have h6:=al6 hE hN h0 h1 h2 h3 h4 h5
  have h7:=al7 hE hN h0 h1 h2 h3 h4 h5 h6
  have h8:=al8 hE hN h0 h1 h2 h3 h4 h5 h6 h7
  have h9:=al9 hE hN h0 h1 h2 h3 h4 h5 h6 h7 h8
  have h10:=al10 hE hN h0 h1 h2 h3 h4 h5 h6 h7 h8 h9
  have h11:=al11 hE hN h0 h1 h2 h3 h4 h5 h6 h7 h8 h9 h10
  have h12:=al12 hE hN h0 h1 h2 h3 h4 h5 h6 h7 h8 h9 h10 h11
  exact h12
theorem alive_any (w:World) (hT:Lib.Utf8Tabs 2 3 w) (hM:∃ m,w.cell? ⟨1,0,none⟩ = some (.int .i64 m)):Calls Tryz.prog 19 #[] w fun e w'=>e = .returned (.bool true)∧Below w.heap.size w w':=by
  have hlt:=World.block_lt_of_cell? w _ (hT.2 0 (by omega)).1
  have hG:Ground ⟨w.heap.size,w,fun _=>none⟩:=⟨hlt,hT,hM⟩
  have hT12:=alive_told hG (fun _=>rfl)
  refine (hT12 Env.none w #[] (mrel_nothing w) (ctx_nothing (B:=⟨w.heap.size,w,fun _=>none⟩) (fun _=>rfl) ⟨Nat.le_refl _,fun _ _=>rfl⟩) rfl).mono ?_
  rintro e w' ⟨ρ',x,rfl,hx,S⟩
  have hr:told12.r = .lit (.bool true):=rfl
  rw [hr] at hx
  simp only [gam] at hx
  injection hx with hx
  subst hx
  refine ⟨rfl,S.os,S.tape,S.output,S.size,fun k hk=>S.keep k hk ?_⟩
  rintro ⟨b,kk,q,hb,_⟩
  rw [show (ofL told12.nb told12.nc told12.L).H.get b = none from rfl] at hb
  cases hb
end Go.Sym
end
section
namespace Go.Proofs.YteiomfgehlojeaaGreatDoor.topSteps
open Go.ChangeShapes Go.WideShapes Go.ChangeAt Go.RowKit
abbrev plainL:List (String × DataW Unit):=Rows.topStepsRow.laid.filter fun x=>x.2.handleName?.isNone
noncomputable def handledWorld (os:Os):World :=
  let w0:=World.holding Tryz.prog os ⟨#[],#[],[]⟩
  { w0 with heap:=w0.heap.modify 0 fun
      | .cells _ t frozen => .cells #[.iface 304 (.agg #[.pointer (some ⟨9,49,none⟩)])] t frozen
      | o=>o }
noncomputable def laidWorld (os:Os):World:=(handledWorld os).layVars Tryz.prog plainL
theorem laidWorld_os (os:Os):(laidWorld os).os = os:=World.layVars_os _ _ _
def args0:Array Value:=#[.agg #[.int .i64 0, .int .i64 0, .int .i64 0, .int .i64 0, .int .i64 0, .int .i64 0], .int .i64 0,
  .agg #[.bool false, .slice none 0 0, .int .i64 0, .bool false, .slice none 0 0, .int .i64 0, .slice none 0 0, .bool false, .int .i64 0, .int .i64 0, .int .i64 0, .int .i64 0, .int .i64 0, .int .i64 0, .int .i64 0], .int .i64 0,
  .agg #[.bool false, .slice none 0 0, .bool false, .slice none 0 0]]
noncomputable abbrev calledWorld (os:Os):World:=(laidWorld os).forCall (fun _ _=>0) ⟨#[],args0,[]⟩
end Go.Proofs.YteiomfgehlojeaaGreatDoor.topSteps
end
section
namespace Go.Proofs.YteiomfgehlojeaaGreatDoor.topSteps
open Go.ChangeShapes Go.WideShapes Go.ChangeAt Go.RowKit
theorem wi_wide (os:Os):Input.okWideB Tryz.prog (calledWorld os) 3 ⟨#[],args0,[]⟩ = true:=by kernel_rfl
end Go.Proofs.YteiomfgehlojeaaGreatDoor.topSteps
end
section
namespace Go.Proofs.YteiomfgehlojeaaGreatDoor.topSteps
open Go.ChangeShapes Go.WideShapes Go.ChangeAt Go.RowKit
theorem wi_pre (os:Os) {H:Type} (enc:TypeId × Value→H):Rows.topStepsSpec.preB enc Tryz.prog Tryz.f3 Rows.topStepsRow.domain false (calledWorld os).memory args0 8 = true:=by kernel_rfl
end Go.Proofs.YteiomfgehlojeaaGreatDoor.topSteps
end
section
namespace Go.Proofs.YteiomfgehlojeaaGreatDoor.topSteps
open Go.ChangeShapes Go.WideShapes Go.ChangeAt Go.RowKit
theorem wi_sized (os:Os) {H:Type} (enc:TypeId × Value→H):Rows.topStepsSpec.sizedB enc Tryz.prog Tryz.f3 false (calledWorld os).memory args0 8 = true:=by kernel_rfl
end Go.Proofs.YteiomfgehlojeaaGreatDoor.topSteps
end
section
namespace Go.Proofs.YteiomfgehlojeaaGreatDoor.topSteps
open Go
theorem jo_4:(namedTie Tryz.prog Rows.topStepsRow.named Rows.topStepsSpec.vars) = true:=by kernel_rfl
theorem jo_5:((Rows.topStepsRow.stops == [])) = true:=by kernel_rfl
theorem jo_6:((Tryz.prog.stops == [])) = true:=by kernel_rfl
theorem jo_7:((Rows.topStepsRow.knobs == [])) = true:=by kernel_rfl
theorem jo_8:((Tryz.prog.stopKnobs == [])) = true:=by kernel_rfl
end Go.Proofs.YteiomfgehlojeaaGreatDoor.topSteps
end
section
namespace Go.Proofs.YteiomfgehlojeaaGreatDoor.topSteps
open Go
theorem jo_13:((Rows.topStepsRow.maps == (Tryz.f3.params.toList ++ Rows.topStepsSpec.plain.varTypes Tryz.prog).any (Tryz.prog.mapsRec ·))) = true:=by kernel_rfl
theorem jo_14:((Rows.topStepsRow.ifaces == (Tryz.f3.params.toList ++ Rows.topStepsSpec.plain.varTypes Tryz.prog).any (Tryz.prog.ifacesRec ·))) = true:=by kernel_rfl
theorem jo_15:((Rows.topStepsRow.mapsOut == Tryz.prog.mapsAmong Tryz.f3.resultTypes.toList)) = true:=by kernel_rfl
theorem jo_16:((Rows.topStepsRow.loops == (Tryz.f3.params.toList ++ Rows.topStepsSpec.plain.varTypes Tryz.prog).any (Tryz.prog.loopsFrom ·))) = true:=by kernel_rfl
theorem jo_17:((Rows.topStepsRow.wideKeys == (Tryz.f3.params.toList ++ Rows.topStepsSpec.plain.varTypes Tryz.prog ++ Tryz.f3.resultTypes.toList).any (Tryz.prog.wideKeysFrom ·))) = true:=by kernel_rfl
theorem jo_18:(Rows.topStepsSpec.vars.all (Tryz.prog.varReadable ·)) = true:=by kernel_rfl
end Go.Proofs.YteiomfgehlojeaaGreatDoor.topSteps
end
section
namespace Go.Proofs.YteiomfgehlojeaaGreatDoor.topSteps
open Go
theorem jo_26:((Rows.topStepsRow.lifted == Tryz.prog.liftsFinal)) = true:=by kernel_rfl
theorem jo_27:((Tryz.prog.make == some Rows.topStepsRow.make)) = true:=by kernel_rfl
end Go.Proofs.YteiomfgehlojeaaGreatDoor.topSteps
end
section
namespace Go.Proofs.YteiomfgehlojeaaGreatDoor.topSteps
open Go
theorem jo_28:((Rows.topStepsRow.kinds == (if Rows.topStepsRow.domain.isEmpty then [] else Tryz.f3.params.toList.map fun t=>match Tryz.prog.underlying t with | some (.int k)=>some k | _=>none))) = true:=by kernel_rfl
theorem jo_29:((Rows.topStepsRow.pinned == Rows.topStepsRow.pinnedBy)) = true:=by kernel_rfl
theorem jo_30:((Rows.topStepsRow.veiled == (Tryz.f3.params.toList ++ Rows.topStepsSpec.plain.varTypes Tryz.prog ++ Tryz.f3.resultTypes.toList).any (Tryz.prog.veiledRec ·))) = true:=by kernel_rfl
theorem jo_31:(Rows.topStepsRow.veiledFits Tryz.prog Tryz.f3.params.toList (Tryz.f3.params.toList ++ Rows.topStepsSpec.plain.varTypes Tryz.prog ++ Tryz.f3.resultTypes.toList)) = true:=by kernel_rfl
end Go.Proofs.YteiomfgehlojeaaGreatDoor.topSteps
end
section
namespace Go.Proofs.YteiomfgehlojeaaGreatDoor.topSteps
open Go
theorem cf_wf:Rows.topStepsRow.wfByText (OpenSpec.ofChange Rows.topStepsSpec) = true:=by kernel_rfl
theorem cf_main:Tryz.pinned.checked.prog.mainIs = some ((true, "603c32705264a105c30a24b6ad906616d55472cf9c9c59a6bd7efa99276324b1").1,(true, "603c32705264a105c30a24b6ad906616d55472cf9c9c59a6bd7efa99276324b1").2.toList):=by kernel_rfl
theorem cf_in:([23,3,30,3,32].all fun u=>!Tryz.prog.wantsStandIn u) = true:=by kernel_rfl
theorem cf_name:Tryz.prog.funcNamed "abacist/abacisttop.TopSteps" = some 3:=by kernel_rfl
end Go.Proofs.YteiomfgehlojeaaGreatDoor.topSteps
end
section
namespace Go.Proofs.YteiomfgehlojeaaGreatDoor.topSteps
open Go
theorem cf_looks:true = Tryz.pinned.checked.prog.looks []:=by kernel_rfl
end Go.Proofs.YteiomfgehlojeaaGreatDoor.topSteps
end
section
namespace Go.Proofs.YteiomfgehlojeaaGreatDoor.topSteps
open Go
theorem go_0:((List.range 100).all fun i=>!((Tryz.prog.funcs[0 + i]?).any Func.goes)) = true:=by kernel_rfl
end Go.Proofs.YteiomfgehlojeaaGreatDoor.topSteps
end
section
namespace Go.Proofs.YteiomfgehlojeaaGreatDoor.topSteps
open Go
theorem go_1:((List.range 100).all fun i=>!((Tryz.prog.funcs[100 + i]?).any Func.goes)) = true:=by kernel_rfl
end Go.Proofs.YteiomfgehlojeaaGreatDoor.topSteps
end
section
namespace Go.Proofs.YteiomfgehlojeaaGreatDoor.topSteps
open Go
theorem go_2:((List.range 100).all fun i=>!((Tryz.prog.funcs[200 + i]?).any Func.goes)) = true:=by kernel_rfl
end Go.Proofs.YteiomfgehlojeaaGreatDoor.topSteps
end
section
namespace Go.Proofs.YteiomfgehlojeaaGreatDoor.topSteps
open Go
theorem go_3:((List.range 100).all fun i=>!((Tryz.prog.funcs[300 + i]?).any Func.goes)) = true:=by kernel_rfl
end Go.Proofs.YteiomfgehlojeaaGreatDoor.topSteps
end
section
namespace Go.Proofs.YteiomfgehlojeaaGreatDoor.topSteps
open Go
theorem go_4:((List.range 100).all fun i=>!((Tryz.prog.funcs[400 + i]?).any Func.goes)) = true:=by kernel_rfl
end Go.Proofs.YteiomfgehlojeaaGreatDoor.topSteps
end
section
namespace Go.Proofs.YteiomfgehlojeaaGreatDoor.topSteps
open Go
theorem go_5:((List.range 100).all fun i=>!((Tryz.prog.funcs[500 + i]?).any Func.goes)) = true:=by kernel_rfl
end Go.Proofs.YteiomfgehlojeaaGreatDoor.topSteps
end
section
namespace Go.Proofs.YteiomfgehlojeaaGreatDoor.topSteps
open Go
theorem go_6:((List.range 100).all fun i=>!((Tryz.prog.funcs[600 + i]?).any Func.goes)) = true:=by kernel_rfl
end Go.Proofs.YteiomfgehlojeaaGreatDoor.topSteps
end
section
namespace Go.Proofs.YteiomfgehlojeaaGreatDoor.topSteps
open Go
theorem go_7:((List.range 100).all fun i=>!((Tryz.prog.funcs[700 + i]?).any Func.goes)) = true:=by kernel_rfl
end Go.Proofs.YteiomfgehlojeaaGreatDoor.topSteps
end
section
namespace Go.Proofs.YteiomfgehlojeaaGreatDoor.topSteps
open Go
theorem go_size:decide (Tryz.prog.funcs.size ≤ 800) = true:=by kernel_rfl
theorem go_none {i:Nat} {fn:Func} (hi:Tryz.prog.funcs[i]? = some fn):fn.goes = false:=by
  have hlt:i < 800:=by
    have h1:=(Array.getElem?_eq_some_iff.1 hi).1
    have h2:=of_decide_eq_true go_size
    omega
  obtain ⟨q,j,hq,hj,e⟩:∃ q j,q < 8∧j < 100∧i = 100 * q + j:=⟨i / 100,i % 100,by omega,by omega,by omega⟩
  match q,hq with
    | 0,_=>rw [show i = 0 + j by omega] at hi; have:=List.all_eq_true.1 go_0 j (List.mem_range.2 hj); rw [hi] at this; simpa using this
    | 1,_=>rw [show i = 100 + j by omega] at hi; have:=List.all_eq_true.1 go_1 j (List.mem_range.2 hj); rw [hi] at this; simpa using this
    | 2,_=>rw [show i = 200 + j by omega] at hi; have:=List.all_eq_true.1 go_2 j (List.mem_range.2 hj); rw [hi] at this; simpa using this
    | 3,_=>rw [show i = 300 + j by omega] at hi; have:=List.all_eq_true.1 go_3 j (List.mem_range.2 hj); rw [hi] at this; simpa using this
    | 4,_=>rw [show i = 400 + j by omega] at hi; have:=List.all_eq_true.1 go_4 j (List.mem_range.2 hj); rw [hi] at this; simpa using this
    | 5,_=>rw [show i = 500 + j by omega] at hi; have:=List.all_eq_true.1 go_5 j (List.mem_range.2 hj); rw [hi] at this; simpa using this
    | 6,_=>rw [show i = 600 + j by omega] at hi; have:=List.all_eq_true.1 go_6 j (List.mem_range.2 hj); rw [hi] at this; simpa using this
    | 7,_=>rw [show i = 700 + j by omega] at hi; have:=List.all_eq_true.1 go_7 j (List.mem_range.2 hj); rw [hi] at this; simpa using this
theorem go_goes (f:FuncId):Tryz.prog.goes f = false:=by
  unfold Program.goes
  have h1:((Tryz.prog.closure f).any fun g=>(Tryz.prog.funcs[g]?).any Func.goes) = false:=by
    rw [List.any_eq_false]
    intro g _
    cases h:Tryz.prog.funcs[g]? with
    | none=>simp
    | some fn=>simp [go_none h]
  have h2:Tryz.prog.funcs.any Func.goes = false:=by
    rw [Array.any_eq_false]
    intro i hi
    rw [go_none (Array.getElem?_eq_getElem hi)]
    simp
  rw [h1,h2]
  simp
theorem cf_goes:false = Rows.topStepsRow.goesBy Tryz.pinned.checked.prog:=by
  show false = Tryz.prog.goesAt .entering Rows.topStepsRow.func
  unfold Program.goesAt Program.goesFrom
  cases Tryz.prog.funcNamed Rows.topStepsRow.func with
  | none=>rfl
  | some f=>simp [go_goes f]
end Go.Proofs.YteiomfgehlojeaaGreatDoor.topSteps
end
