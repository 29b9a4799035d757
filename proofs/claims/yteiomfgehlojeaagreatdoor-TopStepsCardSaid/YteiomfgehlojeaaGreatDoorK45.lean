/- The claim TopSteps, part 45 of 46: TopOpen, TopStepsPf, TopStepsOver, TopStepsClaim -/
import Derived.Test.YteiomfgehlojeaaGreatDoorRows
import Derived.Test.YteiomfgehlojeaaGreatDoorK44
import Derived.WalkKit
import Derived.ProofKit
import Derived.OpenShut
import Derived.ShutString
import Derived.ChangeOld
import Derived.ChangeArms
import Derived.Below
import Derived.LaidMore
import Derived.LaidLaws
import Derived.LaidHandle
import Derived.Lay
import Derived.SevenTiedAt
import Derived.Stop.Joined
import Derived.Lib.LaidU8
import Derived.Lib.LaidU8T
import Derived.PinnedBridge
import Derived.Shelf.Vars
import Derived.Test.YteiomfgehlojeaaGreatDoorK35
import Derived.Test.YteiomfgehlojeaaGreatDoorCards
import Derived.HandedShaped
import Derived.Test.YteiomfgehlojeaaGreatDoorK28
import Derived.Test.YteiomfgehlojeaaGreatDoorK08
import Derived.Test.YteiomfgehlojeaaGreatDoorK29
import Derived.Test.YteiomfgehlojeaaGreatDoorK30
import Derived.Test.YteiomfgehlojeaaGreatDoorK31
import Derived.Test.YteiomfgehlojeaaGreatDoorK32
import Derived.Test.YteiomfgehlojeaaGreatDoorK33
import Derived.Test.YteiomfgehlojeaaGreatDoorK34
set_option linter.unusedVariables false
set_option linter.unusedSimpArgs false
set_option linter.unusedSectionVars false
section
namespace Go.Proofs.YteiomfgehlojeaaGreatDoor.topSteps
open Go.ChangeShapes Go.WideShapes Go.ChangeAt Go.RowKit
set_option linter.unusedVariables false
theorem own:ownKnob Tryz.prog.godebug = none:=by kernel_rfl
theorem laidOut:laidOutB Tryz.prog = true:=by kernel_rfl
theorem bd (a:Int) (h:(Lit.int .i64 a).wf = true):Go.Proofs.YteiomfgehlojeaaGreatDoor.InI a:=by
  unfold Go.Proofs.YteiomfgehlojeaaGreatDoor.InI
  simp [Lit.wf,IntKind.min,IntKind.max,IntKind.signed,IntKind.bits] at h
  omega
theorem tabs_of {w:World} (hL:laidMetH Tryz.prog Rows.topStepsRow.laid w):Lib.Utf8Tabs 2 3 w:=by
  have hl:laidMet Tryz.prog (Rows.topStepsRow.laid.filter fun x=>x.2.handleName?.isNone) w:=by
    have e:(Rows.topStepsRow.laid.filter fun x=>x.2.handleName?.isSome) = [("errors.errorType",Rows.laid_errors_errorType)]:=by kernel_rfl
    unfold laidMetH at hL
    rw [e] at hL
    exact hL.1
  have m1:("unicode/utf8.first",Lib.firstData) ∈ (Rows.topStepsRow.laid.filter fun x=>x.2.handleName?.isNone):=by
    refine List.mem_filter.2 ⟨?_,by kernel_rfl⟩
    show ("unicode/utf8.first",Lib.firstData) ∈ ("unicode/utf8.first",Go.Pinned.utf8First) :: _
    rw [Pinned.utf8First_eq]
    exact List.mem_cons_self
  have m2:("unicode/utf8.acceptRanges",Lib.acceptData) ∈ (Rows.topStepsRow.laid.filter fun x=>x.2.handleName?.isNone):=by
    refine List.mem_filter.2 ⟨?_,by kernel_rfl⟩
    exact List.mem_cons_of_mem _ List.mem_cons_self
  exact utf8Tabs_of_readsT (U8Types.of196 Tryz.laysValid) ⟨by kernel_rfl,by kernel_rfl,by kernel_rfl,by kernel_rfl,by kernel_rfl,by kernel_rfl,by kernel_rfl⟩ (Lib.laidMet.reads hl m1) (Lib.laidMet.reads hl m2)
section
variable {H:Type} {enc:TypeId × Value→H} {W:World}
theorem open_list {fuel:Nat} {c:Value} {x:DataW H × List MemPlace} (h:DataW.trod enc Tryz.prog W 0 (fun _=>true) true fuel 24 [c] = some x):∃ l,IsInts W c l∧(∀ x ∈ l,-9223372036854775808 ≤ x∧x ≤ 9223372036854775807):=by
  rcases open_ints Tryz.underlying24 Tryz.underlying3 (by kernel_rfl) h with ⟨hcs,_⟩ | ⟨x,len,cap,zs,hcs,_,hl,hm,hz,_,hcell,hwz⟩
  · simp at hcs
    subst hcs
    exact ⟨[],IsInts.nil_ _ _ _ (by omega),by simp⟩
  · simp at hcs
    subst hcs
    simp only [if_true] at hz
    unfold maxLen at hm
    exact ⟨zs.take len,isInts_of_cells (by omega) (by omega) (by omega) hcell,fun y hy=>bd y (hwz y (List.mem_of_mem_take hy))⟩
theorem open_one {fuel:Nat} {c:Value} {x:DataW H × List MemPlace} (h:DataW.trod enc Tryz.prog W 0 (fun _=>true) true fuel 3 [c] = some x):∃ a,c = .int .i64 a∧Go.Proofs.YteiomfgehlojeaaGreatDoor.InI a:=by
  obtain ⟨n,h1,_,hw⟩:=DataW.trod_int Tryz.underlying3 h
  simp at h1
  exact ⟨n,h1,bd n hw⟩
theorem open_flag {fuel:Nat} {c:Value} {x:DataW H × List MemPlace} (h:DataW.trod enc Tryz.prog W 0 (fun _=>true) true fuel 4 [c] = some x):∃ b,c = .bool b:=by
  obtain ⟨b,h1,_⟩:=DataW.trod_bool Tryz.underlying4 h
  simp at h1
  exact ⟨b,h1⟩
theorem open_fields {t:TypeId} {fs:Array Field} {fuel:Nat} {cs:List Value} {x:DataW H × List MemPlace} (ht:Tryz.prog.underlying t = some (.struct fs)) (h:DataW.trod enc Tryz.prog W 0 (fun _=>true) true fuel t cs = some x) :
    cs.length = Tryz.prog.cellsOf t∧∃ n:Nat,∀ (i:Nat) (f:Field),fs[i]? = some f→∃ y,DataW.trod enc Tryz.prog W 0 (fun _=>true) true n f.type ((cs.drop f.offset).take (Tryz.prog.cellsOf f.type)) = some y:=by
  obtain ⟨xs,n,_,_,hl,hxl,hf⟩:=DataW.trod_struct ht h
  refine ⟨hl,n,fun i f hi=>?_⟩
  have hlt:i < xs.length:=by rw [hxl]; exact (Array.getElem?_eq_some_iff.1 hi).1
  exact ⟨xs[i],by rw [hf i f hi,List.getElem?_eq_getElem hlt]⟩
theorem cells3:Tryz.prog.cellsOf 3 = 1:=by kernel_rfl
theorem cells4:Tryz.prog.cellsOf 4 = 1:=by kernel_rfl
theorem cells24:Tryz.prog.cellsOf 24 = 1:=by kernel_rfl
theorem cells26:Tryz.prog.cellsOf 26 = 3:=by kernel_rfl
theorem cells28:Tryz.prog.cellsOf 28 = 7:=by kernel_rfl
theorem cells23:Tryz.prog.cellsOf 23 = 6:=by kernel_rfl
theorem cells30:Tryz.prog.cellsOf 30 = 15:=by kernel_rfl
theorem cells32:Tryz.prog.cellsOf 32 = 4:=by kernel_rfl
theorem open_d6 {fuel:Nat} {cs:List Value} {x:DataW H × List MemPlace} (h:DataW.trod enc Tryz.prog W 0 (fun _=>true) true fuel 26 cs = some x):∃ b v a l,cs = [.bool b,v, .int .i64 a]∧IsInts W v l∧(∀ x ∈ l,-9223372036854775808 ≤ x∧x ≤ 9223372036854775807)∧Go.Proofs.YteiomfgehlojeaaGreatDoor.InI a:=by
  obtain ⟨hl,n,hf⟩:=open_fields Tryz.underlying26 h
  rw [cells26] at hl
  obtain ⟨c0,cs_0,rfl⟩:∃ a l,cs = a :: l:=by cases cs with
    | nil=>simp at hl
    | cons a l=>exact ⟨a,l,rfl⟩
  obtain ⟨c1,cs_1,rfl⟩:∃ a l,cs_0 = a :: l:=by cases cs_0 with
    | nil=>simp at hl
    | cons a l=>exact ⟨a,l,rfl⟩
  obtain ⟨c2,cs_2,rfl⟩:∃ a l,cs_1 = a :: l:=by cases cs_1 with
    | nil=>simp at hl
    | cons a l=>exact ⟨a,l,rfl⟩
  obtain rfl:cs_2 = []:=by cases cs_2 with
    | nil=>rfl
    | cons a l=>simp at hl
  obtain ⟨y0,h0⟩:=hf 0 { name := "Neg",type:=4,offset:=0,embedded:=false,tag := "",pkgPath := "",byteOffset:=0 } rfl
  obtain ⟨y1,h1⟩:=hf 1 { name := "L",type:=24,offset:=1,embedded:=false,tag := "",pkgPath := "",byteOffset:=8 } rfl
  obtain ⟨y2,h2⟩:=hf 2 { name := "Scale",type:=3,offset:=2,embedded:=false,tag := "",pkgPath := "",byteOffset:=32 } rfl
  simp only [cells3,cells4,cells24,List.drop_zero,List.drop_succ_cons,List.take_succ_cons,List.take_zero] at h0 h1 h2
  obtain ⟨b,rfl⟩:=open_flag h0
  obtain ⟨l,i1,i2⟩:=open_list h1
  obtain ⟨a,rfl,ha⟩:=open_one h2
  exact ⟨b,c1,a,l,rfl,i1,i2,ha⟩
theorem open_g {fuel:Nat} {cs:List Value} {x:DataW H × List MemPlace} (h:DataW.trod enc Tryz.prog W 0 (fun _=>true) true fuel 23 cs = some x):∃ a0 a1 a2 a3 a4 a5,cs = [.int .i64 a0, .int .i64 a1, .int .i64 a2, .int .i64 a3, .int .i64 a4, .int .i64 a5]∧Go.Proofs.YteiomfgehlojeaaGreatDoor.InI a0∧Go.Proofs.YteiomfgehlojeaaGreatDoor.InI a1∧Go.Proofs.YteiomfgehlojeaaGreatDoor.InI a2∧Go.Proofs.YteiomfgehlojeaaGreatDoor.InI a3∧Go.Proofs.YteiomfgehlojeaaGreatDoor.InI a4∧Go.Proofs.YteiomfgehlojeaaGreatDoor.InI a5:=by
  obtain ⟨hl,n,hf⟩:=open_fields Tryz.underlying23 h
  rw [cells23] at hl
  obtain ⟨c0,cs_0,rfl⟩:∃ a l,cs = a :: l:=by cases cs with
    | nil=>simp at hl
    | cons a l=>exact ⟨a,l,rfl⟩
  obtain ⟨c1,cs_1,rfl⟩:∃ a l,cs_0 = a :: l:=by cases cs_0 with
    | nil=>simp at hl
    | cons a l=>exact ⟨a,l,rfl⟩
  obtain ⟨c2,cs_2,rfl⟩:∃ a l,cs_1 = a :: l:=by cases cs_1 with
    | nil=>simp at hl
    | cons a l=>exact ⟨a,l,rfl⟩
  obtain ⟨c3,cs_3,rfl⟩:∃ a l,cs_2 = a :: l:=by cases cs_2 with
    | nil=>simp at hl
    | cons a l=>exact ⟨a,l,rfl⟩
  obtain ⟨c4,cs_4,rfl⟩:∃ a l,cs_3 = a :: l:=by cases cs_3 with
    | nil=>simp at hl
    | cons a l=>exact ⟨a,l,rfl⟩
  obtain ⟨c5,cs_5,rfl⟩:∃ a l,cs_4 = a :: l:=by cases cs_4 with
    | nil=>simp at hl
    | cons a l=>exact ⟨a,l,rfl⟩
  obtain rfl:cs_5 = []:=by cases cs_5 with
    | nil=>rfl
    | cons a l=>simp at hl
  obtain ⟨y0,h0⟩:=hf 0 { name := "System",type:=3,offset:=0,embedded:=false,tag := "",pkgPath := "",byteOffset:=0 } rfl
  obtain ⟨y1,h1⟩:=hf 1 { name := "Pattern",type:=3,offset:=1,embedded:=false,tag := "",pkgPath := "",byteOffset:=8 } rfl
  obtain ⟨y2,h2⟩:=hf 2 { name := "Decimal",type:=3,offset:=2,embedded:=false,tag := "",pkgPath := "",byteOffset:=16 } rfl
  obtain ⟨y3,h3⟩:=hf 3 { name := "Group",type:=3,offset:=3,embedded:=false,tag := "",pkgPath := "",byteOffset:=24 } rfl
  obtain ⟨y4,h4⟩:=hf 4 { name := "Minus",type:=3,offset:=4,embedded:=false,tag := "",pkgPath := "",byteOffset:=32 } rfl
  obtain ⟨y5,h5⟩:=hf 5 { name := "Words",type:=3,offset:=5,embedded:=false,tag := "",pkgPath := "",byteOffset:=40 } rfl
  simp only [cells3,List.drop_zero,List.drop_succ_cons,List.take_succ_cons,List.take_zero] at h0 h1 h2 h3 h4 h5
  obtain ⟨a0,rfl,w0⟩:=open_one h0
  obtain ⟨a1,rfl,w1⟩:=open_one h1
  obtain ⟨a2,rfl,w2⟩:=open_one h2
  obtain ⟨a3,rfl,w3⟩:=open_one h3
  obtain ⟨a4,rfl,w4⟩:=open_one h4
  obtain ⟨a5,rfl,w5⟩:=open_one h5
  exact ⟨a0,a1,a2,a3,a4,a5,rfl,w0,w1,w2,w3,w4,w5⟩
theorem open_n {fuel:Nat} {cs:List Value} {x:DataW H × List MemPlace} (h:DataW.trod enc Tryz.prog W 0 (fun _=>true) true fuel 28 cs = some x):∃ a0 a1 a2 a3 a4 a5 a6,cs = [.int .i64 a0, .int .i64 a1, .int .i64 a2, .int .i64 a3, .int .i64 a4, .int .i64 a5, .int .i64 a6]∧Go.Proofs.YteiomfgehlojeaaGreatDoor.InI a0∧Go.Proofs.YteiomfgehlojeaaGreatDoor.InI a1∧Go.Proofs.YteiomfgehlojeaaGreatDoor.InI a2∧Go.Proofs.YteiomfgehlojeaaGreatDoor.InI a3∧Go.Proofs.YteiomfgehlojeaaGreatDoor.InI a4∧Go.Proofs.YteiomfgehlojeaaGreatDoor.InI a5∧Go.Proofs.YteiomfgehlojeaaGreatDoor.InI a6:=by
  obtain ⟨hl,n,hf⟩:=open_fields Tryz.underlying28 h
  rw [cells28] at hl
  obtain ⟨c0,cs_0,rfl⟩:∃ a l,cs = a :: l:=by cases cs with
    | nil=>simp at hl
    | cons a l=>exact ⟨a,l,rfl⟩
  obtain ⟨c1,cs_1,rfl⟩:∃ a l,cs_0 = a :: l:=by cases cs_0 with
    | nil=>simp at hl
    | cons a l=>exact ⟨a,l,rfl⟩
  obtain ⟨c2,cs_2,rfl⟩:∃ a l,cs_1 = a :: l:=by cases cs_1 with
    | nil=>simp at hl
    | cons a l=>exact ⟨a,l,rfl⟩
  obtain ⟨c3,cs_3,rfl⟩:∃ a l,cs_2 = a :: l:=by cases cs_2 with
    | nil=>simp at hl
    | cons a l=>exact ⟨a,l,rfl⟩
  obtain ⟨c4,cs_4,rfl⟩:∃ a l,cs_3 = a :: l:=by cases cs_3 with
    | nil=>simp at hl
    | cons a l=>exact ⟨a,l,rfl⟩
  obtain ⟨c5,cs_5,rfl⟩:∃ a l,cs_4 = a :: l:=by cases cs_4 with
    | nil=>simp at hl
    | cons a l=>exact ⟨a,l,rfl⟩
  obtain ⟨c6,cs_6,rfl⟩:∃ a l,cs_5 = a :: l:=by cases cs_5 with
    | nil=>simp at hl
    | cons a l=>exact ⟨a,l,rfl⟩
  obtain rfl:cs_6 = []:=by cases cs_6 with
    | nil=>rfl
    | cons a l=>simp at hl
  obtain ⟨y0,h0⟩:=hf 0 { name := "IntCap",type:=3,offset:=0,embedded:=false,tag := "",pkgPath := "",byteOffset:=0 } rfl
  obtain ⟨y1,h1⟩:=hf 1 { name := "FracCap",type:=3,offset:=1,embedded:=false,tag := "",pkgPath := "",byteOffset:=8 } rfl
  obtain ⟨y2,h2⟩:=hf 2 { name := "Scale",type:=3,offset:=2,embedded:=false,tag := "",pkgPath := "",byteOffset:=16 } rfl
  obtain ⟨y3,h3⟩:=hf 3 { name := "MinInt",type:=3,offset:=3,embedded:=false,tag := "",pkgPath := "",byteOffset:=24 } rfl
  obtain ⟨y4,h4⟩:=hf 4 { name := "MinFrac",type:=3,offset:=4,embedded:=false,tag := "",pkgPath := "",byteOffset:=32 } rfl
  obtain ⟨y5,h5⟩:=hf 5 { name := "Mode",type:=3,offset:=5,embedded:=false,tag := "",pkgPath := "",byteOffset:=40 } rfl
  obtain ⟨y6,h6⟩:=hf 6 { name := "History",type:=3,offset:=6,embedded:=false,tag := "",pkgPath := "",byteOffset:=48 } rfl
  simp only [cells3,List.drop_zero,List.drop_succ_cons,List.take_succ_cons,List.take_zero] at h0 h1 h2 h3 h4 h5 h6
  obtain ⟨a0,rfl,w0⟩:=open_one h0
  obtain ⟨a1,rfl,w1⟩:=open_one h1
  obtain ⟨a2,rfl,w2⟩:=open_one h2
  obtain ⟨a3,rfl,w3⟩:=open_one h3
  obtain ⟨a4,rfl,w4⟩:=open_one h4
  obtain ⟨a5,rfl,w5⟩:=open_one h5
  obtain ⟨a6,rfl,w6⟩:=open_one h6
  exact ⟨a0,a1,a2,a3,a4,a5,a6,rfl,w0,w1,w2,w3,w4,w5,w6⟩
theorem open_c {fuel:Nat} {cs:List Value} {x:DataW H × List MemPlace} (h:DataW.trod enc Tryz.prog W 0 (fun _=>true) true fuel 30 cs = some x):∃ (v1 v2 v3:Value) (c:Go.Proofs.YteiomfgehlojeaaGreatDoor.Cg),(Value.agg cs.toArray = Go.Proofs.YteiomfgehlojeaaGreatDoor.cgV v1 v2 v3 c)∧Go.Proofs.YteiomfgehlojeaaGreatDoor.CgOK c∧IsInts W v1 c.low.l∧IsInts W v2 c.high.l∧IsInts W v3 c.step:=by
  obtain ⟨hl,n,hf⟩:=open_fields Tryz.underlying30 h
  rw [cells30] at hl
  obtain ⟨c0,cs_0,rfl⟩:∃ a l,cs = a :: l:=by cases cs with
    | nil=>simp at hl
    | cons a l=>exact ⟨a,l,rfl⟩
  obtain ⟨c1,cs_1,rfl⟩:∃ a l,cs_0 = a :: l:=by cases cs_0 with
    | nil=>simp at hl
    | cons a l=>exact ⟨a,l,rfl⟩
  obtain ⟨c2,cs_2,rfl⟩:∃ a l,cs_1 = a :: l:=by cases cs_1 with
    | nil=>simp at hl
    | cons a l=>exact ⟨a,l,rfl⟩
  obtain ⟨c3,cs_3,rfl⟩:∃ a l,cs_2 = a :: l:=by cases cs_2 with
    | nil=>simp at hl
    | cons a l=>exact ⟨a,l,rfl⟩
  obtain ⟨c4,cs_4,rfl⟩:∃ a l,cs_3 = a :: l:=by cases cs_3 with
    | nil=>simp at hl
    | cons a l=>exact ⟨a,l,rfl⟩
  obtain ⟨c5,cs_5,rfl⟩:∃ a l,cs_4 = a :: l:=by cases cs_4 with
    | nil=>simp at hl
    | cons a l=>exact ⟨a,l,rfl⟩
  obtain ⟨c6,cs_6,rfl⟩:∃ a l,cs_5 = a :: l:=by cases cs_5 with
    | nil=>simp at hl
    | cons a l=>exact ⟨a,l,rfl⟩
  obtain ⟨c7,cs_7,rfl⟩:∃ a l,cs_6 = a :: l:=by cases cs_6 with
    | nil=>simp at hl
    | cons a l=>exact ⟨a,l,rfl⟩
  obtain ⟨c8,cs_8,rfl⟩:∃ a l,cs_7 = a :: l:=by cases cs_7 with
    | nil=>simp at hl
    | cons a l=>exact ⟨a,l,rfl⟩
  obtain ⟨c9,cs_9,rfl⟩:∃ a l,cs_8 = a :: l:=by cases cs_8 with
    | nil=>simp at hl
    | cons a l=>exact ⟨a,l,rfl⟩
  obtain ⟨c10,cs_10,rfl⟩:∃ a l,cs_9 = a :: l:=by cases cs_9 with
    | nil=>simp at hl
    | cons a l=>exact ⟨a,l,rfl⟩
  obtain ⟨c11,cs_11,rfl⟩:∃ a l,cs_10 = a :: l:=by cases cs_10 with
    | nil=>simp at hl
    | cons a l=>exact ⟨a,l,rfl⟩
  obtain ⟨c12,cs_12,rfl⟩:∃ a l,cs_11 = a :: l:=by cases cs_11 with
    | nil=>simp at hl
    | cons a l=>exact ⟨a,l,rfl⟩
  obtain ⟨c13,cs_13,rfl⟩:∃ a l,cs_12 = a :: l:=by cases cs_12 with
    | nil=>simp at hl
    | cons a l=>exact ⟨a,l,rfl⟩
  obtain ⟨c14,cs_14,rfl⟩:∃ a l,cs_13 = a :: l:=by cases cs_13 with
    | nil=>simp at hl
    | cons a l=>exact ⟨a,l,rfl⟩
  obtain rfl:cs_14 = []:=by cases cs_14 with
    | nil=>rfl
    | cons a l=>simp at hl
  obtain ⟨y0,h0⟩:=hf 0 { name := "Low",type:=26,offset:=0,embedded:=false,tag := "",pkgPath := "",byteOffset:=0 } rfl
  obtain ⟨y1,h1⟩:=hf 1 { name := "High",type:=26,offset:=3,embedded:=false,tag := "",pkgPath := "",byteOffset:=40 } rfl
  obtain ⟨y2,h2⟩:=hf 2 { name := "Step",type:=24,offset:=6,embedded:=false,tag := "",pkgPath := "",byteOffset:=80 } rfl
  obtain ⟨y3,h3⟩:=hf 3 { name := "Small",type:=4,offset:=7,embedded:=false,tag := "",pkgPath := "",byteOffset:=104 } rfl
  obtain ⟨y4,h4⟩:=hf 4 { name := "N",type:=28,offset:=8,embedded:=false,tag := "",pkgPath := "",byteOffset:=112 } rfl
  simp only [cells3,cells4,cells24,cells26,cells28,List.drop_zero,List.drop_succ_cons,List.take_succ_cons,List.take_zero,List.take_nil] at h0 h1 h2 h3 h4
  obtain ⟨b1,v1,s1,l1,e1,i1,j1,k1⟩:=open_d6 h0
  obtain ⟨b2,v2,s2,l2,e2,i2,j2,k2⟩:=open_d6 h1
  obtain ⟨l3,i3,j3⟩:=open_list h2
  obtain ⟨b3,e3⟩:=open_flag h3
  obtain ⟨a0,a1,a2,a3,a4,a5,a6,e4,w0,w1,w2,w3,w4,w5,w6⟩:=open_n h4
  simp only [List.cons.injEq,and_true] at e1 e2 e4
  obtain ⟨rfl,rfl,rfl⟩:=e1
  obtain ⟨rfl,rfl,rfl⟩:=e2
  obtain ⟨rfl,rfl,rfl,rfl,rfl,rfl,rfl⟩:=e4
  subst e3
  exact ⟨_,_,_,⟨⟨b1,l1,0⟩,s1,⟨b2,l2,0⟩,s2,l3,b3,a0,a1,a2,a3,a4,a5,a6⟩,rfl,⟨j1,k1,j2,k2,j3,w0,w1,w2,w3,w4,w5,w6⟩,i1,i2,i3⟩
theorem open_d {fuel:Nat} {cs:List Value} {x:DataW H × List MemPlace} (h:DataW.trod enc Tryz.prog W 0 (fun _=>true) true fuel 32 cs = some x):∃ (vi vf:Value) (d:Go.Proofs.YteiomfgehlojeaaGreatDoor.Dr),(Value.agg cs.toArray = Go.Proofs.YteiomfgehlojeaaGreatDoor.drv vi vf d)∧IsInts W vi d.int∧IsInts W vf d.frac∧(∀ x ∈ d.int,-9223372036854775808 ≤ x∧x ≤ 9223372036854775807)∧(∀ x ∈ d.frac,-9223372036854775808 ≤ x∧x ≤ 9223372036854775807):=by
  obtain ⟨hl,n,hf⟩:=open_fields Tryz.underlying32 h
  rw [cells32] at hl
  obtain ⟨c0,cs_0,rfl⟩:∃ a l,cs = a :: l:=by cases cs with
    | nil=>simp at hl
    | cons a l=>exact ⟨a,l,rfl⟩
  obtain ⟨c1,cs_1,rfl⟩:∃ a l,cs_0 = a :: l:=by cases cs_0 with
    | nil=>simp at hl
    | cons a l=>exact ⟨a,l,rfl⟩
  obtain ⟨c2,cs_2,rfl⟩:∃ a l,cs_1 = a :: l:=by cases cs_1 with
    | nil=>simp at hl
    | cons a l=>exact ⟨a,l,rfl⟩
  obtain ⟨c3,cs_3,rfl⟩:∃ a l,cs_2 = a :: l:=by cases cs_2 with
    | nil=>simp at hl
    | cons a l=>exact ⟨a,l,rfl⟩
  obtain rfl:cs_3 = []:=by cases cs_3 with
    | nil=>rfl
    | cons a l=>simp at hl
  obtain ⟨y0,h0⟩:=hf 0 { name := "Neg",type:=4,offset:=0,embedded:=false,tag := "",pkgPath := "",byteOffset:=0 } rfl
  obtain ⟨y1,h1⟩:=hf 1 { name := "Int",type:=24,offset:=1,embedded:=false,tag := "",pkgPath := "",byteOffset:=8 } rfl
  obtain ⟨y2,h2⟩:=hf 2 { name := "Sep",type:=4,offset:=2,embedded:=false,tag := "",pkgPath := "",byteOffset:=32 } rfl
  obtain ⟨y3,h3⟩:=hf 3 { name := "Frac",type:=24,offset:=3,embedded:=false,tag := "",pkgPath := "",byteOffset:=40 } rfl
  simp only [cells3,cells4,cells24,List.drop_zero,List.drop_succ_cons,List.take_succ_cons,List.take_zero] at h0 h1 h2 h3
  obtain ⟨b0,rfl⟩:=open_flag h0
  obtain ⟨l1,i1,j1⟩:=open_list h1
  obtain ⟨b2,rfl⟩:=open_flag h2
  obtain ⟨l3,i3,j3⟩:=open_list h3
  exact ⟨c1,c3,⟨b0,l1,b2,l3⟩,rfl,i1,i3,j1,j3⟩
end
end Go.Proofs.YteiomfgehlojeaaGreatDoor.topSteps
end
section
namespace Go.Proofs.YteiomfgehlojeaaGreatDoor.topSteps
open Go.ChangeShapes Go.WideShapes Go.ChangeAt Go.RowKit
set_option linter.unusedVariables false
theorem lg_eq (a0 a1 a2 a3 a4 a5:Int):Value.agg #[.int .i64 a0, .int .i64 a1, .int .i64 a2, .int .i64 a3, .int .i64 a4, .int .i64 a5] = (Go.Sym.Lg.mk a0 a1 a2 a3 a4 a5).V:=rfl
theorem wd_of {w w':World} (hh:w.heap = w'.heap) (hL:laidMetH Tryz.prog Rows.topStepsRow.laid w) (hS:w'.ShapedOpen Tryz.prog):Go.Sym.Wd w' :=
  ⟨tabs_of (hL.of_heap hh),Tryz.laysM219.s1_3 w' hS⟩
set_option maxRecDepth 100000 in
set_option maxHeartbeats 1000000 in
theorem lifted (os:Os) (started:os.Started) (H:Type) (enc:TypeId × Value→H) :
    ReturnsInHanded {} Tryz.checked os 3 .any (fun w args=>(Rows.topStepsSpec.pre enc Tryz.prog Tryz.f3 Rows.topStepsRow.domain false w args∧laidMetH Tryz.prog Rows.topStepsRow.laid w)∧sizedMet enc Tryz.prog Tryz.f3 (OpenSpec.ofChange Rows.topStepsSpec) false w args)
      (Rows.topStepsSpec.post enc Tryz.prog Tryz.f3 false true false false):=by
  refine returnsInHanded_of_calls (C:=Tryz.checked) own started (by kernel_rfl) (witness os H enc) ?_
  intro w tape i _ hsh _ hok hpre _
  obtain ⟨_,_,_,fn',hfn',_,_,_,_,hval1⟩:=hok
  have e:fn' = Tryz.f3:=Option.some.inj (hfn'.symm.trans Tryz.func3)
  subst e
  obtain ⟨⟨⟨ds,gs,before,hw,_⟩,hL⟩,_⟩:=hpre
  have hW0:=DataW.Whole.of_heap (w':=w.forCall tape i) (by rfl) hw
  have hwd:=wd_of (w':=w.forCall tape i) (by rfl) hL hsh
  suffices hc:Calls Tryz.prog 3 i.args (w.forCall tape i) fun e W'=>∃ v,e = .returned v∧Rows.topStepsSpec.post enc Tryz.prog Tryz.f3 false true false false (w.forCall tape i) i.args v W' by
    refine hc.mono fun e W' ⟨v,he,hp⟩=>?_
    subst he
    exact ChangeSpec.post_blind hp
  clear hw hL hsh hfn'
  generalize w.forCall tape i = W at *
  generalize i.args = args at *
  generalize w.heap.size = base at *
  have hval:∀ (j:Nat) t v,Tryz.f3.params[j]? = some t→args[j]? = some v→Value.okWide Tryz.prog W .any base t v:=hval1
  have hW':=hW0
  obtain ⟨p,q,hA0,hV,rfl,hfz,hnd⟩:=hW0
  have hA:DataW.TrodAll enc Tryz.prog W 0 (fun _=>true) true Tryz.f3.params.toList args.toList ds p:=hA0
  rw [Tryz.params3] at hA hval
  obtain ⟨v0,vs0,d0,ds0,p0,q0,hargs,rfl,rfl,h0,r0⟩:=trodAll_cons hA
  obtain ⟨v1,vs1,d1,ds1,p1,q1,rfl,rfl,rfl,h1,r1⟩:=trodAll_cons r0
  obtain ⟨v2,vs2,d2,ds2,p2,q2,rfl,rfl,rfl,h2,r2⟩:=trodAll_cons r1
  obtain ⟨v3,vs3,d3,ds3,p3,q3,rfl,rfl,rfl,h3,r3⟩:=trodAll_cons r2
  obtain ⟨v4,vs4,d4,ds4,p4,q4,rfl,rfl,rfl,h4,r4⟩:=trodAll_cons r3
  obtain ⟨rfl,rfl,rfl⟩:=trodAll_nil r4
  obtain rfl:args = #[v0,v1,v2,v3,v4]:=by cases args; simp_all
  obtain ⟨rfl,rfl⟩:=trodVars_none hV
  obtain ⟨c0,rfl,z0⟩:=okWide_struct Tryz.underlying23 (hval 0 23 v0 rfl rfl)
  obtain ⟨n,rfl,rfl,rfl,w1⟩:=open_int Tryz.underlying3 (hval 1 3 v1 rfl rfl) h1
  obtain ⟨c2,rfl,z2⟩:=okWide_struct Tryz.underlying30 (hval 2 30 v2 rfl rfl)
  obtain ⟨k,rfl,rfl,rfl,w3⟩:=open_int Tryz.underlying3 (hval 3 3 v3 rfl rfl) h3
  obtain ⟨c4,rfl,z4⟩:=okWide_struct Tryz.underlying32 (hval 4 32 v4 rfl rfl)
  have k0:=h0
  have k2:=h2
  have k4:=h4
  have lt0:∀ x ∈ p0,x.block < W.heap.size:=by obtain ⟨m,hm⟩:=k0; exact DataW.trod_lt m _ _ _ hm
  have lt2:∀ x ∈ p2,x.block < W.heap.size:=by obtain ⟨m,hm⟩:=k2; exact DataW.trod_lt m _ _ _ hm
  have lt4:∀ x ∈ p4,x.block < W.heap.size:=by obtain ⟨m,hm⟩:=k4; exact DataW.trod_lt m _ _ _ hm
  obtain ⟨a0,a1,a2,a3,a4,a5,e0,g0,g1,g2,g3,g4,g5⟩:∃ a0 a1 a2 a3 a4 a5,c0.toList = [.int .i64 a0, .int .i64 a1, .int .i64 a2, .int .i64 a3, .int .i64 a4, .int .i64 a5]∧InI a0∧InI a1∧InI a2∧InI a3∧InI a4∧InI a5:=by
    obtain ⟨m,hm⟩:=h0
    exact open_g hm
  obtain ⟨x1,x2,x3,c,ec,okc,i1,i2,i3⟩:∃ (v1 v2 v3:Value) (c:Go.Proofs.YteiomfgehlojeaaGreatDoor.Cg),(Value.agg c2.toList.toArray = Go.Proofs.YteiomfgehlojeaaGreatDoor.cgV v1 v2 v3 c)∧Go.Proofs.YteiomfgehlojeaaGreatDoor.CgOK c∧IsInts W v1 c.low.l∧IsInts W v2 c.high.l∧IsInts W v3 c.step:=by
    obtain ⟨m,hm⟩:=h2
    exact open_c hm
  obtain ⟨xi,xf,d,ed,i4,i5,j4,j5⟩:∃ (vi vf:Value) (d:Go.Proofs.YteiomfgehlojeaaGreatDoor.Dr),(Value.agg c4.toList.toArray = Go.Proofs.YteiomfgehlojeaaGreatDoor.drv vi vf d)∧IsInts W vi d.int∧IsInts W vf d.frac∧(∀ x ∈ d.int,-9223372036854775808 ≤ x∧x ≤ 9223372036854775807)∧(∀ x ∈ d.frac,-9223372036854775808 ≤ x∧x ≤ 9223372036854775807):=by
    obtain ⟨m,hm⟩:=h4
    exact open_d hm
  obtain rfl:c0 = #[.int .i64 a0, .int .i64 a1, .int .i64 a2, .int .i64 a3, .int .i64 a4, .int .i64 a5]:=by
    cases c0
    simp only at e0
    rw [e0]
  have ec':Value.agg c2 = cgV x1 x2 x3 c:=by rw [← ec]
  have ed':Value.agg c4 = drv xi xf d:=by rw [← ed]
  have hc:Calls Tryz.prog 3 #[.agg #[.int .i64 a0, .int .i64 a1, .int .i64 a2, .int .i64 a3, .int .i64 a4, .int .i64 a5], .int .i64 n, .agg c2, .int .i64 k, .agg c4] W fun e w'=>e = .returned (.bool true)∧Below W.heap.size W w':=by
    rw [ec',ed',lg_eq]
    exact Go.Sym.topSteps_walk ⟨a0,a1,a2,a3,a4,a5⟩ n c k d x1 x2 x3 xi xf W ⟨g0,g1,g2,g3,g4,g5⟩ (bd n w1) okc (bd k w3) j4 j5 i1 i2 i3 i4 i5 hwd
  clear hA0 hval1 hA hval hargs r0 r1 r2 r3 r4 h0 h2 h4 e0 ec ed ec' ed' i1 i2 i3 i4 i5 okc j4 j5 g0 g1 g2 g3 g4 g5 hwd z0 z2 z4
  refine hc.mono fun e W' ⟨he,bel⟩=>?_
  subst he
  exact ⟨_,rfl,_,_,_,[],_,[],hW',trodAll_mk1 (shut_bool Tryz.underlying4 _),
    trodAll_cons_mk (Below.trod laidOut (by kernel_rfl) (of_decide_eq_true (by kernel_rfl)) k0 bel lt0)
      (trodAll_cons_mk (shut_int Tryz.underlying3 w1)
        (trodAll_cons_mk (Below.trod laidOut (by kernel_rfl) (of_decide_eq_true (by kernel_rfl)) k2 bel lt2)
          (trodAll_cons_mk (shut_int Tryz.underlying3 w3)
            (trodAll_cons_mk (Below.trod laidOut (by kernel_rfl) (of_decide_eq_true (by kernel_rfl)) k4 bel lt4) trodAll_mk0)))),
    rfl,bel.frame _,fun h=>by cases h⟩
end Go.Proofs.YteiomfgehlojeaaGreatDoor.topSteps
end
section
namespace Go.Proofs.YteiomfgehlojeaaGreatDoor.topSteps
open Go.ChangeShapes Go.WideShapes Go.ChangeAt Go.RowKit
set_option maxRecDepth 100000 in
theorem joined:joinedFacts Tryz.pinned.checked.prog 3 Tryz.f3 Rows.topStepsSpec Rows.topStepsRow = true:=by
  show joinedFacts Tryz.prog 3 Tryz.f3 Rows.topStepsSpec Rows.topStepsRow = true
  unfold joinedFacts
  simp only [Bool.and_eq_true]
  exact ⟨⟨⟨⟨⟨⟨⟨⟨⟨⟨⟨⟨⟨⟨⟨⟨⟨⟨⟨⟨⟨⟨⟨⟨⟨⟨⟨⟨⟨⟨⟨jo_0,jo_1⟩,jo_2⟩,jo_3⟩,jo_4⟩,jo_5⟩,jo_6⟩,jo_7⟩,jo_8⟩,jo_9⟩,jo_10⟩,jo_11⟩,jo_12⟩,jo_13⟩,jo_14⟩,jo_15⟩,jo_16⟩,jo_17⟩,jo_18⟩,jo_19⟩,jo_20⟩,jo_21⟩,jo_22⟩,jo_23⟩,jo_24⟩,jo_25⟩,jo_26⟩,jo_27⟩,jo_28⟩,jo_29⟩,jo_30⟩,jo_31⟩
theorem named3:Tryz.pinned.checked.prog.funcNamed Rows.topStepsRow.func = some 3:=by kernel_rfl
theorem inst3:Tryz.f3.isInstance Tryz.pinned.checked.prog Rows.topStepsRow.origin Rows.topStepsRow.targs:=of_decide_eq_true (by kernel_rfl)
theorem pack3:(Check.packageOf Tryz.f3.name == "main") = false:=by kernel_rfl
theorem wrap3:Tryz.f3.isWrapper Tryz.pinned.checked.prog Rows.topStepsRow.wrapper Rows.topStepsRow.mainSum:=by
  unfold Func.isWrapper
  rw [if_neg (beq_eq_false_iff_ne.1 pack3)]
  exact ⟨rfl,rfl⟩
set_option maxRecDepth 100000 in
theorem over:Rows.topStepsRow.holds Tryz.pinned (OpenSpec.ofChange Rows.topStepsSpec) :=
  OpenClaim.holds_of_wide 3 Tryz.f3 rfl rfl rfl rfl rfl rfl rfl ⟨rfl,rfl,rfl,rfl,rfl⟩ rfl rfl rfl rfl rfl named3 Tryz.func3 joined
    inst3 wrap3
    (fun os started H enc _=>lifted os started H enc)
end Go.Proofs.YteiomfgehlojeaaGreatDoor.topSteps
end
section
namespace Go.Proofs.YteiomfgehlojeaaGreatDoor.topSteps
open Go.ChangeShapes Go.WideShapes Go.ChangeAt Go.RowKit
set_option maxRecDepth 100000 in
theorem proved:Rows.TopStepsCardSaid :=
  Claim7.holds_tied_plain_at .later [] [.pinned, .data, .handle, .data, .data, .data, .sentinel, .sentinel] true (true, "603c32705264a105c30a24b6ad906616d55472cf9c9c59a6bd7efa99276324b1") true over (fun _ h=>by cases h) cf_wf (fun _ h=>by cases h) ty_row rfl ⟨rfl,rfl⟩ cf_main rfl
    (fun f fn hf hfn=>by
      obtain rfl:f = 3:=Option.some.inj (cf_name.symm.trans hf) |>.symm
      obtain rfl:fn = Tryz.f3:=(Option.some.inj (Tryz.func3.symm.trans hfn)).symm
      exact ⟨cf_looks,fun j t ht=>by
        rw [Tryz.params3] at ht
        have hm:t ∈ [23,3,30,3,32]:=by simpa using Array.mem_of_getElem? ht
        exact (show Tryz.prog.wantsStandIn t = false by simpa using List.all_eq_true.1 cf_in t hm)⟩)
    cf_goes
end Go.Proofs.YteiomfgehlojeaaGreatDoor.topSteps
end
