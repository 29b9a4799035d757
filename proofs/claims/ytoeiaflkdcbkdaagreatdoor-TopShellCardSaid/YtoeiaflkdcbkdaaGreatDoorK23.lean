/- TopShell, part 23 of 36. -/
import Derived.Test.YtoeiaflkdcbkdaaGreatDoorK11
import Derived.Test.YtoeiaflkdcbkdaaGreatDoorK10
set_option maxHeartbeats 16000000
set_option linter.unusedVariables false
set_option linter.unusedSimpArgs false
namespace Go.Proofs.YtoeiaflkdcbkdaaGreatDoor
open Go.RowKit Go.Sym Go.Proofs.Tryz
section
variable {B:aE}
def apO:List (List UInt8):=[[],[36],[37],[44],[45],[46],[66,71,78],[67,72,70],[69,71,80],[70,116],[75],[75,196,141],[78,117],[82,36],[82,112],[107,114],[122,197,130],[194,163],[194,165],[217,170],[217,171],[217,172],[224,167,179],[224,184,191],[225,159,155],[226,128,153],[226,128,175],[226,130,169],[226,130,170],[226,130,172],[226,130,173],[226,130,185],[226,130,189],[226,136,146],[239,191,165]]
theorem akD:(apO.all fun a=>Lib.validD a)=true:=by kernel_rfl
def avP:List (List UInt8×List UInt8×Int):=[([35,35,44,35,35,48],[44],2),([35,35,48],[44],-1),([35,44,35,35,44,35,35,48],[44],1),([35,44,35,35,44,35,35,48,46,48,48],[46],8),([35,44,35,35,48],[44],1),([35,44,35,35,48],[46],-1),([35,44,35,35,48,46,35,35],[46],5),([35,44,35,35,48,46,48,48],[46],5),([48],[44],-1),([48,46,48,48],[46],1)]
theorem akE:(avP.all fun p=>decide (Lib.index p.1 p.2.1=p.2.2)&&Nat.ble p.1.length 1000)=true:=by kernel_rfl
def anN:List dO:=apC.map (fun c=>FS 393 [.int .i64 c] (.int .i64 0))++(apO.map (fun a=>FS 411 [sB a] (.bool true))++avP.map (fun p=>ajU p.1 p.2.1 p.2.2))
theorem akF:(apO.all fun a=>Nat.ble a.length 1000)=true:=by kernel_rfl
theorem ad6 (hb:∀i x,B.A i=some x->i%2≠1)(h:DC B):∀E∈anN,aK B prog E:=by
 intro E hE;rcases aEQ.1 hE with hE|hE
 ·obtain⟨c,hc,rfl⟩:=aEZ.1 hE;exact zA hb qH (akC B c hc)
 ·rcases aEQ.1 hE with hE|hE
  ·obtain⟨a,ha,rfl⟩:=aEZ.1 hE;exact uS h (aD7.1 akD a ha) (by have:=aEJ (aD7.1 akF a ha);omega)
  ·obtain⟨p,hp,rfl⟩:=aEZ.1 hE;have:=aD7.1 akE p hp;rw[aD3]at this;exact MR h (by have:=aEJ this.2;omega) (aE3 this.1)
def ad7:bM:=OM (bT anN) SX
theorem DE (ha:∀i x,B.A i=some x->i%2≠1)(h:DC B):cH B prog ad7:=EK (bB (ad6 ha h)) YY
def avQ:List (List UInt8):=[[44],[45],[46],[217,171],[217,172],[226,128,153],[226,128,175],[226,136,146]]
theorem ad8 (B:aE):(avQ.all fun c=>cK B ad7 335 [sB c] (.val (.bool true)))=true:=by kernel_rfl
def avR:List (List UInt8):=[[36],[37],[66,71,78],[67,72,70],[69,71,80],[70,116],[75],[75,196,141],[78,117],[82,36],[82,112],[107,114],[122,197,130],[194,163],[194,165],[217,170],[224,167,179],[224,184,191],[225,159,155],[226,130,169],[226,130,170],[226,130,172],[226,130,173],[226,130,185],[226,130,189],[239,191,165]]
theorem ad9 (B:aE):(avR.all fun c=>cK B ad7 324 [sB c] (.val (.bool true)))=true:=by kernel_rfl
theorem apP (B:aE):cK B ad7 324 [sB []] (.val (.bool false))=true:=by kernel_rfl
def oW:List (List UInt8×List (List UInt8)):=[([97,114,97,98],[[217,160],[217,161],[217,162],[217,163],[217,164],[217,165],[217,166],[217,167],[217,168],[217,169]]),([97,114,97,98,101,120,116],[[219,176],[219,177],[219,178],[219,179],[219,180],[219,181],[219,182],[219,183],[219,184],[219,185]]),([98,101,110,103],[[224,167,166],[224,167,167],[224,167,168],[224,167,169],[224,167,170],[224,167,171],[224,167,172],[224,167,173],[224,167,174],[224,167,175]]),([100,101,118,97],[[224,165,166],[224,165,167],[224,165,168],[224,165,169],[224,165,170],[224,165,171],[224,165,172],[224,165,173],[224,165,174],[224,165,175]]),([103,117,106,114],[[224,171,166],[224,171,167],[224,171,168],[224,171,169],[224,171,170],[224,171,171],[224,171,172],[224,171,173],[224,171,174],[224,171,175]]),([107,104,109,114],[[225,159,160],[225,159,161],[225,159,162],[225,159,163],[225,159,164],[225,159,165],[225,159,166],[225,159,167],[225,159,168],[225,159,169]]),([107,110,100,97],[[224,179,166],[224,179,167],[224,179,168],[224,179,169],[224,179,170],[224,179,171],[224,179,172],[224,179,173],[224,179,174],[224,179,175]]),([108,97,111,111],[[224,187,144],[224,187,145],[224,187,146],[224,187,147],[224,187,148],[224,187,149],[224,187,150],[224,187,151],[224,187,152],[224,187,153]]),([108,97,116,110],[[48],[49],[50],[51],[52],[53],[54],[55],[56],[57]]),([109,121,109,114],[[225,129,128],[225,129,129],[225,129,130],[225,129,131],[225,129,132],[225,129,133],[225,129,134],[225,129,135],[225,129,136],[225,129,137]]),([116,97,109,108,100,101,99],[[224,175,166],[224,175,167],[224,175,168],[224,175,169],[224,175,170],[224,175,171],[224,175,172],[224,175,173],[224,175,174],[224,175,175]]),([116,104,97,105],[[224,185,144],[224,185,145],[224,185,146],[224,185,147],[224,185,148],[224,185,149],[224,185,150],[224,185,151],[224,185,152],[224,185,153]]),([116,105,98,116],[[224,188,160],[224,188,161],[224,188,162],[224,188,163],[224,188,164],[224,188,165],[224,188,166],[224,188,167],[224,188,168],[224,188,169]])]
noncomputable def kN (B:aE)(p:List UInt8×List (List UInt8))(d:Nat):Bool:=cK B mJ 284 [sB p.1,.int .i64 d] (.tup [.val (sB (p.2.getD d [])),.val (.int .i64 0)])
end
theorem aA2 (B:aE):(match oW[0]? with|some p=>(List.range 10).all (kN B p)|none=>false)=true:=by kernel_rfl
theorem aA3 (B:aE):(match oW[1]? with|some p=>(List.range 10).all (kN B p)|none=>false)=true:=by kernel_rfl
theorem aA4 (B:aE):(match oW[2]? with|some p=>(List.range 10).all (kN B p)|none=>false)=true:=by kernel_rfl
theorem aA5 (B:aE):(match oW[3]? with|some p=>(List.range 10).all (kN B p)|none=>false)=true:=by kernel_rfl
theorem aA6 (B:aE):(match oW[4]? with|some p=>(List.range 10).all (kN B p)|none=>false)=true:=by kernel_rfl
theorem aA7 (B:aE):(match oW[5]? with|some p=>(List.range 10).all (kN B p)|none=>false)=true:=by kernel_rfl
theorem aA8 (B:aE):(match oW[6]? with|some p=>(List.range 10).all (kN B p)|none=>false)=true:=by kernel_rfl
theorem aA9 (B:aE):(match oW[7]? with|some p=>(List.range 10).all (kN B p)|none=>false)=true:=by kernel_rfl
theorem aBA (B:aE):(match oW[8]? with|some p=>(List.range 10).all (kN B p)|none=>false)=true:=by kernel_rfl
theorem aBB (B:aE):(match oW[9]? with|some p=>(List.range 10).all (kN B p)|none=>false)=true:=by kernel_rfl
theorem avS (B:aE):(match oW[10]? with|some p=>(List.range 10).all (kN B p)|none=>false)=true:=by kernel_rfl
theorem avT (B:aE):(match oW[11]? with|some p=>(List.range 10).all (kN B p)|none=>false)=true:=by kernel_rfl
theorem avU (B:aE):(match oW[12]? with|some p=>(List.range 10).all (kN B p)|none=>false)=true:=by kernel_rfl
theorem akG (B:aE):∀k,k<13->(match oW[k]? with|some p=>(List.range 10).all (kN B p)|none=>false)=true:=by
 intro k hk
 match k,hk with
 |0,_=>exact aA2 B
 |1,_=>exact aA3 B
 |2,_=>exact aA4 B
 |3,_=>exact aA5 B
 |4,_=>exact aA6 B
 |5,_=>exact aA7 B
 |6,_=>exact aA8 B
 |7,_=>exact aA9 B
 |8,_=>exact aBA B
 |9,_=>exact aBB B
 |10,_=>exact avS B
 |11,_=>exact avT B
 |12,_=>exact avU B
 |n+13,h=>omega
structure eB where
 rc:Rc
 pre:List (Int×List UInt8)
 suf:List (Int×List UInt8)
 npre:List (Int×List UInt8)
 nsuf:List (Int×List UInt8)
 p:Int
 q:Int
 mi:Int
 mf:Int
 xf:Int
 dg:List (List UInt8)
def bO:eB:=⟨⟨[97,114,45,69,71],[194,164,35,44,35,35,48,46,48,48],[97,114,97,98],[217,171],[217,172],[45],[217,170],[69,71,80]⟩,[(1,[])],[],[(3,[]),(1,[])],[],3,3,1,2,2,[[217,160],[217,161],[217,162],[217,163],[217,164],[217,165],[217,166],[217,167],[217,168],[217,169]]⟩
def rQ (p:List UInt8)(k:UInt8):List (List UInt8):=[p++[k],p++[k+1],p++[k+2],p++[k+3],p++[k+4],p++[k+5],p++[k+6],p++[k+7],p++[k+8],p++[k+9]]
def locT:List eB:=[⟨⟨[97,114,45,69,71],[194,164,35,44,35,35,48,46,48,48],[97,114,97,98],[217,171],[217,172],[45],[217,170],[69,71,80]⟩,[(1,[])],[],[(3,[]),(1,[])],[],3,3,1,2,2,(rQ [217] 160)⟩,⟨⟨[98,103,45,66,71],[48,46,48,48,194,160,194,164],[108,97,116,110],[44],[],[45],[37],[66,71,78]⟩,[],[(0,[194,160]),(1,[])],[(3,[])],[(0,[194,160]),(1,[])],0,0,1,2,2,(rQ [] 48)⟩,⟨⟨[98,110,45,66,68],[35,44,35,35,44,35,35,48,46,48,48,194,164],[98,101,110,103],[46],[44],[45],[37],[224,167,179]⟩,[],[(1,[])],[(3,[])],[(1,[])],3,2,1,2,2,(rQ [224,167] 166)⟩,⟨⟨[99,115,45,67,90],[35,44,35,35,48,46,48,48,194,160,194,164],[108,97,116,110],[44],[226,128,175],[45],[37],[75,196,141]⟩,[],[(0,[194,160]),(1,[])],[(3,[])],[(0,[194,160]),(1,[])],3,3,1,2,2,(rQ [] 48)⟩,⟨⟨[100,97,45,68,75],[35,44,35,35,48,46,48,48,194,160,194,164],[108,97,116,110],[44],[46],[45],[37],[107,114]⟩,[],[(0,[194,160]),(1,[])],[(3,[])],[(0,[194,160]),(1,[])],3,3,1,2,2,(rQ [] 48)⟩,⟨⟨[100,101,45,65,84],[194,164,194,160,35,44,35,35,48,46,48,48],[108,97,116,110],[44],[46],[45],[37],[226,130,172]⟩,[(1,[]),(0,[194,160])],[],[(3,[]),(1,[]),(0,[194,160])],[],3,3,1,2,2,(rQ [] 48)⟩,⟨⟨[100,101,45,67,72],[194,164,194,160,35,44,35,35,48,46,48,48,59,194,164,45,35,44,35,35,48,46,48,48],[108,97,116,110],[46],[226,128,153],[45],[37],[67,72,70]⟩,[(1,[]),(0,[194,160])],[],[(1,[]),(3,[])],[],3,3,1,2,2,(rQ [] 48)⟩,⟨⟨[100,101,45,68,69],[35,44,35,35,48,46,48,48,194,160,194,164],[108,97,116,110],[44],[46],[45],[37],[226,130,172]⟩,[],[(0,[194,160]),(1,[])],[(3,[])],[(0,[194,160]),(1,[])],3,3,1,2,2,(rQ [] 48)⟩,⟨⟨[100,122,45,66,84],[194,164,35,44,35,35,44,35,35,48,46,48,48],[116,105,98,116],[46],[44],[45],[37],[78,117]⟩,[(1,[])],[],[(3,[]),(1,[])],[],3,2,1,2,2,(rQ [224,188] 160)⟩,⟨⟨[101,108,45,71,82],[35,44,35,35,48,46,48,48,194,160,194,164],[108,97,116,110],[44],[46],[45],[37],[226,130,172]⟩,[],[(0,[194,160]),(1,[])],[(3,[])],[(0,[194,160]),(1,[])],3,3,1,2,2,(rQ [] 48)⟩,⟨⟨[101,110,45,71,66],[194,164,35,44,35,35,48,46,48,48],[108,97,116,110],[46],[44],[45],[37],[194,163]⟩,[(1,[])],[],[(3,[]),(1,[])],[],3,3,1,2,2,(rQ [] 48)⟩,⟨⟨[101,110,45,73,78],[194,164,35,44,35,35,44,35,35,48,46,48,48],[108,97,116,110],[46],[44],[45],[37],[226,130,185]⟩,[(1,[])],[],[(3,[]),(1,[])],[],3,2,1,2,2,(rQ [] 48)⟩,⟨⟨[101,110,45,85,83],[194,164,35,44,35,35,48,46,48,48],[108,97,116,110],[46],[44],[45],[37],[36]⟩,[(1,[])],[],[(3,[]),(1,[])],[],3,3,1,2,2,(rQ [] 48)⟩,⟨⟨[101,115,45,69,83],[35,44,35,35,48,46,48,48,194,160,194,164],[108,97,116,110],[44],[46],[45],[37],[226,130,172]⟩,[],[(0,[194,160]),(1,[])],[(3,[])],[(0,[194,160]),(1,[])],3,3,1,2,2,(rQ [] 48)⟩,⟨⟨[101,116,45,69,69],[35,44,35,35,48,46,48,48,194,160,194,164],[108,97,116,110],[44],[226,128,175],[226,136,146],[37],[226,130,172]⟩,[],[(0,[194,160]),(1,[])],[(3,[])],[(0,[194,160]),(1,[])],3,3,1,2,2,(rQ [] 48)⟩,⟨⟨[102,97,45,73,82],[35,44,35,35,48,46,48,48],[97,114,97,98,101,120,116],[217,171],[217,172],[226,136,146],[217,170],[]⟩,[],[],[(3,[])],[],3,3,1,2,2,(rQ [219] 176)⟩,⟨⟨[102,105,45,70,73],[35,44,35,35,48,46,48,48,194,160,194,164],[108,97,116,110],[44],[226,128,175],[226,136,146],[37],[226,130,172]⟩,[],[(0,[194,160]),(1,[])],[(3,[])],[(0,[194,160]),(1,[])],3,3,1,2,2,(rQ [] 48)⟩,⟨⟨[102,114,45,67,65],[35,44,35,35,48,46,48,48,194,160,194,164],[108,97,116,110],[44],[226,128,175],[45],[37],[36]⟩,[],[(0,[194,160]),(1,[])],[(3,[])],[(0,[194,160]),(1,[])],3,3,1,2,2,(rQ [] 48)⟩,⟨⟨[102,114,45,70,82],[35,44,35,35,48,46,48,48,194,160,194,164],[108,97,116,110],[44],[226,128,175],[45],[37],[226,130,172]⟩,[],[(0,[194,160]),(1,[])],[(3,[])],[(0,[194,160]),(1,[])],3,3,1,2,2,(rQ [] 48)⟩,⟨⟨[103,117,45,73,78],[194,164,35,44,35,35,44,35,35,48,46,48,48],[103,117,106,114],[46],[44],[45],[37],[226,130,185]⟩,[(1,[])],[],[(3,[]),(1,[])],[],3,2,1,2,2,(rQ [224,171] 166)⟩,⟨⟨[104,101,45,73,76],[35,44,35,35,48,46,48,48,194,160,194,164],[108,97,116,110],[46],[44],[45],[37],[226,130,170]⟩,[],[(0,[194,160]),(1,[])],[(3,[])],[(0,[194,160]),(1,[])],3,3,1,2,2,(rQ [] 48)⟩,⟨⟨[104,105,45,73,78],[194,164,35,44,35,35,44,35,35,48,46,48,48],[100,101,118,97],[46],[44],[45],[37],[226,130,185]⟩,[(1,[])],[],[(3,[]),(1,[])],[],3,2,1,2,2,(rQ [224,165] 166)⟩,⟨⟨[104,117,45,72,85],[35,44,35,35,48,46,48,48,194,160,194,164],[108,97,116,110],[44],[226,128,175],[45],[37],[70,116]⟩,[],[(0,[194,160]),(1,[])],[(3,[])],[(0,[194,160]),(1,[])],3,3,1,2,2,(rQ [] 48)⟩,⟨⟨[105,100,45,73,68],[194,164,194,160,35,44,35,35,48,46,48,48],[108,97,116,110],[44],[46],[45],[37],[82,112]⟩,[(1,[]),(0,[194,160])],[],[(3,[]),(1,[]),(0,[194,160])],[],3,3,1,2,2,(rQ [] 48)⟩,⟨⟨[106,97,45,74,80],[194,164,35,44,35,35,48],[108,97,116,110],[46],[44],[45],[37],[239,191,165]⟩,[(1,[])],[],[(3,[]),(1,[])],[],3,3,1,0,0,(rQ [] 48)⟩,⟨⟨[107,109,45,75,72],[35,44,35,35,48,46,48,48,194,164],[107,104,109,114],[44],[46],[45],[37],[225,159,155]⟩,[],[(1,[])],[(3,[])],[(1,[])],3,3,1,2,2,(rQ [225,159] 160)⟩,⟨⟨[107,110,45,73,78],[194,164,35,44,35,35,44,35,35,48,46,48,48],[107,110,100,97],[46],[44],[45],[37],[226,130,185]⟩,[(1,[])],[],[(3,[]),(1,[])],[],3,2,1,2,2,(rQ [224,179] 166)⟩,⟨⟨[107,111,45,75,82],[194,164,35,44,35,35,48],[108,97,116,110],[46],[44],[45],[37],[226,130,169]⟩,[(1,[])],[],[(3,[]),(1,[])],[],3,3,1,0,0,(rQ [] 48)⟩,⟨⟨[108,111,45,76,65],[194,164,35,44,35,35,48,46,48,48,59,194,164,45,35,44,35,35,48,46,48,48],[108,97,111,111],[44],[46],[45],[37],[226,130,173]⟩,[(1,[])],[],[(1,[]),(3,[])],[],3,3,1,2,2,(rQ [224,187] 144)⟩,⟨⟨[109,114,45,73,78],[194,164,35,44,35,35,44,35,35,48,46,48,48],[100,101,118,97],[46],[44],[45],[37],[226,130,185]⟩,[(1,[])],[],[(3,[]),(1,[])],[],3,2,1,2,2,(rQ [224,165] 166)⟩,⟨⟨[109,121,45,77,77],[35,44,35,35,48,46,48,48,194,160,194,164],[109,121,109,114],[46],[44],[45],[37],[75]⟩,[],[(0,[194,160]),(1,[])],[(3,[])],[(0,[194,160]),(1,[])],3,3,1,2,2,(rQ [225,129] 128)⟩,⟨⟨[110,98,45,78,79],[194,164,194,160,35,44,35,35,48,46,48,48,59,194,164,194,160,45,35,44,35,35,48,46,48,48],[108,97,116,110],[44],[226,128,175],[226,136,146],[37],[107,114]⟩,[(1,[]),(0,[194,160])],[],[(1,[]),(0,[194,160]),(3,[])],[],3,3,1,2,2,(rQ [] 48)⟩,⟨⟨[110,108,45,78,76],[194,164,194,160,35,44,35,35,48,46,48,48,59,194,164,194,160,45,35,44,35,35,48,46,48,48],[108,97,116,110],[44],[46],[45],[37],[226,130,172]⟩,[(1,[]),(0,[194,160])],[],[(1,[]),(0,[194,160]),(3,[])],[],3,3,1,2,2,(rQ [] 48)⟩,⟨⟨[112,108,45,80,76],[35,44,35,35,48,46,48,48,194,160,194,164],[108,97,116,110],[44],[226,128,175],[45],[37],[122,197,130]⟩,[],[(0,[194,160]),(1,[])],[(3,[])],[(0,[194,160]),(1,[])],3,3,1,2,2,(rQ [] 48)⟩,⟨⟨[112,116,45,66,82],[194,164,194,160,35,44,35,35,48,46,48,48],[108,97,116,110],[44],[46],[45],[37],[82,36]⟩,[(1,[]),(0,[194,160])],[],[(3,[]),(1,[]),(0,[194,160])],[],3,3,1,2,2,(rQ [] 48)⟩,⟨⟨[114,117,45,82,85],[35,44,35,35,48,46,48,48,194,160,194,164],[108,97,116,110],[44],[226,128,175],[45],[37],[226,130,189]⟩,[],[(0,[194,160]),(1,[])],[(3,[])],[(0,[194,160]),(1,[])],3,3,1,2,2,(rQ [] 48)⟩,⟨⟨[115,108,45,83,73],[35,44,35,35,48,46,35,35,37],[108,97,116,110],[44],[46],[226,136,146],[37],[]⟩,[],[(2,[])],[(3,[])],[(2,[])],3,3,1,0,2,(rQ [] 48)⟩,⟨⟨[116,97,45,73,78],[194,164,194,160,35,44,35,35,44,35,35,48,46,48,48],[116,97,109,108,100,101,99],[46],[44],[45],[37],[226,130,185]⟩,[(1,[]),(0,[194,160])],[],[(3,[]),(1,[]),(0,[194,160])],[],3,2,1,2,2,(rQ [224,175] 166)⟩,⟨⟨[116,104,45,84,72],[194,164,35,44,35,35,48,46,48,48],[116,104,97,105],[46],[44],[45],[37],[224,184,191]⟩,[(1,[])],[],[(3,[]),(1,[])],[],3,3,1,2,2,(rQ [224,185] 144)⟩,⟨⟨[122,104,45,67,78],[194,164,35,44,35,35,48,46,48,48],[108,97,116,110],[46],[44],[45],[37],[194,165]⟩,[(1,[])],[],[(3,[]),(1,[])],[],3,3,1,2,2,(rQ [] 48)⟩]
def aeD:List (List (Int×List UInt8))->Int->List Value
 |[],_=>[]
 |[]::l,k=> .slice none 0 0::aeD l k
 |(x::a)::l,k=> .tuple #[.int .i64 k,.int .i64 (x::a).length,.int .i64 2]::aeD l (k+1)
def aeE:List (List (Int×List UInt8))->List Value
 |[]=>[]
 |[]::l=>aeE l
 |(x::a)::l=> .agg (.int .i64 436::(x::a).flatMap fun y=>[.int .i64 y.1,sB y.2]).toArray::aeE l
def eB.cs (D:eB):List Value:=D.rc.l++(aeD [D.pre,D.suf,D.npre,D.nsuf] 1++([.int .i64 D.p,.int .i64 D.q,.int .i64 D.mi,.int .i64 D.mf,.int .i64 D.xf]++D.dg.map sB))
def eB.fam (D:eB):List Value:= .agg (.int .i64 372::D.cs).toArray::aeE [D.pre,D.suf,D.npre,D.nsuf]
def eB.gh (D:eB):Value:= .tuple D.fam.toArray
def eB.dig (D:eB):List dO:=(List.range 10).map fun(d:Nat)=>apA 284 [sB D.rc.sys,.int .i64 (d:Nat)] (sB (D.dg.getD d [])) (.int .i64 0)
def avW:List dO:=FS 324 [sB []] (.bool false)::(avR.map (fun c=>FS 324 [sB c] (.bool true))++avQ.map (fun c=>FS 335 [sB c] (.bool true)))
def avX:AV->Nat
 |.slc b _ _ _ _=>b
 |.ptr b _=>b
 |_=>0
def sgC:List Value->List AV->Nat->Nat->Nat
 |.tuple a::ys,c::cs,d,j=>match a.toList with
  |.int _ b::_=>if Nat.beq b.toNat j then avX c else sgC ys cs d j
  |_=>sgC ys cs d j
 |_::ys,_::cs,d,j=>sgC ys cs d j
 |_,_,d,_=>d
def WA (D:eB)(m:M)(b:Nat):Nat->Nat:=match m.H.get b with
 |some (.cells _ cs _)=>sgC D.cs cs b
 |_=>fun _=>b
def aeF (D:eB)(r:AV)(m:M):Bool:=match r with
 |.tup [.ptr b o,e]=>Nat.beq o 0&&(fN 0 (.val .nilIface) e&&(Nat.beq (WA D m b 0) b&&(aeC D.fam (WA D m b) m 0 D.fam&&(anO (WA D m b) D.fam.length&&Nat.blt 0 D.fam.length))))
 |_=>false
noncomputable def cD (B:aE)(D:eB):Bool:=match dR B iT (OM (bT (D.dig++avW)) ad7) 247 [.agg (D.rc.l.map .lit)] {}with
 |some (r,m)=>aeF D r m
 |none=>false
def apV (p:List UInt8×List (List UInt8)):List dO:=(List.range 10).map fun(d:Nat)=>FS 85 [sB p.1,.int .i64 (d:Nat)] (sB (p.2.getD d []))
def apW (B:aE)(p:List UInt8×List (List UInt8)):Prop:=(List.range 10).all (fun(d:Nat)=>cK B mJ 85 [sB p.1,.int .i64 (d:Nat)] (.val (sB (p.2.getD d []))))=true
theorem P5 (B:aE):∀p∈oW,apW B p:=by
 have h:(oW.all fun p=>(List.range 10).all (fun(d:Nat)=>cK B mJ 85 [sB p.1,.int .i64 (d:Nat)] (.val (sB (p.2.getD d [])))))=true:=by kernel_rfl
 exact fun p hp=>aD7.1 h p hp
abbrev aI (j:Nat):eB:=locT.getD j bO
def arE (k:Nat):dO:=⟨7,[.at_ 4500,.val (.int .i64 40)],.val (.int .i64 k)⟩
noncomputable def MV (B:aE)(k:Nat):Bool:=match dR B iT (bT [arE k]) 4 (eW 0 [.at_ 4500]).1 {nc:=(eW 0 [.at_ 4500]).2}with
 |some (r,_)=>fN (eW 0 [.at_ 4500]).2 (.agg ((aI k).rc.l.map .val)) r
 |none=>false
theorem ZS (B:aE):(List.range 20).all (fun k=>MV B k)=true:=by kernel_rfl
theorem ZT (B:aE):(List.range 20).all (fun k=>MV B (20+k))=true:=by kernel_rfl
theorem BG {B:aE}{G:Nat->Prop}{w:World}:∀(l ys:List Value),kW B G w (l.map .val) ys->ys=l
 |[],_,h=>h
 |v::l,_,h=>by
  obtain⟨y,r,rfl,h1,h2⟩:=h;rw[show y=v from h1,BG l r h2]
set_option maxRecDepth 100000 in
theorem apX {x:Int}{k:Nat}{l:List Value}(hA:∀w,Calls prog 7 #[.int .i64 x,.int .i64 40] w fun e w'=>e=.returned (.int .i64 k)/\Below w.heap.size w w')
  (ha:∀B,∃r m,dR B iT (bT [arE k]) 4 (eW 0 [.at_ 4500]).1 {nc:=(eW 0 [.at_ 4500]).2}=some (r,m)/\fN (eW 0 [.at_ 4500]).2 (.agg (l.map .val)) r=true) (w:World):Calls prog 4 #[.int .i64 x] w fun e w'=>e=.returned (.agg l.toArray)/\Below w.heap.size w w':=by
 have hE:aK (bU w [(4500,.int .i64 x)]) prog (arE k):=by
  refine⟨⟨⟨_,rfl⟩,trivial,trivial⟩,fun W _ xs hc=>?_⟩;obtain⟨y,_,rfl,hy,z,_,rfl,hz,rfl⟩:=hc;rw[bF (i:=4500) (v:= .int .i64 x) rfl hy,show z=_ from hz];refine(hA W).mono ?_;rintro e W' ⟨rfl,hb⟩;exact⟨_,rfl,rfl,hb⟩
 have hd:∀l:List Value,lJ (bU w [(4500,.int .i64 x)]) (l.map .val):=fun l=>by
  induction l with
  |nil=>trivial
  |cons v l ih=>exact⟨trivial,ih⟩
 have h:aK (bU w [(4500,.int .i64 x)]) prog ⟨4,[.at_ 4500],.agg (l.map .val)⟩:=by
  obtain⟨r,m,hr,hm⟩:=ha (bU w [(4500,.int .i64 x)]);refine run_mk (by kernel_rfl) rfl (T:=iT) (bD aH aH aH aH) (bB (aD hE aH)) ⟨⟨_,rfl⟩,trivial⟩ (hd l) ?_;rw[hr];exact hm
 refine(h.2 w (bG _ _ _) [.int .i64 x] ⟨_,_,rfl,⟨rfl,rfl⟩,rfl⟩).mono ?_
 rintro e w' ⟨y,rfl,⟨ys,rfl,hy⟩,hb⟩
 rw[BG l ys hy]
 exact⟨rfl,hb⟩
theorem aeI (x:Int)(h0:-9223372036854775808<=x)(h1:x<=9223372036854775807)(w:World):Calls prog 4 #[.int .i64 x] w fun e w'=>e=.returned (.agg (aI (dU x 40).toNat).rc.l.toArray)/\Below w.heap.size w w':=by
 have ha:=wU x 40 (by omega);obtain⟨k,hk⟩:∃k,(dU x 40).toNat=k:=⟨_,rfl⟩;have hc:dU x 40=k:=by omega
 have hd:k<40:=by omega
 rw[hk]
 have hb:∀B,MV B k=true:=fun B=>by
  rcases aEU k 20 with h|h
  ·exact aD7.1 (ZS B) k (aEE.2 h)
  ·obtain⟨i,rfl⟩:∃i,k=20+i:=⟨k-20,by omega⟩;exact aD7.1 (ZT B) i (aEE.2 (by omega))
 have hb:∀B,∃r m,dR B iT (bT [arE k]) 4 (eW 0 [.at_ 4500]).1 {nc:=(eW 0 [.at_ 4500]).2}=some (r,m)/\fN (eW 0 [.at_ 4500]).2 (.agg ((aI k).rc.l.map .val)) r=true:=fun B=>by
  have h:=hb B;unfold MV at h;split at h
  case h_2=>cases h
  rename_i r m hr;exact⟨r,m,hr,h⟩
 refine apX (k:=k) (fun w=>(EP x 40 w h0 h1 (by omega) (by omega)).mono ?_) hb w;rintro e W' ⟨rfl,rfl⟩;exact⟨by rw[hc],Below.refl _ _⟩
def sY (l:List Value):List PC:=l.map fun v=> .p (.val v)
def pcL (l:List (Int×List UInt8)):List Value:=l.flatMap fun y=>[.int .i64 y.1,sB y.2]
def eB.is (D:eB):List Value:=[.int .i64 D.p,.int .i64 D.q,.int .i64 D.mi,.int .i64 D.mf,.int .i64 D.xf]
def aY (D:eB)(pv sv nv mv:Value):List Value:=D.rc.l++([pv,sv,nv,mv]++D.is)
def apY (l:List (Int×List UInt8))(a:AV)(m:M):Bool:=match l with
 |[]=>jV a (.lit (.slice none 0 0))
 |_=>IJ 0 102 2 (sY (pcL l)) a m&&Nat.blt (BF a) 1000000
def oneA:AV->Bool
 |.slc _ _ _ _ _=>true
 |.lit (.slice _ _ _)=>true
 |_=>false
def rcP (pat:List UInt8):List PC:=[.p (.at_ 4100),.p (.val (sB pat)),.p (.at_ 4108),.p (.at_ 4112),.p (.at_ 4116),.p (.at_ 4120),.p (.at_ 4124),.p (.at_ 4128)]
def apZ (D:eB)(r:AV)(m:M):Bool:=match r with
 |.agg l=>yS (rcP D.rc.pat) l&&(match l.drop 8 with
  |a::b::c::d::e=>apY D.pre a m&&(apY D.suf b m&&(oneA c&&(oneA d&&(EL 0 (D.is.map .val) e&&!(Nat.beq (BF a) (BF b)&&Nat.blt (BF a) 1000000)))))
  |_=>false)
 |_=>false
noncomputable def J4 (B:aE)(D:eB):Bool:=match dR B iT JK 5 (WC (bX (bQ 0 []).2 (rcP D.rc.pat)).1) {H:=tB (bQ 0 []).1,nb:=([]:List IB).length,nc:=(bX (bQ 0 []).2 (rcP D.rc.pat)).2}with
 |some (r,m)=>apZ D r m&&zE (bQ 0 []).1 m
 |none=>false
def anP (D E:eB):Bool:=decide (D.rc.pat=E.rc.pat)&&(decide (D.pre=E.pre)&&(decide (D.suf=E.suf)&&(decide (D.p=E.p)&&(decide (D.q=E.q)&&(decide (D.mi=E.mi)&&(decide (D.mf=E.mf)&&decide (D.xf=E.xf)))))))
def avY:List Nat:=[0,1,2,3,5,6,8,15,24,25,28,31,36,37]
theorem aeJ:(List.range 40).all (fun j=>avY.any fun r=>anP (aI j) (aI r))=true:=by kernel_rfl
theorem aeK (B:aE):[0,1,2,3,5].all (fun k=>J4 B (aI k))=true:=by kernel_rfl
theorem aeL (B:aE):[6,8,15,24,25].all (fun k=>J4 B (aI k))=true:=by kernel_rfl
theorem aeM (B:aE):[28,31,36,37].all (fun k=>J4 B (aI k))=true:=by kernel_rfl
def IK (rc:Rc)(l:List (Int×List UInt8)):List (List UInt8):=match l.flatMap fun y=>if y.1=1 then rc.cur else if y.1=2 then rc.pct else y.2 with
 |[]=>[]
 |t=>[t]
def tsL (l:List (List UInt8)):List Value:=l.flatMap fun t=>[.bool false,sB t]
def arI (l:List (Int×List UInt8)):List IB:=match l with
 |[]=>[]
 |_=>[⟨102,sY (pcL l),false⟩]
def ZU (D:eB):List IB:=arI D.pre++arI D.suf
def arW (l:List (Int×List UInt8))(b i:Nat):PC:=match l with
 |[]=> .p (.val (.slice none 0 0))
 |_=> .row b l.length 2 i
def arP (D:eB):List PC:=sY D.rc.l++([arW D.pre 0 0,arW D.suf (arI D.pre).length 1,.p (.at_ 4000),.p (.at_ 4004)]++sY D.is)
def arC (D:eB)(r:AV)(m:M):Bool:=match r with
 |.tup [a,b]=>IJ (ZU D).length 206 2 (sY (tsL (IK D.rc D.pre))) a m&&IJ (ZU D).length 206 2 (sY (tsL (IK D.rc D.suf))) b m
 |_=>false
def aeO (a:List AV):List AV:=[.agg a,.lit (.bool false)]
noncomputable def FZ (B:aE)(D:eB):Bool:=match dR B iT JK 47 (aeO (bX (bQ 2 (ZU D)).2 (arP D)).1) {H:=tB (bQ 2 (ZU D)).1,nb:=(ZU D).length,nc:=(bX (bQ 2 (ZU D)).2 (arP D)).2}with
 |some (r,m)=>arC D r m&&zE (bQ 2 (ZU D)).1 m
 |none=>false
theorem aeP (B:aE):(List.range 10).all (fun k=>FZ B (aI k))=true:=by kernel_rfl
theorem aeQ (B:aE):(List.range 10).all (fun k=>FZ B (aI (10+k)))=true:=by kernel_rfl
theorem aeR (B:aE):(List.range 10).all (fun k=>FZ B (aI (20+k)))=true:=by kernel_rfl
theorem aeS (B:aE):(List.range 10).all (fun k=>FZ B (aI (30+k)))=true:=by kernel_rfl
section
variable {G:Nat->Prop}{w w':World}{D:eB}{ρ:Env}{B:aE}{a:AV}{x:Value}
structure F0 (G:Nat->Prop) (w:World) (D:eB) (pv sv nv mv:Value):Prop where
 a:nS G w 102 2 pv (pcL D.pre)
 b:nS G w 102 2 sv (pcL D.suf)
 na:D.pre=[]->pv=.slice none 0 0
 nb:D.suf=[]->sv=.slice none 0 0
 ne:∀g,pv.ownBlock=some g->sv.ownBlock≠some g
 on:nv.oneCell'=true
 om:mv.oneCell'=true
theorem F0.mono {G':Nat->Prop}{pv sv nv mv:Value}(h:F0 G w D pv sv nv mv)(hG:∀b,G b->b<w.heap.size->w'.heap[b]?=w.heap[b]?/\G' b):F0 G' w' D pv sv nv mv:=
 ⟨h.a.mono hG,h.b.mono hG,h.na,h.nb,h.ne,h.on,h.om⟩
theorem gams_drop:∀(n:Nat) {l:List AV} {x:List Value},aT ρ l=some x->aT ρ (l.drop n)=some (x.drop n)
 |0,_,_,h=>h
 |n+1,[],x,h=>by rw[aT]at h;injection h with h;subst h;rfl
 |n+1,a::l,x,h=>by
  obtain⟨p,q,_,h2,rfl⟩:=aG.1 h;exact gams_drop n h2
theorem rI:∀(l us:List Value),gT ρ B G w (sY l) us->∀j,j<l.length->us[j]?=l[j]?
 |[],_,_,j,hj=>absurd hj (Nat.not_lt_zero j)
 |v::l,_,h,j,hj=>by
  obtain⟨y,r,rfl,h1,h2⟩:=h
  cases j with
  |zero=>exact aEK some (show y=v from h1)
  |succ j=>exact rI l r h2 j (by simpa using hj)
theorem BH:∀l:List Value,hU B (sY l)
 |[]=>trivial
 |_::l=>⟨trivial,BH l⟩
theorem MW:∀l:List Value,lY ρ B G w (sY l) l
 |[]=>rfl
 |v::l=>⟨v,l,rfl,rfl,MW l⟩
theorem MX:∀(l:List (Int×List UInt8)),∀u∈pcL l,u.oneCell'=true:=fun l u hu=>by
 obtain⟨y,_,h⟩:=List.mem_flatMap.1 hu;simp only[aER,aFF,aGX]at h;rcases h with rfl|rfl<;>rfl
theorem MY (l:List (Int×List UInt8)):(pcL l).length=l.length*2:=by
 induction l with
 |nil=>rfl
 |cons x l ih=>
  show(_::_::pcL l).length=_
  simp only[aEN,ih]
  omega
theorem WD (h:oneA a=true)(hx:aO ρ a=some x):x.oneCell'=true:=by
 unfold oneA at h;split at h
 ·unfold aO fT at hx
  repeat' split at hx
  all_goals first|(injection hx with hx;subst hx;rfl)|cases hx
 ·unfold aO at hx;injection hx with hx
  subst hx;rfl
 ·cases h
theorem P6 {ρ0 ρ':Env}{m':M}(O:Out B G ρ0 w ρ' m' w')(hnew:∀b k q,0<=b->m'.H.get b=some k->ρ'.blk b=some q->w.heap.size<=q.1){l:List (Int×List UInt8)}(h:apY l a m'=true)(hx:aO ρ' a=some x):
  nS (fun g=>w.heap.size<=g) w' 102 2 x (pcL l)/\(l=[]->x=.slice none 0 0)/\∀g,x.ownBlock=some g->BF a<1000000/\∃k q,m'.H.get (BF a)=some k/\ρ'.blk (BF a)=some q/\q.1=g:=by
 cases l with
 |nil=>
  have:=eF (show jV a (.lit (.slice none 0 0))=true from h)
  subst this
  unfold aO at hx
  injection hx with hx
  subst hx
  exact⟨⟨none,0,0,rfl,aD1 _,by omega,rfl,.inl ⟨rfl,rfl⟩⟩,fun _=>rfl,fun g hg=>by simp[Value.ownBlock]at hg⟩
 |cons y l=>
  have h:(IJ 0 102 2 (sY (pcL (y::l))) a m'&&Nat.blt (BF a) 1000000)=true:=h
  rw[aD3]at h
  obtain⟨q1,q2,q3⟩:=rH O hnew h.1 hx (BH _) (vs:=pcL (y::l)) (by simp[sY]) fun us hu=>rI _ us hu
  exact⟨q2,(fun e=>by cases e),fun g hg=>⟨aEJ h.2,q3 g hg⟩⟩
def ZV (rc:Rc):List (Nat×Value):=[(4100,sB rc.nm),(4104,sB rc.pat),(4108,sB rc.sys),(4112,sB rc.dec),(4116,sB rc.grp),(4120,sB rc.mns),(4124,sB rc.pct),(4128,sB rc.cur)]
set_option maxRecDepth 100000 in
theorem akJ {E:eB}(hE:∀B,J4 B E=true)(h1:D.rc.pat=E.rc.pat)(h2:D.pre=E.pre)(h3:D.suf=E.suf)(h4:D.is=E.is)(w:World):
  Calls prog 5 #[.agg D.rc.l.toArray] w fun e w'=>∃pv sv nv mv,e=.returned (.agg (aY D pv sv nv mv).toArray)/\F0 (fun g=>w.heap.size<=g) w' D pv sv nv mv/\Below w.heap.size w w':=by
 have hc:=hE (bU w (ZV D.rc))
 unfold J4 at hc
 have hl:∀i x,(bU w (ZV D.rc)).A i=some x->i%2≠1:=qY (by kernel_rfl)
 have hp:lY (Env.ini (bU w (ZV D.rc)) (fun _=>none) fun _=>none) (bU w (ZV D.rc)) (fun _=>False) w (rcP E.rc.pat) D.rc.l:=by
  rw[<-h1];exact⟨_,_,rfl,cX rfl rfl,_,_,rfl,cP _,_,_,rfl,cX rfl rfl,_,_,rfl,cX rfl rfl,_,_,rfl,cX rfl rfl,_,_,rfl,cX rfl rfl,_,_,rfl,cX rfl rfl,_,_,rfl,cX rfl rfl,rfl⟩
 refine(mL hl (bY (bD aH aH aH aH) qX) (sh:=WC) (sv:=fun xs=>[.agg xs.toArray]) (fun ρ a xs h=>aG.2 ⟨_,[],by unfold aO;rw[h],rfl,rfl⟩) (nc0:=0) (ib:=[]) (ps:=rcP E.rc.pat) (chk:=fun r m=>apZ E r m) hc (by simp) (fun _=>none) (fun _=>none) (fun _ _=>rfl) (fun _ _=>rfl) (fun _ _ _ _ h=>by cases h) w (bG _ _ _) (fun _ _ h=>by cases h) (G:=fun _=>False) (fun _ _ h=>by cases h) (fun j x hj=>by simp at hj) D.rc.l hp).mono ?_
 rintro e w' ⟨x,ρ',r,m',rfl,hk,hx,O,hb,_,hnew⟩
 have hnew:∀b k q,0<=b->m'.H.get b=some k->ρ'.blk b=some q->w.heap.size<=q.1:=hnew
 unfold apZ at hk
 split at hk
 case h_2=>cases hk
 rename_i l
 unfold aO at hx
 split at hx
 case h_2=>cases hx
 rename_i ys hh
 injection hx with hx
 subst hx
 rw[aD3]at hk
 obtain⟨k1,k2⟩:=hk
 split at k2
 case h_2=>cases k2
 rename_i a b c d e hd
 simp only[aD3]at k2
 obtain⟨k3,k4,k5,k6,k7,k8⟩:=k2
 have hg:=gams_drop 8 hh
 rw[hd]at hg
 obtain⟨va,r1,g1,hq,e1⟩:=aG.1 hg
 obtain⟨vb,r2,g2,hr,rfl⟩:=aG.1 hq
 obtain⟨vc,r3,g3,hs,rfl⟩:=aG.1 hr
 obtain⟨vd,r4,g4,ht,rfl⟩:=aG.1 hs
 have hv:∀l:List Value,lJ (bU w (ZV D.rc)) (l.map .val):=fun l=>by
  induction l with
  |nil=>trivial
  |cons v l ih=>exact⟨trivial,ih⟩
 have hz:r4=D.is:=by
  rw[h4];exact BG _ _ (yF (B:=bU w (ZV D.rc)) O.has (fun n v hn ho _=>O.ats n v hn ho) _ e r4 k7 (hv _) ht)
 obtain⟨q8,_⟩:=O.mats (rcP E.rc.pat) l ys k1 ⟨⟨_,rfl⟩,trivial,⟨_,rfl⟩,⟨_,rfl⟩,⟨_,rfl⟩,⟨_,rfl⟩,⟨_,rfl⟩,⟨_,rfl⟩,trivial⟩ hh
 obtain⟨y0,_,e0,a0,y1,_,rfl,a1,y2,_,rfl,a2,y3,_,rfl,a3,y4,_,rfl,a4,y5,_,rfl,a5,y6,_,rfl,a6,y7,r,rfl,a7,_⟩:=q8
 rw[e0,dX rfl a0,aV a1,dX rfl a2,dX rfl a3,dX rfl a4,dX rfl a5,dX rfl a6,dX rfl a7]at e1
 have hf:ys=aY D va vb vc vd:=by
  rw[e0,dX rfl a0,aV a1,dX rfl a2,dX rfl a3,dX rfl a4,dX rfl a5,dX rfl a6,dX rfl a7,<-h1];have e1:r=va::vb::vc::vd::r4:=e1;rw[e1,hz];rfl
 obtain⟨p1,p2,p3⟩:=P6 O hnew k3 g1
 obtain⟨p4,p5,p6⟩:=P6 O hnew k4 g2
 rw[<-h2]at p1 p2
 rw[<-h3]at p4 p5
 refine⟨va,vb,vc,vd,by rw[hf],⟨p1,p4,p2,p5,fun g ha hb=>?_,WD k5 g3,WD k6 g4⟩,hb⟩
 obtain⟨hA,ka,qa,i1,i2,i3⟩:=p3 g ha
 obtain⟨_,kb,qb,j1,j2,j3⟩:=p6 g hb
 by_cases hi:BF a=BF b
 ·rw[hi,aG6]at k8;rw[show Nat.blt (BF b) 1000000=true from aG9 (by omega)]at k8
  cases k8
 ·exact O.rel.inj _ _ _ _ _ _ i1 j1 i2 j2 hi (i3.trans j3.symm)
theorem aeT {j:Nat}(hj:j<40)(w:World):
  Calls prog 5 #[.agg (aI j).rc.l.toArray] w fun e w'=>∃pv sv nv mv,e=.returned (.agg (aY (aI j) pv sv nv mv).toArray)/\F0 (fun g=>w.heap.size<=g) w' (aI j) pv sv nv mv/\Below w.heap.size w w':=by
 have h:=aD7.1 aeJ j (aEE.2 hj)
 obtain⟨r,hr,he⟩:=aG2.1 h
 have ha:∀B,J4 B (aI r)=true:=fun B=>by
  have hm:r∈[0,1,2,3,5]++([6,8,15,24,25]++[28,31,36,37]):=hr;rcases aEQ.1 hm with hm|hm
  ·exact aD7.1 (aeK B) r hm
  ·rcases aEQ.1 hm with hm|hm
   ·exact aD7.1 (aeL B) r hm
   ·exact aD7.1 (aeM B) r hm
 generalize aI j=D at he⊢
 generalize aI r=E at he ha
 simp only[anP,aD3,aEP]at he
 obtain⟨h1,h2,h3,h4,h5,h6,h7,h8⟩:=he
 exact akJ ha h1 h2 h3 (by unfold eB.is;rw[h4,h5,h6,h7,h8]) w
end
def sgD (D:eB)(d:Nat):Int:=if D.dg.getD d []=[UInt8.ofNat (48+d)]then d else -1
def sgA (D:eB)(d:Nat):List AV:=[.agg (D.rc.l.map .lit++([.atom 4000,.atom 4004,.atom 4008,.atom 4012]++D.is.map .lit)),.lit (jK d)]
noncomputable def F3 (B:aE)(D:eB)(d:Nat):Bool:=match dR B iT (bT (apV (D.rc.sys,D.dg))) 106 (sgA D d) {}with
 |some (r,_)=>fN 0 (.val (.int .i64 (sgD D d))) r
 |none=>false
theorem aeU (B:aE):(List.range 10).all (fun j=>(List.range 10).all fun d=>F3 B (aI j) d)=true:=by kernel_rfl
def aBH (d:Nat)(s:Int):List dO:=[⟨106,[.agg (lG 0 17),.val (jK d)],.val (.int .i64 s)⟩]
def rdC (d:Nat)(r:AV)(m:M):Bool:=match r with
 |.tup [.agg [x,y],e]=>fN 0 (.val (.bool false)) x&&(IJ 0 3 1 (sY [.int .i64 d]) y m&&fN 0 (.val (.int .i64 0)) e)
 |_=>false
def avZ (d:Nat)(a:List AV):List AV:=[.agg a,.lit (jK d)]
noncomputable def WE (B:aE)(d:Nat)(s:Int):Bool:=match dR B iT (bT (aBH d s)) 107 (avZ d (bX (bQ 0 []).2 (dH 0 17)).1) {H:=tB (bQ 0 []).1,nb:=([]:List IB).length,nc:=(bX (bQ 0 []).2 (dH 0 17)).2}with
 |some (r,m)=>rdC d r m&&zE (bQ 0 []).1 m
 |none=>false
theorem aeV (B:aE):(List.range 10).all (fun d=>WE B d d)=true:=by kernel_rfl
theorem aeW (B:aE):(List.range 10).all (fun d=>WE B d (-1))=true:=by kernel_rfl
theorem aeX (B:aE):(List.range 10).all (fun j=>(List.range 10).all fun d=>F3 B (aI (10+j)) d)=true:=by kernel_rfl
theorem aeY (B:aE):(List.range 10).all (fun j=>(List.range 10).all fun d=>F3 B (aI (20+j)) d)=true:=by kernel_rfl
theorem aeZ (B:aE):(List.range 10).all (fun j=>(List.range 10).all fun d=>F3 B (aI (30+j)) d)=true:=by kernel_rfl
section
variable {d:Nat}{B:aE}{G:Nat->Prop}{w:World}{D:eB}{pv nv mv:Value}
theorem ae0 {p:List UInt8×List (List UInt8)}(hp:p∈oW)(hd:d<10)(w:World):Calls prog 85 #[sB p.1,.int .i64 d] w fun e w'=>e=.returned (sB (p.2.getD d []))/\Below w.heap.size w w':=by
 have h:=aD7.1 (P5 (bU w []) p hp) d (aEE.2 hd);have hE:=zA (B:=bU w []) (fun i x h=>by cases h) qH h;refine(hE.2 w (bG _ _ _) [sB p.1,.int .i64 d] ⟨_,_,rfl,rfl,_,_,rfl,rfl,rfl⟩).mono ?_;rintro e w' ⟨x,rfl,hx,hb⟩;exact⟨by rw[show x=_ from hx],hb⟩
def sgP (D:eB)(d:Nat):List eG:=[.agg (D.rc.l.map .val++([.at_ 4000,.at_ 4004,.at_ 4008,.at_ 4012]++D.is.map .val)),.val (jK d)]
theorem mM:∀{a b:List eG} {x y:List Value},kW B G w a x->kW B G w b y->kW B G w (a++b) (x++y)
 |[],_,_,_,h,k=>by have:_=[]:=h;subst this;exact k
 |_::_,_,_,_,h,k=>by
  obtain⟨y,r,rfl,h1,h2⟩:=h;exact⟨y,_,rfl,h1,mM h2 k⟩
theorem MZ:∀l:List Value,kW B G w (l.map .val) l
 |[]=>rfl
 |v::l=>⟨v,l,rfl,rfl,MZ l⟩
theorem iA:∀{a b:List eG},lJ B a->lJ B b->lJ B (a++b)
 |[],_,_,h=>h
 |_::_,_,h,k=>⟨h.1,iA h.2 k⟩
set_option maxRecDepth 100000 in
theorem ae1 (hr:∀B,F3 B D d=true)(hp:(D.rc.sys,D.dg)∈oW){sv:Value}(h1:pv.oneCell'=true)(h2:sv.oneCell'=true)(h3:nv.oneCell'=true)(h4:mv.oneCell'=true)(w:World):
  Calls prog 106 #[.agg (aY D pv sv nv mv).toArray,jK d] w fun e w'=>e=.returned (.int .i64 (sgD D d))/\Below w.heap.size w w':=by
 obtain⟨B,hB⟩:∃B,B=bU w [(4000,pv),(4004,sv),(4008,nv),(4012,mv)]:=⟨_,rfl⟩
 have hc:∀i x,B.A i=some x->i%2≠1:=by rw[hB];exact qY (by kernel_rfl)
 have hu:eN B w:=by rw[hB];exact bG _ _ _
 have a1:B.A 4000=some pv:=by rw[hB];rfl
 have a2:B.A 4004=some sv:=by rw[hB];rfl
 have a3:B.A 4008=some nv:=by rw[hB];rfl
 have a4:B.A 4012=some mv:=by rw[hB];rfl
 have hrun:=hr B
 unfold F3 at hrun
 split at hrun
 case h_2=>cases hrun
 rename_i r m ha
 have ho:∀e∈apV (D.rc.sys,D.dg),aK B prog e:=fun e he=>by
  obtain⟨k,hk,rfl⟩:=aEZ.1 he;exact zA hc qH (aD7.1 (P5 B _ hp) k hk)
 have hE:aK B prog ⟨106,sgP D d,.val (.int .i64 (sgD D d))⟩:=
  sD hc (bY fS (bB ho)) (a:=sgA D d) (c:=0) rfl ⟨iA (uC _) (iA ⟨⟨_,a1⟩,⟨_,a2⟩,⟨_,a3⟩,⟨_,a4⟩,trivial⟩ (uC _)),trivial,trivial⟩ trivial (by
   show(match dR B iT (bT (apV (D.rc.sys,D.dg))) 106 (sgA D d) {}with|some (r,_)=>fN 0 (.val (.int .i64 (sgD D d))) r|none=>false)=true;rw[ha];exact hrun)
 refine(hE.2 w hu [.agg (aY D pv sv nv mv).toArray,jK d] ⟨_,_,rfl,⟨_,rfl,mM (MZ _) (mM ⟨_,_,rfl,⟨a1,h1⟩,_,_,rfl,⟨a2,h2⟩,_,_,rfl,⟨a3,h3⟩,_,_,rfl,⟨a4,h4⟩,rfl⟩ (MZ _))⟩,_,_,rfl,rfl,rfl⟩).mono ?_
 rintro e w' ⟨x,rfl,hx,hb⟩
 exact⟨by rw[show x=_ from hx],hb⟩
set_option maxRecDepth 100000 in
theorem ae2 {cs:List Value}{s:Int}(hl:cs.length=17)(hf:∀u∈cs,u.oneCell'=true)(hr:∀B,WE B d s=true)(hS:∀w,Calls prog 106 #[.agg cs.toArray,jK d] w fun e w'=>e=.returned (.int .i64 s)/\Below w.heap.size w w')(w:World):
  Calls prog 107 #[.agg cs.toArray,jK d] w fun e w'=>∃v,e=.returned (.tuple #[.agg #[.bool false,v],.int .i64 0])/\aC w' v [(d:Int)]/\dC w.heap.size v/\Below w.heap.size w w':=by
 obtain⟨B,hB⟩:∃B:aE,B=⟨fun _=>False,w,two cs []⟩:=⟨_,rfl⟩
 have hh:∀i x,B.A i=some x->i%2≠1:=by rw[hB];exact FY
 have hu:eN B w:=by rw[hB];exact⟨fun _ h=>False.elim h,fun _ h=>False.elim h⟩
 have hat:∀q v,cs[q]?=some v->B.A (8000+4*(0+q))=some v:=by rw[hB];exact fun q v hq=>P1 (by omega) hq
 have hK:∀g,¬B.K g:=by rw[hB];exact fun _ h=>h
 have ha:=hr B
 unfold WE at ha
 have hE:aK B prog ⟨106,[.agg (lG 0 17),.val (jK d)],.val (.int .i64 s)⟩:=by
  refine⟨⟨BE 17 0 fun q hq=>⟨_,hat q _ (aEB (by omega))⟩,trivial,trivial⟩,fun w1 _ xs hi=>?_⟩;obtain⟨x0,_,rfl,⟨ys,rfl,k1⟩,x1,_,rfl,k2,rfl⟩:=hi;rw[lH cs 0 ys hat (by rw[hl];exact k1),show x1=_ from k2];refine(hS w1).mono ?_;rintro e w' ⟨rfl,hb⟩;exact⟨_,rfl,rfl,hb⟩
 have hd:=oU (ρ0:=Env.ini B (fun _=>none) fun _=>none) (B:=B) (G:=fun _=>False) (w:=w) cs 0 fun q v hq=>⟨hat q v hq,hf v (aE6 hq)⟩
 rw[hl]at hd
 refine(mL hh (bY fS (bB (aD hE aH))) (sh:=avZ d) (sv:=fun xs=>[.agg xs.toArray,jK d]) (fun ρ a xs h=>aG.2 ⟨_,[jK d],by unfold aO;rw[h],rfl,rfl⟩) (nc0:=0) (ib:=[]) (ps:=dH 0 17) (chk:=fun r m=>rdC d r m) ha (by simp) (fun _=>none) (fun _=>none) (fun _ _=>rfl) (fun _ _=>rfl) (fun _ _ _ _ h=>by cases h) w hu (fun _ _ h=>by cases h) (G:=fun _=>False) (fun _ _ h=>by cases h) (fun j x hj=>by simp at hj) cs hd).mono ?_
 rintro e w' ⟨x,ρ',r,m',rfl,hk,hx,O,hb,_,hnew⟩
 have hnew:∀b k q,0<=b->m'.H.get b=some k->ρ'.blk b=some q->w.heap.size<=q.1:=hnew
 unfold rdC at hk
 split at hk
 case h_2=>cases hk
 rename_i a y e
 simp only[aD3]at hk
 obtain⟨k1,k2,k3⟩:=hk
 unfold aO at hx
 split at hx
 case h_2=>cases hx
 rename_i zs hn
 injection hx with hx
 subst hx
 obtain⟨z1,r1,g1,g2,rfl⟩:=aG.1 hn
 obtain⟨z2,r2,g3,g4,rfl⟩:=aG.1 g2
 have:r2=[]:=by
  unfold aT at g4;injection g4 with g4
  exact g4.symm
 subst this
 unfold aO at g1
 split at g1
 case h_2=>cases g1
 rename_i us ho
 injection g1 with g1
 subst g1
 obtain⟨u1,r3,j1,j2,rfl⟩:=aG.1 ho
 obtain⟨u2,r4,j3,j4,rfl⟩:=aG.1 j2
 have:r4=[]:=by
  unfold aT at j4;injection j4 with j4
  exact j4.symm
 subst this
 have e1:u1=_:=O.mat (.p (.val (.bool false))) a u1 k1 trivial j1
 have e2:z2=_:=O.mat (.p (.val (.int .i64 0))) e z2 k3 trivial g3
 subst e1 e2
 obtain⟨_,⟨A,n,c,rfl,hp,hs,ht,hA⟩,_⟩:=rH O hnew k2 j3 (BH _) (vs:=[.int .i64 d]) rfl fun us hu=>rI _ us hu
 have hv:n=1:=by simpa using ht.symm
 subst hv
 rcases hA with⟨_,h0⟩|⟨g,o,arr,rfl,hg,hz,_,hc⟩
 ·omega
 ·refine⟨_,rfl,⟨_,c,rfl,hp,hs,fun _=>⟨g,o,rfl,fun j hj=>?_⟩⟩,fun k hk=>?_,hb⟩
  ·have hC:j=0:=by simpa using hj
   subst hC;rw[aHM w' g _ _ _ _ hz,hc 0 (by simp)];rfl
  ·have:g=k:=by simpa [Value.ownBlock]using hk
   omega
theorem ae3 {sv:Value}(h1:pv.oneCell'=true)(h2:sv.oneCell'=true)(h3:nv.oneCell'=true)(h4:mv.oneCell'=true):∀u∈aY D pv sv nv mv,u.oneCell'=true:=fun u hu=>by
 simp only[aY,Rc.l,eB.is,aEQ,aER,aFF,aGX]at hu;rcases hu with(rfl|rfl|rfl|rfl|rfl|rfl|rfl|rfl)|(rfl|rfl|rfl|rfl)|(rfl|rfl|rfl|rfl|rfl)<;>first|rfl|assumption
theorem ZW {j:Nat}(hj:j<40)(hd:d<10)(hp:((aI j).rc.sys,(aI j).dg)∈oW){sv:Value}(h1:pv.oneCell'=true)(h2:sv.oneCell'=true)(h3:nv.oneCell'=true)(h4:mv.oneCell'=true)(w:World):
  Calls prog 107 #[.agg (aY (aI j) pv sv nv mv).toArray,jK d] w fun e w'=>∃v,e=.returned (.tuple #[.agg #[.bool false,v],.int .i64 0])/\aC w' v [(d:Int)]/\dC w.heap.size v/\Below w.heap.size w w':=by
 have hm:=aEE.2 hd
 have ha:∀B,F3 B (aI j) d=true:=fun B=>by
  rcases aEU j 20 with h|h
  ·rcases aEU j 10 with h|h
   ·exact aD7.1 (aD7.1 (aeU B) j (aEE.2 h)) d hm
   ·obtain⟨i,rfl⟩:∃i,j=10+i:=⟨j-10,by omega⟩;exact aD7.1 (aD7.1 (aeX B) i (aEE.2 (by omega))) d hm
  ·rcases aEU j 30 with h|h
   ·obtain⟨i,rfl⟩:∃i,j=20+i:=⟨j-20,by omega⟩;exact aD7.1 (aD7.1 (aeY B) i (aEE.2 (by omega))) d hm
   ·obtain⟨i,rfl⟩:∃i,j=30+i:=⟨j-30,by omega⟩;exact aD7.1 (aD7.1 (aeZ B) i (aEE.2 (by omega))) d hm
 generalize aI j=D at ha hp⊢
 have hS:=ae1 ha hp h1 h2 h3 h4
 have hs:sgD D d=d∨sgD D d= -1:=by unfold sgD;split<;>simp
 refine ae2 rfl (ae3 h1 h2 h3 h4) (s:=sgD D d) (fun B=>?_) hS w
 rcases hs with e|e
 ·rw[e];exact aD7.1 (aeV B) d hm
 ·rw[e];exact aD7.1 (aeW B) d hm
end
section
variable {w:World}{v pv nv mv:Value}
theorem ae5 {G0:Nat->Prop}{t sz:Nat}{ys:List Value}{n:Nat}(h:nS G0 w t sz v ys)(h1:∀u∈ys,u.oneCell'=true)(hn:ys.length=n*sz)(hs:0<sz)(hp:0<n):
  ∃q c,v.ownBlock=some q.1/\∀(B:aE) (G:Nat->Prop) (blk:Nat->Option (Nat×Nat×Nat×Nat)) (cap:Nat->Option Nat) (b i:Nat),blk b=some q->cap i=some c->MG (Env.ini B blk cap) B G w b ⟨t,sY ys,false⟩/\IsC (Env.ini B blk cap) B G w (.row b n sz i) v:=by
 obtain⟨A,n',c,rfl,ha,hd,hl,hA⟩:=h
 obtain rfl:n=n':=aHG hs (by omega)
 rcases hA with⟨_,hf⟩|⟨g,o,arr,rfl,_,hb,hg,hc⟩
 ·omega
 ·have hmul:ys.length<=c*sz:=by rw[hl];exact aE4 sz ha
  refine⟨(g,o,arr.size,ys.length),c,by simp[Value.ownBlock],fun B G blk cap b i hq hi=>⟨?_,?_⟩⟩
  ·have hlen:(sY ys).length=ys.length:=by simp[sY]
   exact⟨g,o,arr.size,arr,ys,by rw[hlen];exact hq,hb,rfl,by rw[hlen];omega,MW ys,h1,fun i hi=>hc i (by rw[hlen]at hi;exact hi),fun h=>by cases h⟩
  ·show aO _ (.slc b 0 n sz (.lo i 0))=some _;unfold aO fT;simp only[Env.ini,hq,hi];rw[aD6 (by simp only[Nat.sub_zero,aEV,aE2];omega)];simp
theorem WG (l:List (List UInt8)):(tsL l).length=l.length*2:=by
 induction l with
 |nil=>rfl
 |cons x l ih=>
  show(_::_::tsL l).length=_
  simp only[aEN,ih]
  omega
theorem ap0 (l:List (List UInt8))(j:Nat)(h:j<l.length):(tsL l)[j*2]?=some (.bool false)/\(tsL l)[j*2+1]?=some (sB (l.getD j [])):=by
 induction l generalizing j with
 |nil=>exact absurd h (Nat.not_lt_zero j)
 |cons x l ih=>
  have e:tsL (x::l)=.bool false::sB x::tsL l:=rfl
  rw[e]
  cases j with
  |zero=>exact⟨rfl,rfl⟩
  |succ j=>
   have:=ih j (by simpa using h)
   rw[show(j+1)*2=j*2+1+1 by omega]
   exact this
theorem P8 {G:Nat->Prop}{t:Nat}{l:List (List UInt8)}(h:nS G w t 2 v (tsL l)):eI w v l:=by
 obtain⟨A,n,c,rfl,ha,hd,hl,hA⟩:=h;rw[WG]at hl;obtain rfl:n=l.length:=by omega
 refine⟨A,c,rfl,ha,trivial,fun hp=>?_⟩;rcases hA with⟨_,hf⟩|⟨g,o,arr,rfl,_,hb,_,hc⟩
 ·omega
 ·refine⟨g,o,rfl,fun j hj=>?_⟩;obtain⟨h1,h2⟩:=ap0 l j hj;have hlen:=WG l;exact⟨by rw[aHM w g _ _ _ _ hb,hc _ (by omega)];exact h1,by rw[aHM w g _ _ _ _ hb,show o+j*2+1=o+(j*2+1) by omega,hc _ (by omega)];exact h2⟩
theorem WH (l:List (Int×List UInt8)):(arI l).length<=1:=by cases l<;>simp[arI]
set_option maxRecDepth 100000 in
theorem akL {D:eB}(hE:∀B,FZ B D=true){sv:Value}(L:F0 (fun _=>True) w D pv sv nv mv):
  Calls prog 47 #[.agg (aY D pv sv nv mv).toArray,.bool false] w fun e w'=>∃va vb,e=.returned (.tuple #[va,vb])/\eI w' va (IK D.rc D.pre)/\eI w' vb (IK D.rc D.suf)/\Below w.heap.size w w':=by
 obtain⟨B,hB⟩:∃B,B=bU w [(4000,nv),(4004,mv)]:=⟨_,rfl⟩
 have hc:=hE B
 unfold FZ at hc
 have hl:∀i x,B.A i=some x->i%2≠1:=by rw[hB];exact qY (by kernel_rfl)
 have hu:eN B w:=by rw[hB];exact bG _ _ _
 have hK:∀g,¬B.K g:=by rw[hB];exact fun _ h=>h
 have a1:B.A 4000=some nv:=by rw[hB];rfl
 have a2:B.A 4004=some mv:=by rw[hB];rfl
 obtain⟨blk,cap,p1,p2,p3,p4,p5,p6⟩:∃(blk:Nat->Option (Nat×Nat×Nat×Nat)) (cap:Nat->Option Nat),(∀i,(ZU D).length<=i->blk i=none)/\(∀i,2<=i->cap i=none)/\(∀b b' q q',blk b=some q->blk b'=some q'->b≠b'->q.1≠q'.1)/\
   (∀j x,(ZU D)[j]?=some x->MG (Env.ini B blk cap) B (fun _=>False) w j x)/\IsC (Env.ini B blk cap) B (fun _=>False) w (arW D.pre 0 0) pv/\IsC (Env.ini B blk cap) B (fun _=>False) w (arW D.suf (arI D.pre).length 1) sv:=by
  have ha:=L.a
  have hb:=L.b
  have hg:=L.na
  have hh:=L.nb
  have hf:=L.ne
  unfold ZU
  cases h1:D.pre with
  |nil=>
   cases h2:D.suf with
   |nil=>exact⟨fun _=>none,fun _=>none,fun _ _=>rfl,fun _ _=>rfl,(fun _ _ _ _ h=>by cases h),(fun _ _ h=>by cases h),hg h1,hh h2⟩
   |cons x l=>
    rw[h2]at hb
    obtain⟨q,c,_,hq⟩:=ae5 hb (MX _) (MY _) (by decide) (aHK _)
    obtain⟨k1,k2⟩:=hq B (fun _=>False) (fun i=>if i=0 then some q else none) (fun i=>if i=1 then some c else none) 0 1 rfl rfl
    refine⟨_,_,fun i hi=>aD4 (by simp[arI]at hi;omega),fun i hi=>aD4 (by omega),fun b b' q q' e1 e2 hf=>?_,fun j x hj=>?_,hg h1,k2⟩
    ·by_cases h0:b=0
     ·rw[aD4 (by omega)]at e2;cases e2
     ·rw[aD4 h0]at e1;cases e1
    ·cases j with
     |zero=>injection hj with hj;subst hj;exact k1
     |succ j=>simp[arI]at hj
  |cons y m=>
   rw[h1]at ha
   obtain⟨q,c,o1,hq⟩:=ae5 ha (MX _) (MY _) (by decide) (aHK _)
   cases h2:D.suf with
   |nil=>
    obtain⟨k1,k2⟩:=hq B (fun _=>False) (fun i=>if i=0 then some q else none) (fun i=>if i=0 then some c else none) 0 0 rfl rfl
    refine⟨_,_,fun i hi=>aD4 (by simp[arI]at hi;omega),fun i hi=>aD4 (by omega),fun b b' q q' e1 e2 hf=>?_,fun j x hj=>?_,k2,hh h2⟩
    ·by_cases h0:b=0
     ·rw[aD4 (by omega)]at e2;cases e2
     ·rw[aD4 h0]at e1;cases e1
    ·cases j with
     |zero=>injection hj with hj;subst hj;exact k1
     |succ j=>simp[arI]at hj
   |cons x l=>
    rw[h2]at hb
    obtain⟨q2,c2,o2,hn⟩:=ae5 hb (MX _) (MY _) (by decide) (aHK _)
    obtain⟨k1,k2⟩:=hq B (fun _=>False) (fun i=>if i=0 then some q else if i=1 then some q2 else none) (fun i=>if i=0 then some c else if i=1 then some c2 else none) 0 0 rfl rfl
    obtain⟨k3,k4⟩:=hn B (fun _=>False) (fun i=>if i=0 then some q else if i=1 then some q2 else none) (fun i=>if i=0 then some c else if i=1 then some c2 else none) 1 1 rfl rfl
    have hd:q.1≠q2.1:=fun e=>hf q.1 o1 (by rw[e];exact o2)
    refine⟨_,_,fun i hi=>?_,fun i hi=>?_,fun b b' q q' e1 e2 hf=>?_,fun j x hj=>?_,k2,k4⟩
    ·have:2<=i:=by simpa [arI]using hi
     rw[aD4 (by omega),aD4 (by omega)]
    ·rw[aD4 (by omega),aD4 (by omega)]
    ·by_cases h0:b=0
     ·rw[aD6 h0]at e1;by_cases h3:b'=1
      ·rw[aD4 (by omega),aD6 h3]at e2;injection e1 with e1
       injection e2 with e2
       subst e1 e2;exact hd
      ·rw[aD4 (by omega),aD4 h3]at e2;cases e2
     ·rw[aD4 h0]at e1;by_cases h3:b=1
      ·rw[aD6 h3]at e1;by_cases h4:b'=0
       ·rw[aD6 h4]at e2;injection e1 with e1
        injection e2 with e2
        subst e1 e2;exact fun e=>hd e.symm
       ·rw[aD4 h4,aD4 (by omega)]at e2;cases e2
      ·rw[aD4 h3]at e1;cases e1
    ·match j,hj with
     |0,hj=>injection hj with hj;subst hj;exact k1
     |1,hj=>injection hj with hj;subst hj;exact k3
     |j+2,hj=>simp[arI]at hj
 have hlen:(ZU D).length<=2:=by
  unfold ZU;rw[aD2];have:=WH D.pre;have:=WH D.suf;omega
 refine(mL hl (bY (bD aH aH aH aH) qX) (sh:=aeO) (sv:=fun xs=>[.agg xs.toArray,.bool false]) (fun ρ a xs h=>aG.2 ⟨_,[.bool false],by unfold aO;rw[h],rfl,rfl⟩) (nc0:=2) (ib:=ZU D) (ps:=arP D) (chk:=fun r m=>arC D r m) hc (by omega) blk cap p1 p2 p3 w hu (fun _ _ _ h=>hK _ h) (G:=fun _=>False) (fun _ _ _ h=>h) p4 (aY D pv sv nv mv)
  (iS (MW _) (iS ⟨_,_,rfl,p5,_,_,rfl,p6,_,_,rfl,cX a1 L.on,_,_,rfl,cX a2 L.om,rfl⟩ (MW _)))).mono ?_
 rintro e w' ⟨x,ρ',r,m',rfl,hk,hx,O,hb,_,hnew⟩
 unfold arC at hk
 split at hk
 case h_2=>cases hk
 rename_i a b
 rw[aD3]at hk
 unfold aO at hx
 split at hx
 case h_2=>cases hx
 rename_i zs ho
 injection hx with hx
 subst hx
 obtain⟨z1,r1,g1,g2,rfl⟩:=aG.1 ho
 obtain⟨z2,r2,g3,g4,rfl⟩:=aG.1 g2
 have:r2=[]:=by
  unfold aT at g4;injection g4 with g4
  exact g4.symm
 subst this
 obtain⟨_,q1,_⟩:=rH O hnew hk.1 g1 (BH _) (vs:=tsL (IK D.rc D.pre)) (by simp[sY]) fun us hu=>rI _ us hu
 obtain⟨_,q2,_⟩:=rH O hnew hk.2 g3 (BH _) (vs:=tsL (IK D.rc D.suf)) (by simp[sY]) fun us hu=>rI _ us hu
 exact⟨z1,z2,rfl,P8 q1,P8 q2,hb⟩
theorem ae6 {j:Nat}(hj:j<40){sv:Value}(L:F0 (fun _=>True) w (aI j) pv sv nv mv):
  Calls prog 47 #[.agg (aY (aI j) pv sv nv mv).toArray,.bool false] w fun e w'=>∃va vb,e=.returned (.tuple #[va,vb])/\eI w' va (IK (aI j).rc (aI j).pre)/\eI w' vb (IK (aI j).rc (aI j).suf)/\Below w.heap.size w w':=by
 have ha:∀B,FZ B (aI j)=true:=fun B=>by
  rcases aEU j 20 with h|h
  ·rcases aEU j 10 with h|h
   ·exact aD7.1 (aeP B) j (aEE.2 h)
   ·obtain⟨i,rfl⟩:∃i,j=10+i:=⟨j-10,by omega⟩;exact aD7.1 (aeQ B) i (aEE.2 (by omega))
  ·rcases aEU j 30 with h|h
   ·obtain⟨i,rfl⟩:∃i,j=20+i:=⟨j-20,by omega⟩;exact aD7.1 (aeR B) i (aEE.2 (by omega))
   ·obtain⟨i,rfl⟩:∃i,j=30+i:=⟨j-30,by omega⟩;exact aD7.1 (aeS B) i (aEE.2 (by omega))
 generalize aI j=D at ha L⊢
 exact akL ha L
end
set_option maxRecDepth 100000 in
theorem M8 (v:Value)(a:List Int)(m:Nat)(w:World)(ha:aC w v a)(la:a.length<=100)(h1:1<=m)(hm:m<=100):
  Calls prog 42 #[v,.int .i64 (-(m:Int))] w fun e w'=>∃v',e=.returned v'/\w'.ownsRow w.heap.size 3 1 v' (a.take (a.length-m)).length (ints (a.take (a.length-m)))/\Below w.heap.size w w':=by
 obtain⟨i0,hi,hd,hf,hg⟩:=aHT dI
 obtain⟨A,c,rfl⟩:=ha.form
 obtain⟨k,hk⟩:∃k,a.length-m=k:=⟨_,rfl⟩
 have hh:k<=c:=by
  obtain⟨A',c',he,h0,_,_⟩:=ha;injection he with _ _ e3
  omega
 have hI:=ha.take_ k (by omega)
 have hl:(a.take k).length=k:=by simp;omega
 obtain⟨n,hn⟩:∃n,a.length=n:=⟨_,rfl⟩
 rw[hn]at hk la
 rw[hn,hk]
 obtain⟨z,hz⟩:∃z:Int,-(m:Int)=z:=⟨_,rfl⟩
 rw[hz]
 have ho:z<0:=by omega
 obtain⟨y,hy⟩:∃y:Int,(n:Int)+z=y:=⟨_,rfl⟩
 have hp:IntKind.i64.wrap ((n:Int)+z)=y:=by rw[hy];exact aR _ (by omega) (by omega)
 have hq:max y 0=(k:Int):=by omega
 have hr:k<=n:=by omega
 obtain⟨R,hR⟩:∃R,a.take k=R:=⟨_,rfl⟩
 rw[hR]at hI hl⊢
 rw[hl]
 have HI:=aHL hI
 have HL:=aHL hl
 clear hI ha hy hz hR hl hk hn
 go_enter func42,ntmps42
 go_wp2_with(first
  |(at_builtin
    refine aM _ rfl _ _ 22 rfl w.heap.size 3 i0 underlying22 hi hd hf hg (.slice none 0 0) 0 [] (by simp[Act.eval,Act.put]) (aHN _ _ _ _) (.slice A k c) R (by simp[Act.eval,Act.put]) HI.out (by have:=HL.out;omega) (aD1 _) ?_
    intro v3 w3 hb hc
    have X3:Aside (w3.ownsRow w.heap.size 3 1 v3 k (ints R)/\Below w.heap.size w w3):=⟨by rw[HL.out]at hb;simpa using hb,(Below.refl w.heap.size w).grown hc (aD1 _) (fun j hj=>by simp[Value.ownBlock]at hj)⟩
    clear hb hc)
  |fail)
 go_ret
 exact⟨_,rfl,X3.out.1,X3.out.2⟩
theorem afX {N:Nat}{w:World}{t:Nat}{v:Value}{l:List Int}(h:nS (fun g=>N<=g) w t 1 v (ints l)):aC w v l/\cW N v l:=by
 obtain⟨A,n,c,rfl,ha,hd,hl,hA⟩:=h;rw[aQ,aHI]at hl;subst hl;rcases hA with⟨_,h0⟩|⟨g,o,arr,rfl,hg,hb,_,hc⟩
 ·exact⟨⟨A,c,rfl,ha,hd,fun hp=>by omega⟩,fun hp=>by omega⟩
 ·refine⟨⟨_,c,rfl,ha,hd,fun _=>⟨g,o,rfl,fun j hj=>?_⟩⟩,fun _ k hk=>?_⟩
  ·rw[aHM w g _ _ _ _ hb,hc j (by rw[aQ];exact hj),mC l j hj]
  ·have:g=k:=by simpa [Value.ownBlock]using hk
   omega
def ap9 (r:AV)(m:M):Bool:=match r with
 |.agg [x,y,z]=>fN 0 (.val (.bool false)) x&&(IJ 0 3 1 (sY (ints [1])) y m&&fN 0 (.val (.int .i64 2)) z)
 |_=>false
noncomputable def av6 (B:aE):Bool:=match dR B iT JK 217 ((fun _=>[.lit (.bool false),.lit (.int .i64 2)]) (bX (bQ 0 []).2 []).1) {H:=tB (bQ 0 []).1,nb:=([]:List IB).length,nc:=(bX (bQ 0 []).2 []).2}with
 |some (r,m)=>ap9 r m&&zE (bQ 0 []).1 m
 |none=>false
theorem ak3 (B:aE):av6 B=true:=by kernel_rfl
set_option maxRecDepth 100000 in
theorem aaP (w:World):Calls prog 217 #[.bool false,.int .i64 2] w fun e w'=>∃v,e=.returned (dv v ⟨false,[1],2⟩)/\aC w' v [1]/\cW w.heap.size v [1]/\Below w.heap.size w w':=by
 have ha:=ak3 (bU w []);unfold av6 at ha;refine(mL (B:=bU w []) (fun i x h=>by cases h) (bY fS qX) (sh:=fun _=>[.lit (.bool false),.lit (.int .i64 2)]) (sv:=fun _=>[.bool false,.int .i64 2]) (fun ρ a xs h=>aG.2 ⟨_,_,rfl,aG.2 ⟨_,[],rfl,rfl,rfl⟩,rfl⟩) (nc0:=0) (ib:=[]) (ps:=[]) (chk:=fun r m=>ap9 r m) ha (by simp) (fun _=>none) (fun _=>none) (fun _ _=>rfl) (fun _ _=>rfl) (fun _ _ _ _ h=>by cases h) w (bG _ _ _) (fun _ _ h=>by cases h) (G:=fun _=>False) (fun _ _ h=>by cases h) (fun j x hj=>by simp at hj) [] rfl).mono ?_;rintro e w' ⟨x,ρ',r,m',rfl,hk,hx,O,hb,_,hnew⟩;have hnew:∀b k q,0<=b->m'.H.get b=some k->ρ'.blk b=some q->w.heap.size<=q.1:=hnew;unfold ap9 at hk;split at hk
 case h_2=>cases hk
 rename_i a y z;simp only[aD3]at hk;obtain⟨k1,k2,k3⟩:=hk;unfold aO at hx;split at hx
 case h_2=>cases hx
 rename_i zs hc;injection hx with hx
 subst hx;obtain⟨z1,r1,g1,g2,rfl⟩:=aG.1 hc;obtain⟨z2,r2,g3,g4,rfl⟩:=aG.1 g2;obtain⟨z3,r3,g5,g6,rfl⟩:=aG.1 g4
 have:r3=[]:=by
  unfold aT at g6;injection g6 with g6
  exact g6.symm
 subst this;have e1:z1=_:=O.mat (.p (.val (.bool false))) a z1 k1 trivial g1;have e2:z3=_:=O.mat (.p (.val (.int .i64 2))) z z3 k3 trivial g5;subst e1 e2;obtain⟨_,q,_⟩:=rH O hnew k2 g3 (BH _) (vs:=ints [1]) rfl fun us hu=>rI _ us hu
 obtain⟨h1,h2⟩:=afX q;exact⟨z2,rfl,h1,h2,hb⟩
theorem afY (K q:Nat):al K (q:Int)=⟨false,bE q,K⟩:=by
 unfold al;rw[aEC (by omega)];rfl
set_option maxRecDepth 100000 in
theorem QO (v:Value)(d:Dc)(m:Nat)(w:World)(hm:m=0∨m=1)(ht:aL d=d)(hn:d.neg=false)(hs:d.s=2+(m+1))(ha:aC w v d.l)(da:Dg d.l)(hl:d.l.length<=40):
  Calls prog 216 #[dv v d,.int .i64 2] w fun e w'=>∃sl,e=.returned (dv sl ⟨false,bE (num d.l/10^(m+1)),2⟩)/\aC w' sl (bE (num d.l/10^(m+1)))/\cW w.heap.size sl (bE (num d.l/10^(m+1)))/\Below w.heap.size w w':=by
 have hg:=(GI da (m+1)).1
 have hd:bW (d.l.take (d.l.length-(m+1)))=bE (num d.l/10^(m+1)):=by rw[dZ (da.take _),hg]
 obtain⟨q,hq⟩:∃q,bE (num d.l/10^(m+1))=q:=⟨_,rfl⟩
 rw[hq]at hd⊢
 have db:Dg (d.l.take (d.l.length-(m+1))):=da.take _
 obtain⟨tk,hc⟩:∃t,d.l.take (d.l.length-(m+1))=t:=⟨_,rfl⟩
 have la:tk.length<=40:=by rw[<-hc];simp;omega
 rw[hc]at hd db
 let L:=nD 3 d.l++nD 5 tk++nD 6 q
 have h3:cG (bU w L) 3 d.l:=⟨by decide,rfl⟩
 have h5:cG (bU w L) 5 tk:=⟨by decide,rfl⟩
 have h6:cG (bU w L) 6 q:=⟨by decide,rfl⟩
 have hA:dW (bU w L) (.val (.bool false)) 3 (.val (.int .i64 (2+(m+1):Nat))) d:=⟨h3,by rw[hn];exact .val _,by rw[hs];exact .val _⟩
 have hR:dW (bU w L) (.val (.bool false)) 6 (.val (.int .i64 2)) ⟨false,q,2⟩:=⟨h6,.val _,.val _⟩
 have h:aK (bU w L) prog ⟨216,[dJ (.val (.bool false)) 3 (.val (.int .i64 (2+(m+1):Nat))),.val (.int .i64 2)],dJ (.val (.bool false)) 6 (.val (.int .i64 2))⟩:=by
  refine run_mk (by kernel_rfl) rfl (T:=iT) fS
   (orc:=bT [⟨21,[dJ (.val (.bool false)) 3 (.val (.int .i64 (2+(m+1):Nat)))],dJ (.val (.bool false)) 3 (.val (.int .i64 (2+(m+1):Nat)))⟩,⟨42,[.ls 3,.val (.int .i64 (-((m+1:Nat):Int)))],.ls 5⟩,⟨40,[.ls 5],.ls 6⟩]) (bB ?_) ⟨hA.wf,trivial,trivial⟩ hR.wf (by rcases hm with rfl|rfl<;>kernel_rfl)
  refine aD (sN hA hA ht da (by omega) (by omega)) (aD (aU [DA h3,rP (.val (.int .i64 (-((m+1:Nat):Int))))] (ZJ h5) ?_) (aD (aU [DA h5] (ZJ h6) ?_) aH))
  ·rintro w _ ⟨v,_,rfl,hv,_,_,rfl,rfl,rfl⟩;have:=M8 v d.l (m+1) w hv (by omega) (by omega) (by omega);rw[hc]at this;exact this.mono (by rintro e w' ⟨sl,rfl,ho,hb⟩;exact⟨_,rfl,⟨aC.of_own ho,eH ho (aD1 _)⟩,hb⟩)
  ·rintro w _ ⟨v,_,rfl,hv,rfl⟩;have:=gS v _ w hv db (by omega);rw[hd]at this;exact this.mono (by rintro e w' ⟨sl,rfl,ho,hb⟩;exact⟨_,rfl,⟨aC.of_own ho,eH ho (aD1 _)⟩,hb⟩)
 refine(h.2 w (bG _ _ _) [dv v d,.int .i64 2] ⟨_,_,rfl,hA.inn ha (fun _ _=>trivial),_,_,rfl,rfl,rfl⟩).mono ?_
 rintro e w' ⟨x,rfl,hx,hb⟩
 obtain⟨sl,rfl,hi,hf⟩:=hR.out2 hx
 exact⟨sl,rfl,hi,hf,hb⟩
set_option maxRecDepth 100000 in
theorem M9 (v:Value)(d:Dc)(w:World)(ht:aL d=d)(hn:d.neg=false)(hs:d.s<=2)(ha:aC w v d.l)(da:Dg d.l)(hl:d.l.length<=40):
  Calls prog 218 #[dv v d,.int .i64 2] w fun e w'=>∃sl,e=.returned (.tuple #[dv sl ⟨false,bE (num d.l*10^(2-d.s)),2⟩,.int .i64 0])/\aC w' sl (bE (num d.l*10^(2-d.s)))/\cW w.heap.size sl (bE (num d.l*10^(2-d.s)))/\Below w.heap.size w w':=by
 obtain⟨s,hd⟩:∃s,d.s=s:=⟨_,rfl⟩
 rw[hd]at hs⊢
 have hc:s=0∨s=1∨s=2:=by omega
 have hg:bW (aZ d.l (2-s))=bE (num d.l*10^(2-s)):=by rw[dZ (cJ da _),tR]
 obtain⟨q,hq⟩:∃q,bE (num d.l*10^(2-s))=q:=⟨_,rfl⟩
 rw[hq]at hg⊢
 let L:=nD 3 d.l++nD 5 (aZ d.l (2-s))++nD 6 q
 have h3:cG (bU w L) 3 d.l:=⟨by decide,rfl⟩
 have h5:cG (bU w L) 5 (aZ d.l (2-s)):=⟨by decide,rfl⟩
 have h6:cG (bU w L) 6 q:=⟨by decide,rfl⟩
 have hA:dW (bU w L) (.val (.bool false)) 3 (.val (.int .i64 s)) d:=⟨h3,by rw[hn];exact .val _,by rw[hd];exact .val _⟩
 have hR:dW (bU w L) (.val (.bool false)) 6 (.val (.int .i64 2)) ⟨false,q,2⟩:=⟨h6,.val _,.val _⟩
 have h:aK (bU w L) prog ⟨218,[dJ (.val (.bool false)) 3 (.val (.int .i64 s)),.val (.int .i64 2)],.tup [dJ (.val (.bool false)) 6 (.val (.int .i64 2)),.val (.int .i64 0)]⟩:=by
  refine run_mk (by kernel_rfl) rfl (T:=iT) fS
   (orc:=bT [⟨176,[dJ (.val (.bool false)) 3 (.val (.int .i64 s))],.val (.bool true)⟩,⟨21,[dJ (.val (.bool false)) 3 (.val (.int .i64 s))],dJ (.val (.bool false)) 3 (.val (.int .i64 s))⟩,⟨42,[.ls 3,.val (.int .i64 (2-s:Nat))],.ls 5⟩,⟨40,[.ls 5],.ls 6⟩]) (bB ?_) ⟨hA.wf,trivial,trivial⟩ ⟨hR.wf,trivial,trivial⟩ (by rcases hc with hc|hc|hc<;>(rw[hc];kernel_rfl))
  refine aD (rF hA da (by omega)) (aD (sN hA hA ht da (by omega) (by omega)) (aD (aU [DA h3,rP (.val (.int .i64 (2-s:Nat)))] (ZJ h5) ?_) (aD (aU [DA h5] (ZJ h6) ?_) aH)))
  ·rintro w _ ⟨v,_,rfl,hv,_,_,rfl,rfl,rfl⟩;exact(BX v d.l (2-s) w hv (by omega) (by omega)).mono (by rintro e w' ⟨sl,rfl,ho,hb⟩;exact⟨_,rfl,⟨aC.of_own ho,eH ho (aD1 _)⟩,hb⟩)
  ·rintro w _ ⟨v,_,rfl,hv,rfl⟩;have:=gS v _ w hv (cJ da _) (by rw[bV];omega);rw[hg]at this;exact this.mono (by rintro e w' ⟨sl,rfl,ho,hb⟩;exact⟨_,rfl,⟨aC.of_own ho,eH ho (aD1 _)⟩,hb⟩)
 refine(h.2 w (bG _ _ _) [dv v d,.int .i64 2] ⟨_,_,rfl,hA.inn ha (fun _ _=>trivial),_,_,rfl,rfl,rfl⟩).mono ?_
 rintro e w' ⟨x,rfl,⟨ys,rfl,p,_,rfl,hp,q,_,rfl,hq,rfl⟩,hh⟩
 obtain⟨sl,rfl,hi,hf⟩:=hR.out2 hp
 exact⟨sl,by rw[show q=.int .i64 0 from hq],hi,hf,hh⟩
def dP (k:Nat)(q:eG):eG:=dJ (.val (.bool false)) k q
def toT (n:Nat)(o:Bool):Tb:=match n with
 |0=>mR [] [] [] [⟨6,.lit (.int .i64 0)⟩]
 |n+1=>tbE (mR [⟨.rem,.atom 600,.lit (.int .i64 2),.lit (.int .i64 (if o then 1 else 0))⟩] [] [] [⟨6,.lit (.int .i64 (n+1:Nat))⟩]) [⟨6,n,.atom 600⟩]
def toE (m:Nat)(c:Int):List dO:=[⟨176,[dP 3 (.val (.int .i64 (2+(m+1):Nat)))],.val (.bool true)⟩,⟨216,[dP 3 (.val (.int .i64 (2+(m+1):Nat))),.val (.int .i64 2)],dP 6 (.val (.int .i64 2))⟩,
 ⟨22,[dP 6 (.val (.int .i64 2)),dP 3 (.val (.int .i64 (2+(m+1):Nat)))],.val (.int .i64 (-1))⟩,⟨217,[.val (.bool false),.val (.int .i64 2)],dP 7 (.val (.int .i64 2))⟩,
 ⟨178,[dP 6 (.val (.int .i64 2)),dP 7 (.val (.int .i64 2))],.tup [dP 8 (.at_ 612),.val (.int .i64 0)]⟩,⟨218,[dP 8 (.at_ 612),.val (.int .i64 2)],.tup [dP 9 (.val (.int .i64 2)),.val (.int .i64 0)]⟩,
 ⟨178,[dP 3 (.val (.int .i64 (2+(m+1):Nat))),dJ (.val (.bool true)) 6 (.val (.int .i64 2))],.tup [dP 10 (.at_ 604),.val (.int .i64 0)]⟩,⟨178,[dP 9 (.val (.int .i64 2)),dJ (.val (.bool true)) 3 (.val (.int .i64 (2+(m+1):Nat)))],.tup [dP 11 (.at_ 608),.val (.int .i64 0)]⟩,
 ⟨22,[dP 10 (.at_ 604),dP 11 (.at_ 608)],.val (.int .i64 c)⟩]
def upC (c:Int)(o:Bool):Bool:=decide (0<c) || (decide (c=0)&&o)
noncomputable def toR (B:aE)(m n:Nat)(c:Int)(o:Bool):Bool:=match dR B (toT n o) (bT (toE m c)) 179 (eW 0 [dP 3 (.val (.int .i64 (2+(m+1):Nat))),.val (.int .i64 2),.val (.int .i64 6)]).1 {nc:=(eW 0 [dP 3 (.val (.int .i64 (2+(m+1):Nat))),.val (.int .i64 2),.val (.int .i64 6)]).2}with
 |some (r,_)=>fN (eW 0 [dP 3 (.val (.int .i64 (2+(m+1):Nat))),.val (.int .i64 2),.val (.int .i64 6)]).2 (.tup [dP (if upC c (o&&Nat.blt 0 n)then 9 else 6) (.val (.int .i64 2)),.val (.int .i64 0)]) r
 |none=>false
theorem ak4 (B:aE)(m:Nat)(hm:m=0∨m=1):((List.range 9).all fun n=>[true,false].all fun o=>toR B m n (-1) o&&(toR B m n 0 o&&toR B m n 1 o))=true:=by
 rcases hm with rfl|rfl<;>kernel_rfl
section
variable {q:Nat}
theorem DM {K s:Nat}:nC K ⟨false,bE q,s⟩=((q*10^(K-s):Nat):Int):=by
 unfold nC;rw[aD4 (by simp),eK]
theorem ak5 (V:Nat):(if upC (eS ((V:Int)-((V/100*100:Nat):Int)) ((((V/100+1)*100:Nat):Int)-(V:Int))) (decide (V/100%2=1))=true then V/100+1 else V/100)=fH 2 V:=by
 unfold fH upB;obtain⟨q,hq⟩:∃q,V/100=q:=⟨_,rfl⟩;obtain⟨r,hr⟩:∃r,V%100=r:=⟨_,rfl⟩;have hV:V=q*100+r:=by omega
 rw[show(10:Nat)^2=100 from rfl,hq,hr];have h1:(V:Int)-((q*100:Nat):Int)=r:=by omega
 have h2:(((q+1)*100:Nat):Int)-(V:Int)=100-(r:Int):=by omega
 rw[h1,h2];have hl:r<100:=by omega
 rcases aGY (2*r) 100 with h|h|h
 ·rw[eU (by omega)];have e1:decide (100<2*r)=false:=aEC (by omega);have e2:decide (2*r=100)=false:=aEC (by omega);rw[e1,e2];simp[upC]
 ·rw[show(100:Int)-(r:Int)=r by omega,iG];have e1:decide (100<2*r)=false:=aEC (by omega);have e2:decide (2*r=100)=true:=aE8 h;rw[e1,e2]
  cases hd:decide (q%2=1)<;>simp[upC]
 ·rw[fE (by omega)];have e1:decide (100<2*r)=true:=aE8 h;rw[e1];simp[upC]
theorem aqA {B:aE}{n:Nat}(hn:(bE q).length=n)(h6:cG B 6 (bE q))(ha:B.A 600=some (.int .i64 ((bE q).getD (n-1) 0))):kY prog B (toT n (decide (q%2=1))):=by
 have hz:(ints (bE q)).toArray.size=n:=by simp[aQ,hn]
 cases n with
 |zero=>exact bD aH aH aH (aD ⟨_,h6.2,by rw[hz];rfl⟩ aH)
 |succ n=>
  have hb:q≠0:=fun e=>by
   subst e;rw[fK]at hn;simp at hn
  have hx:(bE q).getD n 0=((q%10:Nat):Int):=by
   have e:=oK q hb
   have hl:(bE (q/10)).length=n:=by
    have:=aEK List.length e;rw[hn,aD2]at this;simpa using this.symm
   rw[e,aD9,aEO (by omega),hl];simp
  rw[Nat.add_sub_cancel,hx]at ha
  refine acZ (bD (aD (eT (x:=((q%10:Nat):Int)) (y:=2) ?_ rfl rfl (ac0 (by decide) ?_)) aH) aH aH (aD ⟨_,h6.2,by rw[hz];rfl⟩ aH)) (aD ⟨_,.int .i64 ((q%10:Nat):Int),h6.2,?_,?_⟩ aH)
  ·exact cS ha rfl
  ·by_cases ho:q%2=1
   ·rw[aE8 ho,aD6 rfl,aFC (by omega)];omega
   ·rw[aEC ho,aD4 (by simp),aFC (by omega)];omega
  ·exact(mC (bE q) n (by omega)).trans (by rw[hx])
  ·exact cS ha rfl
set_option maxRecDepth 100000 in
theorem aaQ (v:Value)(D:Dc)(V m:Nat)(w:World)(hm:m=0∨m=1)(hD:D=cz 4 (V:Int))(hs:D.s=2+(m+1))(hV:V<10^10)(ha:aC w v D.l):
  Calls prog 179 #[dv v D,.int .i64 2,.int .i64 6] w fun e w'=>∃sl,e=.returned (.tuple #[dv sl (al 2 (fH 2 V:Nat)),.int .i64 0])/\aC w' sl (al 2 (fH 2 V:Nat)).l/\cW w.heap.size sl (al 2 (fH 2 V:Nat)).l/\Below w.heap.size w w':=by
 have hn:D.neg=false:=by rw[hD,lW];exact aEC (by omega)
 have ht:aL D=D:=by rw[hD,lC]
 have da:Dg D.l:=by rw[hD];exact sL _ _
 have hl:D.l.length<=10:=by rw[hD];exact AQ 4 10 _ (by simpa using hV)
 have hat:nC 4 D=V:=by rw[hD,wW]
 have hh:num D.l/10^(m+1)=V/100:=by
  have h1:=wZ 4 (V:Int);rw[<-hD,hs]at h1;simp only[Int.natAbs_natCast]at h1;rcases hm with rfl|rfl<;>omega
 obtain⟨q,hq⟩:∃q,V/100=q:=⟨_,rfl⟩
 have hk:q<10^8:=by omega
 have hF:V≠q*100:=fun e=>by
  have h1:aL (al 2 (q:Int))=D:=by rw[jY 4 (al 2 (q:Int)) (JS _ _) (by show 2<=4;omega),afY,DM,hD,e]
  have h2:=CU 2 (q:Int);unfold cz at h2;rw[h1,hs]at h2;omega
 have c1:jN (aL (⟨false,bE q,2⟩:Dc)) (aL D)= -1:=by
  rw[jY 4 ⟨false,bE q,2⟩ (dK q) (by show 2<=4;omega),DM,ht,hD,yL];exact eU (by omega)
 have a1:lK ⟨false,bE q,2⟩ ⟨false,[1],2⟩=cz 2 ((q+1:Nat):Int):=by
  rw[MA 2 _ _ (aD1 _) (aD1 _),DM];congr 1;show((q*10^0:Nat):Int)+((num [1]*10^0:Nat):Int)=_;simp[num]
 have a2:(⟨false,bE (num (cz 2 ((q+1:Nat):Int)).l*10^(2-(cz 2 ((q+1:Nat):Int)).s)),2⟩:Dc)=⟨false,bE (q+1),2⟩:=by rw[wZ];rfl
 have ho:∀(x:Nat) (s:Nat),s<=4->nC 4 ⟨true,bE x,s⟩= -((x*10^(4-s):Nat):Int):=fun x s _=>by
  unfold nC;rw[aD6 rfl,eK]
 have a3:lK D ⟨true,bE q,2⟩=cz 4 ((V:Int)-((q*100:Nat):Int)):=by
  rw[MA 4 _ _ (by omega) (by show 2<=4;omega),hat,ho q 2 (by omega)];rfl
 have a4:lK ⟨false,bE (q+1),2⟩ ⟨true,D.l,D.s⟩=cz 4 ((((q+1)*100:Nat):Int)-(V:Int)):=by
  have:nC 4 ⟨true,D.l,D.s⟩= -(V:Int):=by
   have h2:=hat;unfold nC at h2⊢;rw[hn,aD4 (by simp)]at h2;rw[aD6 rfl];show -((num D.l*10^(4-D.s):Nat):Int)=_;omega
  rw[MA 4 _ _ (by show 2<=4;omega) (by show D.s<=4;omega),DM,this];rfl
 obtain⟨c,hc⟩:∃c,eS ((V:Int)-((q*100:Nat):Int)) ((((q+1)*100:Nat):Int)-(V:Int))=c:=⟨_,rfl⟩
 have hd:=ak5 V
 rw[hq,hc]at hd
 have n1:(cz 4 ((V:Int)-((q*100:Nat):Int))).neg=false:=by rw[lW];exact aEC (by omega)
 have n2:(cz 4 ((((q+1)*100:Nat):Int)-(V:Int))).neg=false:=by rw[lW];exact aEC (by omega)
 have n3:(cz 2 ((q+1:Nat):Int)).neg=false:=by rw[lW];exact aEC (by omega)
 have c2:jN (aL (cz 4 ((V:Int)-((q*100:Nat):Int)))) (aL (cz 4 ((((q+1)*100:Nat):Int)-(V:Int))))=c:=by rw[lC,lC,yL,hc]
 have l1:(cz 4 ((V:Int)-((q*100:Nat):Int))).l.length<=10:=AQ 4 10 _ (by omega)
 have l2:(cz 4 ((((q+1)*100:Nat):Int)-(V:Int))).l.length<=10:=AQ 4 10 _ (by omega)
 have l3:(cz 2 ((q+1:Nat):Int)).l.length<=10:=AQ 2 10 _ (by omega)
 have s1:=CU 4 ((V:Int)-((q*100:Nat):Int))
 have s2:=CU 4 ((((q+1)*100:Nat):Int)-(V:Int))
 have s3:=CU 2 ((q+1:Nat):Int)
 have d1:=sL 4 ((V:Int)-((q*100:Nat):Int))
 have d2:=sL 4 ((((q+1)*100:Nat):Int)-(V:Int))
 have d3:=sL 2 ((q+1:Nat):Int)
 have t3:=lC 2 ((q+1:Nat):Int)
 obtain⟨fr,hfr⟩:∃x,cz 4 ((V:Int)-((q*100:Nat):Int))=x:=⟨_,rfl⟩
 obtain⟨tt,hr⟩:∃x,cz 4 ((((q+1)*100:Nat):Int)-(V:Int))=x:=⟨_,rfl⟩
 obtain⟨su,hz⟩:∃x,cz 2 ((q+1:Nat):Int)=x:=⟨_,rfl⟩
 rw[hfr]at a3 n1 c2 l1 s1 d1
 rw[hr]at a4 n2 c2 l2 s2 d2
 rw[hz]at a1 a2 n3 l3 s3 d3 t3
 have hG:(bE q).length<=8:=eO hk
 have hA:(bE (q+1)).length<=10:=eO (by omega)
 let L:=nD 3 D.l++nD 6 (bE q)++nD 7 [1]++nD 8 su.l++nD 9 (bE (q+1))++nD 10 fr.l++nD 11 tt.l++[(600,Value.int .i64 ((bE q).getD ((bE q).length-1) 0)),(604,.int .i64 fr.s),(608,.int .i64 tt.s),(612,.int .i64 su.s)]
 have g3:dW (bU w L) (.val (.bool false)) 3 (.val (.int .i64 (2+(m+1):Nat))) D:=⟨⟨by decide,rfl⟩,by rw[hn];exact .val _,by rw[hs];exact .val _⟩
 have h6:cG (bU w L) 6 (bE q):=⟨by decide,rfl⟩
 have g6:dW (bU w L) (.val (.bool false)) 6 (.val (.int .i64 2)) ⟨false,bE q,2⟩:=⟨h6,.val _,.val _⟩
 have g7:dW (bU w L) (.val (.bool false)) 7 (.val (.int .i64 2)) ⟨false,[1],2⟩:=⟨⟨by decide,rfl⟩,.val _,.val _⟩
 have g8:dW (bU w L) (.val (.bool false)) 8 (.at_ 612) su:=⟨⟨by decide,rfl⟩,by rw[n3];exact .val _,.atm rfl⟩
 have g9:dW (bU w L) (.val (.bool false)) 9 (.val (.int .i64 2)) ⟨false,bE (q+1),2⟩:=⟨⟨by decide,rfl⟩,.val _,.val _⟩
 have g10:dW (bU w L) (.val (.bool false)) 10 (.at_ 604) fr:=⟨⟨by decide,rfl⟩,by rw[n1];exact .val _,.atm rfl⟩
 have g11:dW (bU w L) (.val (.bool false)) 11 (.at_ 608) tt:=⟨⟨by decide,rfl⟩,by rw[n2];exact .val _,.atm rfl⟩
 have m6:dW (bU w L) (.val (.bool true)) 6 (.val (.int .i64 2)) ⟨true,bE q,2⟩:=⟨h6,.val _,.val _⟩
 have m3:dW (bU w L) (.val (.bool true)) 3 (.val (.int .i64 (2+(m+1):Nat))) ⟨true,D.l,D.s⟩:=⟨g3.l,.val _,by rw[show(⟨true,D.l,D.s⟩:Dc).s=2+(m+1)from hs];exact .val _⟩
 obtain⟨n,hj⟩:∃n,(bE q).length=n:=⟨_,rfl⟩
 have hB:(decide (q%2=1)&&Nat.blt 0 n)=decide (q%2=1):=by
  by_cases h0:n=0
  ·have:q=0:=(OS q).1 (aD8 (by omega));subst this;rfl
  ·rw[show Nat.blt 0 n=true from aG9 (by omega),Bool.and_true]
 have hT:kY prog (bU w L) (toT n (decide (q%2=1))):=aqA hj h6 (by rw[<-hj];rfl)
 have hrun:toR (bU w L) m n c (decide (q%2=1))=true:=by
  have h1:=aD7.1 (aD7.1 (ak4 (bU w L) m hm) n (aEE.2 (by omega))) (decide (q%2=1)) (by cases decide (q%2=1)<;>simp);simp only[aD3]at h1;have h2:c= -1∨c=0∨c=1:=by rw[<-hc];exact MC _ _
  rcases h2 with rfl|rfl|rfl
  ·exact h1.1
  ·exact h1.2.1
  ·exact h1.2.2
 unfold toR at hrun
 rw[hB]at hrun
 obtain⟨up,hC⟩:∃b,upC c (decide (q%2=1))=b:=⟨_,rfl⟩
 rw[hC]at hrun hd
 obtain⟨K,hK⟩:∃K,(if up then 9 else 6)=K:=⟨_,rfl⟩
 rw[hK]at hrun
 have gR:dW (bU w L) (.val (.bool false)) K (.val (.int .i64 2)) (al 2 (fH 2 V:Nat)):=by
  rw[afY,<-hd]
  cases up with
  |true=>subst hK;exact g9
  |false=>subst hK;exact g6
 have h:aK (bU w L) prog ⟨179,[dP 3 (.val (.int .i64 (2+(m+1):Nat))),.val (.int .i64 2),.val (.int .i64 6)],.tup [dP K (.val (.int .i64 2)),.val (.int .i64 0)]⟩:=by
  split at hrun
  case h_2=>cases hrun
  rename_i r mm hg;refine run_mk (by kernel_rfl) rfl (T:=toT n (decide (q%2=1))) hT (orc:=bT (toE m c)) (bB ?_) ⟨g3.wf,trivial,trivial,trivial⟩ ⟨gR.wf,trivial,trivial⟩ (by rw[hg];exact hrun);refine aD (rF g3 da (by omega)) (aD (aU [xC g3,rP (.val (.int .i64 2))] (ao1 g6) ?_) (aD (aU [xC g6,xC g3] (yO (.val (.int .i64 (-1))) rfl) ?_) (aD (aU [rP (.val (.bool false)),rP (.val (.int .i64 2))] (ao1 g7) ?_) (aD (aU [xC g6,xC g7] (JV g8) ?_) (aD (aU [xC g8,rP (.val (.int .i64 2))] (JV g9) ?_) (aD (aU [xC g3,xC m6] (JV g10) ?_) (aD (aU [xC g9,xC m3] (JV g11) ?_) (aD (aU [xC g10,xC g11] (yO (.val (.int .i64 c)) rfl) ?_) aH))))))))
  ·rintro w _ ⟨_,_,rfl,⟨v,rfl,hv⟩,_,_,rfl,rfl,rfl⟩;have:=QO v D m w hm ht hn hs hv da (by omega);rw[hh,hq]at this;exact this.mono (by rintro e w' ⟨sl,rfl,hi,hf,hb⟩;exact⟨_,rfl,⟨_,rfl,hi,hf⟩,hb⟩)
  ·rintro w _ ⟨_,_,rfl,⟨v,rfl,hv⟩,_,_,rfl,⟨u,rfl,hu⟩,rfl⟩;have:=mB v u ⟨false,bE q,2⟩ D w hv hu (dK q) da (by show(bE q).length<=40;omega) (by omega) (by show 2<=40;omega) (by omega);rw[c1]at this;exact this.mono (by rintro e w' ⟨rfl,hb⟩;exact⟨_,rfl,rfl,hb⟩)
  ·rintro w _ ⟨_,_,rfl,rfl,_,_,rfl,rfl,rfl⟩;exact(aaP w).mono (by rintro e w' ⟨sl,rfl,hi,hf,hb⟩;exact⟨_,rfl,⟨_,rfl,hi,hf⟩,hb⟩)
  ·rintro w _ ⟨_,_,rfl,⟨v,rfl,hv⟩,_,_,rfl,⟨u,rfl,hu⟩,rfl⟩;have:=AR v u ⟨false,bE q,2⟩ ⟨false,[1],2⟩ w hv hu (dK q) (by intro x hx;simp at hx;omega) (by show(bE q).length<=40;omega) (by show 1<=40;omega) (by show 2<=40;omega) (by show 2<=40;omega);rw[a1]at this;exact this.mono (by rintro e w' ⟨sl,rfl,hi,hf,hb⟩;exact⟨_,rfl,⟨_,rfl,hi,hf⟩,hb⟩)
  ·rintro w _ ⟨_,_,rfl,⟨v,rfl,hv⟩,_,_,rfl,rfl,rfl⟩;have:=M9 v su w t3 n3 s3 hv d3 (by omega);have e2:=aEK Dc.l a2;simp only at e2;rw[e2]at this;exact this.mono (by rintro e w' ⟨sl,rfl,hi,hf,hb⟩;exact⟨_,rfl,⟨_,rfl,hi,hf⟩,hb⟩)
  ·rintro w _ ⟨_,_,rfl,⟨v,rfl,hv⟩,_,_,rfl,⟨u,rfl,hu⟩,rfl⟩;have:=AR v u D ⟨true,bE q,2⟩ w hv hu da (dK q) (by omega) (by show(bE q).length<=40;omega) (by omega) (by show 2<=40;omega);rw[a3]at this;exact this.mono (by rintro e w' ⟨sl,rfl,hi,hf,hb⟩;exact⟨_,rfl,⟨_,rfl,hi,hf⟩,hb⟩)
  ·rintro w _ ⟨_,_,rfl,⟨v,rfl,hv⟩,_,_,rfl,⟨u,rfl,hu⟩,rfl⟩;have:=AR v u ⟨false,bE (q+1),2⟩ ⟨true,D.l,D.s⟩ w hv hu (dK (q+1)) da (by show(bE (q+1)).length<=40;omega) (by show D.l.length<=40;omega) (by show 2<=40;omega) (by show D.s<=40;omega);rw[a4]at this;exact this.mono (by rintro e w' ⟨sl,rfl,hi,hf,hb⟩;exact⟨_,rfl,⟨_,rfl,hi,hf⟩,hb⟩)
  ·rintro w _ ⟨_,_,rfl,⟨v,rfl,hv⟩,_,_,rfl,⟨u,rfl,hu⟩,rfl⟩;have:=mB v u fr tt w hv hu d1 d2 (by omega) (by omega) (by omega) (by omega);rw[c2]at this;exact this.mono (by rintro e w' ⟨rfl,hb⟩;exact⟨_,rfl,rfl,hb⟩)
 refine(h.2 w (bG _ _ _) [dv v D,.int .i64 2,.int .i64 6] ⟨_,_,rfl,g3.inn ha (fun _ _=>trivial),_,_,rfl,rfl,_,_,rfl,rfl,rfl⟩).mono ?_
 rintro e w' ⟨x,rfl,⟨ys,rfl,p,_,rfl,hp,q,_,rfl,hq,rfl⟩,hE⟩
 obtain⟨sl,rfl,hi,hf⟩:=gR.out2 hp
 exact⟨sl,by rw[show q=.int .i64 0 from hq],hi,hf,hE⟩
theorem afZ (v:Value){d:Dr}(h:uQ d)(w:World)(ha:aC w v (eE d).l):
  Calls prog 179 #[dv v (eE d),.int .i64 2,.int .i64 6] w fun e w'=>∃sl,e=.returned (.tuple #[dv sl (al 2 (fH 2 (V4 d):Nat)),.int .i64 0])/\aC w' sl (al 2 (fH 2 (V4 d):Nat)).l/\cW w.heap.size sl (al 2 (fH 2 (V4 d):Nat)).l/\Below w.heap.size w w':=by
 obtain⟨l1,l2,_,_,_,hd⟩:=zM h
 have hv:=anT h
 by_cases hs:(eE d).s<=2
 ·have hat:al 2 (nC 2 (eE d))=al 2 (fH 2 (V4 d):Nat):=by
   rw[<-uO 2 _ hd hs];rw[iW h]at hs⊢;exact CK hs
  have:=adK v (eE d) 2 6 w ha hd (by omega) hs (by omega) (by omega) (by
   unfold nC;have hb:num (eE d).l<10^10:=aEL (gQ hd) (aEY (by omega) l1);have h1:num (eE d).l*10^(2-(eE d).s)<=num (eE d).l*10^2:=Nat.mul_le_mul_left _ (aEY (by omega) (by omega));split<;>omega)
  rw[hat]at this;exact this
 ·obtain⟨m,hm⟩:∃m,(eE d).s=2+(m+1):=⟨(eE d).s-3,by omega⟩;exact aaQ v (eE d) (V4 d) m w (by omega) (iW h) hm hv ha
end
def bH (v1 v2 v3:Value):List Value:=[.bool true,v1,.int .i64 2,.bool false,v2,.int .i64 2,.bool false,v3,.int .i64 0,.bool true,.int .i64 6,.int .i64 4,.int .i64 2,.int .i64 1,.int .i64 2,.int .i64 6,.int .i64 20]
set_option maxRecDepth 100000 in
theorem af0 (vi vf v1 v2 v3:Value){d:Dr}(h:uQ d)(w:World)(hi:aC w vi d.int)(hf:aC w vf d.frac)(w1:aC w v1 dS)(w2:aC w v2 dS)(w3:aC w v3 [1]):
  Calls prog 83 #[.agg (bH v1 v2 v3).toArray,mT vi vf d] w fun e w'=>∃va vb,e=.returned (.tuple #[mT va vb (mV d),.int .i64 0])/\aC w' va (mV d).int/\aC w' vb (mV d).frac/\cW w.heap.size va (mV d).int/\cW w.heap.size vb (mV d).frac/\Below w.heap.size w w':=by
 obtain⟨l1,l2,l3,l4,l5,hd⟩:=zM h
 have ok:=(h.stOK (aES _) hi hf).ok
 have ha:=(rL d).ng
 let L:List (Nat×Value):=[(6,.agg (ints dS).toArray),(10,.agg (ints dS).toArray),(14,.agg (ints [1]).toArray),(18,.agg (ints d.int).toArray),(36,.bool d.sep),(22,.agg (ints d.frac).toArray),(34,.agg (ints (mV d).int).toArray),(68,.bool (mV d).sep),(38,.agg (ints (mV d).frac).toArray),(42,.agg (ints (eE d).l).toArray),(240,.int .i64 (eE d).s),(50,.agg (ints (al 2 (fH 2 (V4 d):Nat)).l).toArray),(46,.agg (ints (cz 2 (rJ d)).l).toArray),(244,.int .i64 (cz 2 (rJ d)).s)]
 have h1:cG (bU w L) 1 dS:=⟨by decide,rfl⟩
 have h2:cG (bU w L) 2 dS:=⟨by decide,rfl⟩
 have h3:cG (bU w L) 3 [1]:=⟨by decide,rfl⟩
 have hA:dQ (bU w L) (.val (.bool false)) 4 (.at_ 36) 5 d:=⟨⟨by decide,rfl⟩,⟨by decide,rfl⟩,by rw[h.ng];exact .val _,.atm rfl⟩
 have hE:dQ (bU w L) (.val (.bool false)) 8 (.at_ 68) 9 (mV d):=⟨⟨by decide,rfl⟩,⟨by decide,rfl⟩,by rw[ha];exact .val _,.atm rfl⟩
 have hx:dW (bU w L) (.val (.bool false)) 10 (.at_ 240) (eE d):=⟨⟨by decide,rfl⟩,by rw[show(eE d).neg=false by rw[iW h,lW];exact aEC (by omega)];exact .val _,.atm rfl⟩
 have hc:(al 2 ((fH 2 (V4 d):Nat):Int)).neg=false:=by
  show decide (((fH 2 (V4 d):Nat):Int)<0)=false;exact aEC (by omega)
 have hr:dW (bU w L) (.val (.bool false)) 12 (.val (.int .i64 2)) (al 2 (fH 2 (V4 d):Nat)):=⟨⟨by decide,rfl⟩,by rw[hc];exact .val _,.val _⟩
 have hz:dW (bU w L) (.val (.bool false)) 11 (.at_ 244) (cz 2 (rJ d)):=⟨⟨by decide,rfl⟩,by rw[show(cz 2 (rJ d)).neg=false by rw[lW];exact aEC (by have:=DL d;omega)];exact .val _,.atm rfl⟩
 have hg:dW (bU w L) (.val (.bool true)) 1 (.val (.int .i64 2)) loD:=⟨h1,.val _,.val _⟩
 have hh:dW (bU w L) (.val (.bool false)) 2 (.val (.int .i64 2)) hiD:=⟨h2,.val _,.val _⟩
 have hM:aK (bU w L) prog ⟨83,[TO,pG (.val (.bool false)) 4 (.at_ 36) 5],.tup [pG (.val (.bool false)) 8 (.at_ 68) 9,.val (.int .i64 0)]⟩:=by
  refine run_mk (by kernel_rfl) rfl (T:=iT) fS (orc:=bT [⟨34,[pG (.val (.bool false)) 4 (.at_ 36) 5],.val (.bool true)⟩,⟨112,[pG (.val (.bool false)) 4 (.at_ 36) 5],dJ (.val (.bool false)) 10 (.at_ 240)⟩,
   ⟨179,[dJ (.val (.bool false)) 10 (.at_ 240),.val (.int .i64 2),.val (.int .i64 6)],.tup [dJ (.val (.bool false)) 12 (.val (.int .i64 2)),.val (.int .i64 0)]⟩,
   ⟨180,[dJ (.val (.bool false)) 12 (.val (.int .i64 2)),dJ (.val (.bool true)) 1 (.val (.int .i64 2)),dJ (.val (.bool false)) 2 (.val (.int .i64 2))],.tup [dJ (.val (.bool false)) 11 (.at_ 244),.val (.int .i64 0)]⟩,
   ⟨113,[dJ (.val (.bool false)) 11 (.at_ 244),.val (.int .i64 1),.val (.int .i64 2)],.tup [pG (.val (.bool false)) 8 (.at_ 68) 9,.val (.int .i64 0)]⟩]) (bB ?_)
   ⟨⟨trivial,jM h1,trivial,trivial,jM h2,trivial,trivial,jM h3,trivial,trivial,trivial,trivial,trivial,trivial,trivial,trivial,trivial,trivial⟩,hA.wf,trivial⟩ ⟨hE.wf,trivial,trivial⟩ (by kernel_rfl)
  refine aD (aU [ME hA] (yO (.val (.bool true)) rfl) ?_) (aD (aU [ME hA] (deR hx) ?_) (aD (aU [xC hx,rP (.val _),rP (.val _)] (JV hr) ?_) (aD (aU [xC hr,xC hg,xC hh] (JV hz) ?_) (aD (aU [xC hz,rP (.val _),rP (.val _)] (TJ hE) ?_) aH))))
  ·rintro w _ ⟨_,_,rfl,⟨vi,vf,rfl,i1,i2⟩,rfl⟩;exact(AX vi vf d w (h.stOK (aES _) i1 i2).ok).mono (by rintro e w' ⟨rfl,hb⟩;exact⟨_,rfl,rfl,hb⟩)
  ·rintro w _ ⟨_,_,rfl,⟨vi,vf,rfl,i1,i2⟩,rfl⟩;exact(ZL vi vf d w (h.stOK (aES _) i1 i2).ok).mono (by rintro e w' ⟨sl,rfl,hi,hf,hb⟩;exact⟨_,rfl,⟨_,rfl,hi,hf⟩,hb⟩)
  ·rintro w _ ⟨_,_,rfl,⟨v,rfl,hv⟩,_,_,rfl,rfl,_,_,rfl,rfl,rfl⟩;exact(afZ v h w hv).mono (by rintro e w' ⟨sl,rfl,hi,hf,hb⟩;exact⟨_,rfl,⟨_,rfl,hi,hf⟩,hb⟩)
  ·rintro w _ ⟨_,_,rfl,⟨v,rfl,hv⟩,_,_,rfl,⟨v1,rfl,hj⟩,_,_,rfl,⟨v2,rfl,hk⟩,rfl⟩;have dn:Dg dS:=fun x hx=>by revert x;decide
   have:=PA v v1 v2 (al 2 (fH 2 (V4 d):Nat)) loD hiD w hv hj hk (JS _ _) dn dn (by omega) (by decide) (by decide) (by show 2<=40;omega) (by decide) (by decide) (by decide);rw[KF]at this;exact this.mono (by rintro e w' ⟨sl,rfl,hi,hf,hb⟩;exact⟨_,rfl,⟨_,rfl,hi,hf⟩,hb⟩)
  ·rintro w _ ⟨_,_,rfl,⟨v,rfl,hv⟩,_,_,rfl,rfl,_,_,rfl,rfl,rfl⟩;exact(TK v (cz 2 (rJ d)) 1 2 w hv (sL _ _) (by omega) (by omega) (by omega) (by omega)).mono (by rintro e w' ⟨vi,vf,rfl,i1,i2,f1,f2,hb⟩;exact⟨_,rfl,⟨_,_,rfl,i1,i2,fun _=>f1,fun _=>f2⟩,hb⟩)
 refine(hM.2 w (bG _ _ _) [.agg (bH v1 v2 v3).toArray,mT vi vf d] ⟨_,_,rfl,⟨_,rfl,_,_,rfl,rfl,_,_,rfl,E7 h1 w1 (fun _ _=>trivial),_,_,rfl,rfl,_,_,rfl,rfl,_,_,rfl,E7 h2 w2 (fun _ _=>trivial),_,_,rfl,rfl,_,_,rfl,rfl,_,_,rfl,E7 h3 w3 (fun _ _=>trivial),_,_,rfl,rfl,_,_,rfl,rfl,_,_,rfl,rfl,_,_,rfl,rfl,_,_,rfl,rfl,_,_,rfl,rfl,_,_,rfl,rfl,_,_,rfl,rfl,_,_,rfl,rfl,rfl⟩,_,_,rfl,hA.inn hi hf (fun _ _ _=>trivial) (fun _ _ _=>trivial),rfl⟩).mono ?_
 rintro e w' ⟨x,rfl,⟨ys,rfl,p,_,rfl,hp,q,_,rfl,hq,rfl⟩,hl⟩
 obtain⟨v,u,rfl,i1,i2,f1,f2⟩:=hE.out2 hp
 exact⟨v,u,by rw[show q=.int .i64 0 from hq],i1,i2,f1,f2,hl⟩
section
variable {B B':aE}{w:World}{D:eB}{rc:Rc}
theorem GK (h:DC B)(hK:B'.K=B.K)(hW:B'.W=B.W):DC B':=⟨fun g hg=>by rw[hK];exact h.k g hg,by rw[hW];exact h.w⟩
theorem xR (h:eN B w)(hK:B'.K=B.K)(hW:B'.W=B.W):eN B' w:=⟨fun g hg=>h.size g (by rw[<-hK];exact hg),fun g hg=>by rw[hW];exact h.old g (by rw[<-hK];exact hg)⟩
def bare (B:aE):aE:=⟨B.K,B.W,fun _=>none⟩
theorem DN (B:aE):∀i x,(bare B).A i=some x->i%2≠1:=fun _ _ h=>by cases h
theorem WS (hd:∀i x,B.A i=some x->i%2≠1){call:bM}(hc:cH B prog call){f:FuncId}{a:List AV}{r:AV}{m':M}(hr:call f a {}=some (r,m'))(hu:eN B w){xs:Array Value}(hx:aT (Env.ini B (fun _=>none) fun _=>none) a=some xs.toList):
  Calls prog f xs w fun e w'=>∃x ρ',e=.returned x/\aO ρ' r=some x/\Out B (fun _=>False) (Env.ini B (fun _=>none) fun _=>none) w ρ' m' w':=by
 have ha:∀b,({}:M).H.get b=none:=fun b=>rfl
 have hm:bK (Env.ini B (fun _=>none) fun _=>none) {} w:=⟨fun i _=>rfl,fun i _=>rfl,(fun b k hb=>by rw[ha]at hb;cases hb),(fun b _ k _ _ _ hb=>by rw[ha]at hb;cases hb),by show 0<=1000000;omega⟩
 have hf:∀g,¬dD (Env.ini B (fun _=>none) fun _=>none) {} g:=by
  rintro g ⟨b,k,q,hb,_⟩;rw[ha]at hb;cases hb
 have hk:eM B (Env.ini B (fun _=>none) fun _=>none) {} w:=⟨hu.size,hu.old,(fun g hl=>absurd hl (hf g)),(fun i x hi=>hi),(fun n v hn ho=>absurd ho (hd n v hn)),hd⟩
 refine(hc f a _ r m' hr _ w xs hm hk hx).mono ?_
 rintro e w' ⟨ρ',x,rfl,hx,S⟩
 refine⟨x,ρ',rfl,hx,S.rel,fun i y hi=>S.le.a hi,(fun i q hi=>by cases hi),fun n v hn ho=>?_,S.os,S.tape,S.output,S.size,fun k hh _=>S.keep k hh (hf k),fun g hg=>?_,fun i c hi=>by cases hi⟩
 ·rcases S.ats n v hn with hy|⟨_,_,_,gh,h4,h5⟩
  ·exact absurd ho (hd n v hy)
  ·exact⟨gh,h4,h5.mono fun g hg _=>⟨rfl,.inr hg.1,hg.2⟩⟩
 ·rcases S.fresh g hg with hy|hy
  ·exact .inl hy
  ·exact absurd hy (hf g)
theorem ak6 (hb:∀i x,B.A i=some x->i%2≠1)(h:(D.rc.sys,D.dg)∈oW):∀e∈D.dig,aK B prog e:=by
 intro e he;obtain⟨d,hd,rfl⟩:=aEZ.1 he;obtain⟨k,hk⟩:=List.mem_iff_getElem?.1 h
 have hl:k<13:=by
  have:=(aED.1 hk).1;exact this
 have:=akG B k hl;rw[hk]at this;have ha:=aD7.1 this d hd;unfold kN at ha;exact apB hb qH ha
theorem ak7 (ha:∀i x,B.A i=some x->i%2≠1)(h:DC B):∀e∈avW,aK B prog e:=by
 intro e he;rcases aER.1 he with rfl|he
 ·exact zA ha (DE ha h) (apP B)
 ·rcases aEQ.1 he with he|he
  ·obtain⟨c,hc,rfl⟩:=aEZ.1 he;exact zA ha (DE ha h) (aD7.1 (ad9 B) c hc)
  ·obtain⟨c,hc,rfl⟩:=aEZ.1 he;exact zA ha (DE ha h) (aD7.1 (ad8 B) c hc)
theorem af1 {ρ:Env}(l:List Value):aO ρ (.agg (l.map .lit))=some (.agg l.toArray):=by
 unfold aO;rw[dA]
theorem ak8 (hR:sP B rc){G:Nat->Prop}{y:Value}(h:fG B G w tX y):y=rc.v:=by
 obtain⟨ys,rfl,hs⟩:=h;obtain⟨h0,h1,h2,h3,h4,h5,h6,h7⟩:=hR.t;obtain⟨y0,_,rfl,a0,y1,_,rfl,a1,y2,_,rfl,a2,y3,_,rfl,a3,y4,_,rfl,a4,y5,_,rfl,a5,y6,_,rfl,a6,y7,r,rfl,a7,rfl⟩:=hs;rw[bF h0 a0,bF h1 a1,bF h2 a2,bF h3 a3,bF h4 a4,bF h5 a5,bF h6 a6,bF h7 a7];rfl
theorem aq5 (hR:sP B rc):qC B tX:=by
 obtain⟨h0,h1,h2,h3,h4,h5,h6,h7⟩:=hR.t;exact⟨⟨_,h0⟩,⟨_,h1⟩,⟨_,h2⟩,⟨_,h3⟩,⟨_,h4⟩,⟨_,h5⟩,⟨_,h6⟩,⟨_,h7⟩,trivial⟩
set_option maxRecDepth 100000 in
theorem ak9 (ha:∀B,cD B D=true)(hd:(D.rc.sys,D.dg)∈oW)(hA:B.A (gid 7)=some D.gh)(hR:sP B D.rc)(hG:DC B):aK B prog ⟨247,[tX],.tup [.ls 7,.val .nilIface]⟩:=by
 refine⟨⟨aq5 hR,trivial⟩,fun w hu xs hc=>?_⟩;obtain⟨y,_,rfl,hy,rfl⟩:=hc;rw[ak8 hR hy];have h:=ha (bare B);have hg:=GK (B':=bare B) hG rfl rfl;unfold cD at h;split at h
 case h_2=>cases h
 rename_i r m hr;refine(WS (DN B) (bY fS (EK (bB fun e he=>?_) (DE (DN B) hg))) hr (xR hu rfl rfl) (xs:=[D.rc.v].toArray) ?_).mono ?_
 ·rcases aEQ.1 he with he|he
  ·exact ak6 (DN B) hd e he
  ·exact ak7 (DN B) hg e he
 ·rw[aF3];exact aG.2 ⟨_,[],af1 _,rfl,rfl⟩
 rintro e w' ⟨x,ρ',rfl,hx,O⟩;refine⟨x,rfl,?_,O.os,O.tape,O.output,O.size,fun k hk=>O.keep k hk (fun j q hq=>by cases hq)⟩;unfold aeF at h;split at h
 case h_2=>cases h
 rename_i b o e;simp only[aD3]at h;obtain⟨h1,h2,h3,h4,h5,h6⟩:=h;have:=aEA h1;subst this;have hb:=aEA h3;unfold aO at hx;split at hx
 case h_2=>cases hx
 rename_i ys hf;injection hx with hx
 subst hx;obtain⟨v,r1,k1,k2,rfl⟩:=aG.1 hf;obtain⟨e2,r2,k3,k4,rfl⟩:=aG.1 k2
 have:r2=[]:=by
  unfold aT at k4;injection k4 with k4
  exact k4.symm
 subst this;refine⟨[v,e2],rfl,v,_,rfl,⟨by decide,?_,_,hA,?_⟩,e2,_,rfl,jL h2 k3,rfl⟩
 ·unfold aO at k1;split at k1
  ·injection k1 with k1;subst k1;rfl
  ·cases k1
 ·have hv:aO ρ' (.ptr (WA D m b 0) 0)=some v:=by rw[hb];exact k1
  have:=akH O (fun _=>rfl) h4 h5 (Nat.blt_eq ▸ h6:0<D.fam.length) hv;show DW _ w' v D.fam.toArray.toList;rw[aF3];exact this
end
section
variable {ρ0:Env}{B:aE}{G:Nat->Prop}{w:World}{bs xs:List Value}{f:FuncId}{v:Value}
def af5 (xs:List Value):List PC:= .ptr 0::xs.map fun x=>PC.p (.val x)
noncomputable def QQ (B:aE)(bs:List Value)(f:FuncId)(xs:List Value)(chk:AV->M->Bool):Bool:=
 match dR B iT mJ f (bX (bQ 700 (BB 0 bs)).2 (af5 xs)).1 {H:=tB (bQ 700 (BB 0 bs)).1,nb:=(BB 0 bs).length,nc:=(bX (bQ 700 (BB 0 bs)).2 (af5 xs)).2}with
 |some (r,m)=>chk r m&&zE (bQ 700 (BB 0 bs)).1 m
 |none=>false
theorem KG:∀xs:List Value,lY ρ0 B G w (xs.map fun x=>PC.p (.val x)) xs
 |[]=>rfl
 |x::xs=>⟨x,xs,rfl,rfl,KG xs⟩
def QR (w:World):aE:=⟨fun _=>False,w,fun _=>none⟩
set_option maxRecDepth 100000 in
theorem KH {chk:AV->M->Bool}(h:QQ (QR w) bs f xs chk=true)(hl:bs.length<=7)(hc:∀y∈bs,zB y<100)(hp:DW G w v bs):
  Calls prog f (v::xs).toArray w fun e w'=>∃x ρ0 ρ' r m',e=.returned x/\chk r m'=true/\aO ρ' r=some x/\Out (QR w) (fun _=>False) ρ0 w ρ' m' w'/\Below w.heap.size w w':=by
 obtain⟨blk,cap,b1,b2,b3,b4,b5,b6⟩:=apQ hp hl hc
 have ha:∀i x,(QR w).A i=some x->i%2≠1:=fun _ _ h=>by cases h
 unfold QQ at h
 refine(mL ha (bY fS qH) (sh:=id) (sv:=id) (fun _ _ _ h=>h) (ib:=BB 0 bs) (ps:=af5 xs) (nc0:=700) (chk:=chk) h (by rw[FU];exact hl) blk cap b1 b2 b3 w ⟨fun _ h=>False.elim h,fun _ h=>False.elim h⟩ (fun _ _ _ h=>h) (G:=fun _=>False) (fun _ _ _ h=>h) (fun j x hj=>b5 _ _ j x hj) (v::xs) ⟨v,xs,rfl,b6 _,KG xs⟩).mono ?_
 rintro e w' ⟨x,ρ',r,m',rfl,hk,hx,O,hb,_,_⟩
 exact⟨x,_,ρ',r,m',rfl,hk,hx,O,hb⟩
def QS (p:eG)(r:AV)(_:M):Bool:=fN 0 p r
theorem DO {p:eG}(h:QQ (QR w) bs f xs (QS p)=true)(hw:qC (QR w) p)(hl:bs.length<=7)(hc:∀y∈bs,zB y<100)(hp:DW G w v bs):
  Calls prog f (v::xs).toArray w fun e w'=>∃x,e=.returned x/\(∃G',fG (QR w) G' w' p x)/\Below w.heap.size w w':=by
 refine(KH h hl hc hp).mono ?_
 rintro e w' ⟨x,ρ0,ρ',r,m',rfl,hk,hx,O,hb⟩
 exact⟨x,rfl,⟨_,O.mat (.p p) r x hk hw hx⟩,hb⟩
theorem awJ (h:DW G w v bs):∃S:Nat->Prop,(∀g,S g->g<w.heap.size/\G g)/\DW S w v bs:=by
 obtain⟨f,h1,h2,h3,h4,h5⟩:=h;exact⟨fun g=>∃b q,f b=some q/\q.1=g,by rintro g ⟨b,q,hq,rfl⟩;exact⟨(h2 b q hq).2,(h2 b q hq).1⟩,f,h1,fun b q hq=>⟨⟨b,q,hq,rfl⟩,(h2 b q hq).2⟩,h3,h4,h5⟩
def aaT (rc:Rc)(l:List (Int×List UInt8)):List (List UInt8):=match l.flatMap fun y=>if y.1=1 then rc.cur else if y.1=2 then rc.pct else y.2 with
 |[]=>[]
 |t=>[t]
def eB.L (D:eB):Lc:={dig:=fun d=>D.dg.getD d.toNat [],dec:=D.rc.dec,grp:=D.rc.grp,ahead:=aaT D.rc D.pre,behind:=aaT D.rc D.suf,p:=D.p,q:=D.q}
def aaU:List (List UInt8)->List PC
 |[]=>[]
 |t::l=> .p (.val (.bool false)):: .p (.val (sB t))::aaU l
theorem QT:∀l:List (List UInt8),(aaU l).length=2*l.length
 |[]=>rfl
 |_::l=>by simp[aaU,QT l];omega
theorem WX:∀l:List (List UInt8),hU B (aaU l)
 |[]=>trivial
 |_::l=>⟨trivial,trivial,WX l⟩
theorem WY {ρ:Env}:∀(ts:List (List UInt8)) (vs:List Value),gT ρ B G w (aaU ts) vs->∀j,j<ts.length->vs[j*2]?=some (.bool false)/\vs[j*2+1]?=some (sB (ts.getD j []))
 |[],_,_,j,hj=>by simp at hj
 |t::l,_,h,j,hj=>by
  obtain⟨y,r,rfl,h1,y2,r2,rfl,h2,h3⟩:=h
  cases j with
  |zero=>exact⟨by rw[show y=_ from h1];rfl,by rw[show y2=_ from h2];rfl⟩
  |succ j=>
   have:=WY l r2 h3 j (by simp at hj;omega)
   rw[show(j+1)*2=j*2+2 by omega,show j*2+2+1=(j*2+1)+2 by omega]
   exact this
def alE (m:M)(ts:List (List UInt8)):AV->Bool
 |.lit v=>ts.isEmpty&&jV (.lit v) (.lit (.slice none 0 0))
 |.slc b o n sz c=>CV (.rox b ts.length 2) (.slc b o n sz c)&&dE m b 494 (aaU ts)
 |_=>false
theorem af6 {ρ':Env}{w':World}{m':M}(O:Out B G ρ0 w ρ' m' w'){ts:List (List UInt8)}{a:AV}{x:Value}(h:alE m' ts a=true)(hx:aO ρ' a=some x):eI w' x ts:=by
 cases a<;>simp only[alE,aE0]at h
 case lit v=>
  rw[aD3]at h
  have h1:=aHB.1 h.1
  subst h1
  have h2:=eF h.2
  injection h2 with h2
  subst h2
  unfold aO at hx
  injection hx with hx
  subst hx
  exact⟨none,0,rfl,aD1 _,trivial,fun h=>by simp at h⟩
 case slc b o n sz c=>
  rw[aD3]at h
  obtain⟨g,o1,z,m,c1,hb,rfl,ha,hc⟩:=O.mat (.rox b ts.length 2) _ x h.1 trivial hx
  obtain⟨g2,o2,z2,m2,arr,vs,e1,e2,e3,e4,e5,e6,e7,e8,e9,ea⟩:=O.block h.2 (WX ts)
  rw[hb]at e1
  injection e1 with e1
  injection e1 with d1 e1
  injection e1 with d2 e1
  injection e1 with d3 d4
  subst d1 d2 d3 d4
  refine⟨_,c1,rfl,ha.1,trivial,fun hp=>⟨g,o1,rfl,fun j hj=>?_⟩⟩
  obtain⟨k1,k2⟩:=WY ts vs e7 j hj
  have hl:=QT ts
  rw[aHM w' g _ _ _ _ e3,aHM w' g _ _ _ _ e3,aF9,ea _ (by omega),ea _ (by omega)]
  exact⟨k1,k2⟩
def chkA (ah bh:List (List UInt8))(r:AV)(m:M):Bool:=match r with
 |.tup [a,b]=>alE m ah a&&alE m bh b
 |_=>false
def aq6 (d:Nat):List UInt8:=[UInt8.ofNat (48+d)]
def eB.sgn (D:eB)(d:Nat):Int:=if D.dg.getD d []=aq6 d then d else -1
noncomputable def bP (B:aE)(D:eB):Bool:=
 QQ B D.fam 243 [] (QS (.agg (D.rc.l.map .val)))&&(QQ B D.fam 355 [] (QS (.tup [.val (.int .i64 D.p),.val (.int .i64 D.q)]))&&
 ((List.range 10).all (fun d=>QQ B D.fam 357 [.int .i64 (d:Nat)] (QS (.val (sB (D.dg.getD d [])))))&&((List.range 10).all (fun d=>QQ B D.fam 354 [sB (aq6 d)] (QS (.val (.int .i64 (D.sgn d)))))&&
 QQ B D.fam 289 [.bool false] (chkA (aaT D.rc D.pre) (aaT D.rc D.suf)))))
end
section
variable {G:Nat->Prop}{w:World}{v:Value}
def T7 (D:eB):Bool:=oW.any (fun p=>decide (p=(D.rc.sys,D.dg)))&&(Nat.ble D.fam.length 7&&(D.fam.all (fun y=>Nat.blt (zB y) 100)&&(D.dg.all (fun t=>Nat.ble t.length 3)&&(Nat.ble D.rc.dec.length 3&&(Nat.ble D.rc.grp.length 3&&
 (Nat.ble (D.L.ahead.flatten).length 12&&(Nat.ble (D.L.behind.flatten).length 12&&(D.L.ahead.all (fun t=>Nat.ble t.length 64)&&(D.L.behind.all (fun t=>Nat.ble t.length 64)&&(Nat.ble D.L.ahead.length 20&&(Nat.ble D.L.behind.length 20&&
 decide (0<=D.p/\D.p<=1000/\0<=D.q/\D.q<=1000))))))))))))
structure qI (D:eB):Prop where
 dg:(D.rc.sys,D.dg)∈oW
 fl:D.fam.length<=7
 fc:∀y∈D.fam,zB y<100
 b:DG D.L
 pq:0<=D.p/\D.p<=1000/\0<=D.q/\D.q<=1000
theorem aaV {D:eB}(h:T7 D=true):qI D:=by
 unfold T7 at h;simp only[aD3]at h;obtain⟨h1,h2,h3,h4,h5,h6,h7,h8,h9,ha,hb,hc,hd⟩:=h;refine⟨?_,aEJ h2,fun y hy=>?_,⟨fun k=>?_,aEJ h5,aEJ h6,aEJ h7,aEJ h8,fun t ht=>aEJ (aD7.1 h9 t ht),fun t ht=>aEJ (aD7.1 ha t ht),aEJ hb,aEJ hc⟩,aE3 hd⟩
 ·obtain⟨p,hp,he⟩:=aG2.1 h1;rw[<-aE3 he];exact hp
 ·exact cast Nat.blt_eq (aD7.1 h3 y hy)
 ·show(D.dg.getD k.toNat []).length<=3;rcases aEU k.toNat D.dg.length with hk|hk
  ·have:=aD7.1 h4 _ (aG3 hk);rw[aD9,aEB hk];exact aEJ this
  ·rw[aD9,aFI hk];exact aES _
theorem alG:(locT.all T7)=true:=by kernel_rfl
section
variable {D:eB}(K:qI D)(F:∀B,bP B D=true)
include K F
theorem WZ (hp:DW G w v D.fam):Calls prog 243 #[v] w fun e w'=>e=.returned D.rc.v/\Below w.heap.size w w':=by
 have h:=F (QR w);unfold bP at h;simp only[aD3]at h;refine(DO h.1 (uC D.rc.l) K.fl K.fc hp).mono ?_;rintro e w' ⟨x,rfl,⟨G',hx⟩,hb⟩;refine⟨?_,hb⟩;obtain⟨y0,rfl,hy⟩:=hx;obtain⟨z0,_,rfl,a0,z1,_,rfl,a1,z2,_,rfl,a2,z3,_,rfl,a3,z4,_,rfl,a4,z5,_,rfl,a5,z6,_,rfl,a6,z7,_,rfl,a7,rfl⟩:=hy;rw[show z0=_ from a0,show z1=_ from a1,show z2=_ from a2,show z3=_ from a3,show z4=_ from a4,show z5=_ from a5,show z6=_ from a6,show z7=_ from a7];rfl
theorem alH (hp:DW G w v D.fam):Calls prog 355 #[v] w fun e w'=>e=.returned (.tuple #[.int .i64 D.p,.int .i64 D.q])/\Below w.heap.size w w':=by
 have h:=F (QR w);unfold bP at h;simp only[aD3]at h;refine(DO h.2.1 ⟨trivial,trivial,trivial⟩ K.fl K.fc hp).mono ?_;rintro e w' ⟨x,rfl,⟨G',hx⟩,hb⟩;obtain⟨y0,rfl,z0,_,rfl,a0,z1,_,rfl,a1,rfl⟩:=hx;rw[show z0=_ from a0,show z1=_ from a1];exact⟨rfl,hb⟩
theorem alI (hp:DW G w v D.fam){d:Int}(h0:0<=d)(h9:d<=9):Calls prog 357 #[v,.int .i64 d] w fun e w'=>e=.returned (sB (D.L.dig d))/\Below w.heap.size w w':=by
 have h:=F (QR w);unfold bP at h;simp only[aD3]at h;obtain⟨n,rfl⟩:=Int.eq_ofNat_of_zero_le h0;have hd:=aD7.1 h.2.2.1 n (aEE.2 (by omega));refine(DO hd trivial K.fl K.fc hp).mono ?_;rintro e w' ⟨x,rfl,⟨G',hx⟩,hb⟩;exact⟨by rw[show x=_ from hx];rfl,hb⟩
theorem alJ (hp:DW G w v D.fam){d:Nat}(h9:d<10):Calls prog 354 #[v,sB (aq6 d)] w fun e w'=>e=.returned (.int .i64 (D.sgn d))/\Below w.heap.size w w':=by
 have h:=F (QR w);unfold bP at h;simp only[aD3]at h;have hd:=aD7.1 h.2.2.2.1 d (aEE.2 h9);refine(DO hd trivial K.fl K.fc hp).mono ?_;rintro e w' ⟨x,rfl,⟨G',hx⟩,hb⟩;exact⟨by rw[show x=_ from hx],hb⟩
theorem alK (hp:DW G w v D.fam):Calls prog 289 #[v,.bool false] w fun e w'=>∃va vb,e=.returned (.tuple #[va,vb])/\eI w' va D.L.ahead/\eI w' vb D.L.behind/\Below w.heap.size w w':=by
 have h:=F (QR w);unfold bP at h;simp only[aD3]at h;refine(KH h.2.2.2.2 K.fl K.fc hp).mono ?_;rintro e w' ⟨x,ρ0,ρ',r,m',rfl,hk,hx,O,hb⟩;unfold chkA at hk;split at hk
 case h_2=>cases hk
 rename_i a b;rw[aD3]at hk;unfold aO at hx;split at hx
 case h_2=>cases hx
 rename_i ys ha;injection hx with hx
 subst hx;obtain⟨va,r1,k1,k2,rfl⟩:=aG.1 ha;obtain⟨vb,r2,k3,k4,rfl⟩:=aG.1 k2
 have:r2=[]:=by
  unfold aT at k4;injection k4 with k4
  exact k4.symm
 subst this;exact⟨va,vb,rfl,af6 O hk.1 k1,af6 O hk.2 k3,hb⟩
theorem alM {S:Nat->Prop}(hS:∀g,S g->g<w.heap.size)(hp:DW S w v D.fam):TS S w v D.rc D.L:=by
 have hm:∀W,IC S w W->DW S W v D.fam:=fun W hs=>hp.mono fun b hb _=>⟨hs.block b hb,hb⟩
 have hq:=K.pq;exact⟨hS,fun W hs=>alK K F (hm W hs),fun W hs=>alH K F (hm W hs),fun W hs=>WZ K F (hm W hs),fun W hs d h0 h9=>alI K F (hm W hs) h0 h9,rfl,rfl,hq.1,hq.2.1,hq.2.2.1,hq.2.2.2,by have:=K.b.na;omega,by have:=K.b.nb;omega⟩
theorem ar7:WW D.rc D.gh D.L:=⟨K.b,fun G w lp _ h=>by
 have hp:DW G w lp D.fam:=by
  have:DW G w lp D.fam.toArray.toList:=h;rwa[aF3]at this
 obtain⟨S,h1,h2⟩:=awJ hp;exact⟨S,alM K F (fun g hg=>(h1 g hg).1) h2⟩⟩
end
end
section
variable {B:aE}{n:Nat}
theorem KS (B:aE):(List.range 100).all (fun n=>cK B mJ 9 [.int .i64 (n:Nat)] (.val (sB (eL n))))=true:=by kernel_rfl
set_option maxRecDepth 100000 in
theorem RK (ha:∀i x,B.A i=some x->i%2≠1){i j:Nat}(hn:n<100)(hi:B.A i=some (.int .i64 n))(hj:B.A j=some (sB (eL n))):aK B prog ⟨9,[.at_ i],.at_ j⟩:=by
 have hr:=aD7.1 (KS B) n (aEE.2 hn);have h:=zA ha qH hr;refine⟨⟨⟨_,hi⟩,trivial⟩,fun w hu xs hc=>?_⟩;obtain⟨y,_,rfl,hy,rfl⟩:=hc;rw[bF hi hy];refine(h.2 w hu [.int .i64 n] ⟨_,_,rfl,rfl,rfl⟩).mono ?_;rintro e w' ⟨x,rfl,hx,hb⟩;exact⟨x,rfl,by rw[show x=_ from hx];exact⟨hj,rfl⟩,hb⟩
theorem ahD (ha:∀i x,B.A i=some x->i%2≠1)(hn:n<100):aK B prog (FS 9 [.int .i64 n] (sB (eL n))):=
 zA ha qH (aD7.1 (KS B) n (aEE.2 hn))
end
def amZ:List Value:=[iY 0,iY 1,iY 2,iY 3,iY 4,iY 5,iY 6,iY 7,iY 8,iY 9]
def slB:List AV->Nat->Nat
 |cs,i=>match cs[i]? with
  |some (.slc b _ _ _ _)=>b
  |_=>1000000+i
def aiA (r:AV)(m:M):Bool:=match r with
 |.tup [.agg cs,s,k]=>fN 0 (.val (sB [])) s&&(fN 0 (.val (.int .i64 0)) k&&(Nat.beq cs.length 17&&(yS (agE (slB cs 1) (slB cs 4) (slB cs 7)) cs&&(dE m (slB cs 1) 3 (rM dS)&&(dE m (slB cs 4) 3 (rM dS)&&dE m (slB cs 7) 3 (rM [1]))))))
 |_=>false
def atI:List PC:=[.p (.agg (amZ.map .val))]
noncomputable def aiB (B:aE):Bool:=match dR B iT JK 6 (bX (bQ 1 []).2 atI).1 {H:=tB (bQ 1 []).1,nb:=([]:List IB).length,nc:=(bX (bQ 1 []).2 atI).2}with
 |some (r,m)=>aiA r m&&zE (bQ 1 []).1 m
 |none=>false
theorem atJ (B:aE):aiB B=true:=by kernel_rfl
theorem aiC {ρ:Env}{B:aE}{G:Nat->Prop}{w:World}{b1 b2 b3:Nat}{vs:List Value}(h:gT ρ B G w (agE b1 b2 b3) vs):∃v1 v2 v3 r,vs=bH v1 v2 v3++r/\PJ ρ B G w (.rox b1 8 1) v1/\PJ ρ B G w (.rox b2 8 1) v2/\PJ ρ B G w (.rox b3 1 1) v3:=by
 obtain⟨y0,_,rfl,b0,y1,_,rfl,b1,y2,_,rfl,b2,y3,_,rfl,b3,y4,_,rfl,b4,y5,_,rfl,b5,y6,_,rfl,b6,y7,_,rfl,b7,y8,_,rfl,b8,y9,_,rfl,b9,ya,_,rfl,ba,yb,_,rfl,bb,yc,_,rfl,bc,y13,_,rfl,bd,yd,_,rfl,be,ye,_,rfl,bf,yf,r,rfl,bg,_⟩:=h;refine⟨y1,y4,y7,r,?_,b1,b4,b7⟩;rw[aV b0,aV b2,aV b3,aV b5,aV b6,aV b8,aV b9,aV ba,aV bb,aV bc,aV bd,aV be,aV bf,aV bg];rfl
set_option maxRecDepth 100000 in
theorem aiD (w:World):Calls prog 6 #[.agg amZ.toArray] w fun e w'=>∃v1 v2 v3,e=.returned (.tuple #[.agg (bH v1 v2 v3).toArray,sB [],.int .i64 0])/\
  jJ (fun g=>w.heap.size<=g) w' v1 dS/\jJ (fun g=>w.heap.size<=g) w' v2 dS/\jJ (fun g=>w.heap.size<=g) w' v3 [1]/\Below w.heap.size w w':=by
 have ha:aiB ⟨fun _=>False,w,fun _=>none⟩=true:=atJ _
 unfold aiB at ha
 refine(mL (B:=⟨fun _=>False,w,fun _=>none⟩) (fun _ _ h=>by cases h) (bY (bD aH aH aH aH) qX) (sh:=id) (sv:=id) (fun _ _ _ h=>h) (nc0:=1) (ib:=[]) (ps:=atI) (chk:=aiA) ha (by decide) (fun _=>none) (fun _=>none) (fun _ _=>rfl) (fun _ _=>rfl) (fun _ _ _ _ h=>by cases h) w ⟨fun _ h=>False.elim h,fun _ h=>False.elim h⟩ (fun _ _ h=>by cases h) (G:=fun _=>False) (fun _ _ h=>by cases h) (fun _ _ h=>by cases h) [.agg amZ.toArray]
  ⟨_,_,rfl,⟨amZ,rfl,_,_,rfl,rfl,_,_,rfl,rfl,_,_,rfl,rfl,_,_,rfl,rfl,_,_,rfl,rfl,_,_,rfl,rfl,_,_,rfl,rfl,_,_,rfl,rfl,_,_,rfl,rfl,_,_,rfl,rfl,rfl⟩,rfl⟩).mono ?_
 rintro e w' ⟨x,ρ',r,m',rfl,hk,hx,O,hb,_,hnew⟩
 unfold aiA at hk
 split at hk
 case h_2=>cases hk
 rename_i cs s k
 simp only[aD3]at hk
 obtain⟨k1,k2,k3,k4,k5,k6,k7⟩:=hk
 have k3:=aEA k3
 unfold aO at hx
 obtain⟨ys,hi,rfl⟩:∃ys,aT ρ' [.agg cs,s,k]=some ys/\x=.tuple ys.toArray:=by
  revert hx
  cases aT ρ' [.agg cs,s,k]with
  |none=>intro h;cases h
  |some ys=>intro h;injection h with h;exact⟨ys,rfl,h.symm⟩
 obtain⟨y0,q0,g0,hc,rfl⟩:=aG.1 hi
 obtain⟨y1,q1,g1,hd,rfl⟩:=aG.1 hc
 obtain⟨y2,q2,g2,hf,rfl⟩:=aG.1 hd
 obtain rfl:q2=[]:=by
  have:=bN hf;exact aD8 (by simpa using this)
 unfold aO at g0
 obtain⟨zs,hh,rfl⟩:∃zs,aT ρ' cs=some zs/\y0=.agg zs.toArray:=by
  revert g0
  cases aT ρ' cs with
  |none=>intro h;cases h
  |some ys=>intro h;injection h with h;exact⟨ys,rfl,h.symm⟩
 have e1:=jL k1 g1
 have e2:y2=.int .i64 0:=aV (O.mat (.p (.val (.int .i64 0))) _ _ k2 trivial g2)
 obtain⟨j1,_⟩:=O.mats _ cs zs k4 (by exact⟨trivial,trivial,trivial,trivial,trivial,trivial,trivial,trivial,trivial,trivial,trivial,trivial,trivial,trivial,trivial,trivial,trivial,trivial⟩) hh
 obtain⟨v1,v2,v3,r,rfl,i1,i2,i3⟩:=aiC j1
 obtain rfl:r=[]:=aD8 (by
  have:=bN hh;rw[aD2,show(bH v1 v2 v3).length=17 from rfl]at this;omega)
 have hj:∀{b:Nat} {t:TypeId} {qs:List PC},dE m' b t qs=true->∃k,m'.H.get b=some k:=fun {b t qs} h=>by
  unfold dE at h
  cases hg:m'.H.get b with
  |none=>rw[hg]at h;cases h
  |some k=>exact⟨k,rfl⟩
 have own:∀{b:Nat} {l:List Int} {v:Value},dE m' b 3 (rM l)=true->PJ ρ' ⟨fun _=>False,w,fun _=>none⟩ (fun g=>(False∨w.heap.size<=g)/\¬dD ρ' m' g) w' (.rox b l.length 1) v->jJ (fun g=>w.heap.size<=g) w' v l:=fun {b l v} h i=>by
  obtain⟨I,q,hq,ho,_⟩:=uG O h i;obtain⟨k,hk⟩:=hj h
  exact⟨I,fun _ g hg=>by
   rw[ho]at hg;injection hg with hg
   subst hg;exact hnew b k q (aES _) hk hq⟩
 refine⟨v1,v2,v3,?_,own (l:=dS) k5 i1,own (l:=dS) k6 i2,own (l:=[1]) k7 i3,hb⟩
 rw[aET,e1,e2]
end Go.Proofs.YtoeiaflkdcbkdaaGreatDoor
