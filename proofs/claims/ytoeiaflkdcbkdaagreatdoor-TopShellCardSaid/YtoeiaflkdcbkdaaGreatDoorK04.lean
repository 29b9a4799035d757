/- TopShell, part 4 of 36. -/
import Derived.WalkKit
import Derived.WalkSpells
import Derived.WalkLawsBesides
import Derived.Lib.Hide
import Derived.Lib.OthersKept
import Derived.Laws.OwnMore
import Derived.Shelf.Unicode.ValidAny
import Derived.Shelf.Strings.Builder1
import Derived.Shelf.Small.Utf8
import Derived.Shelf.Small.Bits
import Derived.Shelf.Small.Strs
import Derived.Shelf.Strings.BuilderF
import Derived.Shelf.Strings.BuilderK
import Derived.Shelf.Strings.BuilderRune
import Derived.Shelf.Utf8.AppendRunePlain
import Derived.Shelf.Utf8.RuneCount
import Derived.Shelf.Strconv.Itoa0
import Derived.Shelf.Strings.Search1
import Derived.Shelf.Strings.Search2
import Derived.Shelf.Strings.Search3
import Derived.Shelf.Strings.Cut
import Derived.Shelf.Strings.Count
import Derived.Shelf.LaysM
import Derived.Shelf.Strings.Shaped
import Derived.Shelf.Sort.Plain
import Derived.Shelf.Strings.Prefix
import Derived.Shelf.Strings.Runes
import Derived.Shelf.Strings.AsciiSet
import Derived.Shelf.Unicode.DecodeSlow
import Derived.Shelf.Unicode.DecodeAny
import Derived.Shelf.Slices.Turned
import Derived.Shelf.Slices.Reverse
import Derived.Ground.Names2Prog
import Derived.Shelf.Slices.Clone
import Derived.Shelf.Slices.SearchI
import Derived.Shelf.Slices.Cells
import Derived.Shelf.Slices.In.SortNone
import Derived.Ground.SlgfProg
import Derived.Shelf.SlicesQ.IndexFunc
import Derived.Test.YtoeiaflkdcbkdaaGreatDoorProg
import Derived.Ground.NamesProg
import Derived.Shelf.Strings.Split
import Derived.KernelRfl
import Derived.Recover
import Derived.Maps.RangeWalk
import Derived.Sort.KeysCollected
import Derived.Sort.OwnSorted
import Derived.Maps.AppendAt
import Derived.Deep.QuietTactic
import Derived.BigQuiet
import Derived.Lib.SlBuf
import Derived.Test.YtoeiaflkdcbkdaaGreatDoorK03
set_option maxHeartbeats 16000000
set_option linter.unusedVariables false
set_option linter.unusedSimpArgs false
section
namespace Go.Proofs.YtoeiaflkdcbkdaaGreatDoor
open Go.RowKit
variable {p:Prop}{w w':World}{B size n c:Nat}{e:TypeId}{v:Value}{xs:List Value}{l:List Int}
theorem kX {k:IntKind}{a b:Int}(h:a=b):Ending.returned (.int k a)=.returned (.int k b):=by rw[h]
theorem jQ {a b:Bool}(h:a=b):Ending.returned (.bool a)=.returned (.bool b):=by rw[h]
def Aside (p:Prop):Prop:=p
theorem Aside.out (h:Aside p):p:=h
theorem aside (h:p):Aside p:=h
def ints (l:List Int):List Value:=l.map (Value.int .i64)
theorem aQ (l:List Int):(ints l).length=l.length:=by simp[ints]
theorem aS (a b:List Int):ints (a++b)=ints a++ints b:=by simp[ints]
theorem NT (l:List Int):∀u∈ints l,u.oneCell'=true:=ints_oneCell .i64 l
theorem mC (l:List Int)(j:Nat)(h:j<l.length):(ints l)[j]?=some (.int .i64 (l.getD j 0)):=by
 simp[ints,h]
theorem eZ {B':Nat}(h:w.ownsRow B e size v n xs)(hB:B'<=B):w.ownsRow B' e size v n xs:=by
 obtain⟨h1,h2⟩:=h;refine⟨h1,?_⟩;rcases h2 with h2|⟨g,cap,cur,a,b,c⟩
 ·exact .inl h2
 ·exact .inr ⟨g,cap,cur,a,by omega,c⟩
theorem YB (h:w.ownsRow B e size v n xs)(k:Nat):(w.drewN k).ownsRow B e size v n xs:=h
def aC (w:World)(v:Value)(l:List Int):Prop:=
 ∃A c,v=.slice A l.length c/\l.length<=c/\c<=9223372036854775807/\(0<l.length->∃b off,A=some ⟨b,off,none⟩/\∀j,j<l.length->w.cell? ⟨b,off+j,none⟩=some (.int .i64 (l.getD j 0)))
theorem aC.nil_ (w:World)(A:Option Addr)(c:Nat)(hc:c<=9223372036854775807):aC w (.slice A 0 c) []:=⟨A,c,rfl,aES _,hc,fun h=>absurd h (by simp)⟩
theorem aC.keep (h:aC w v l)(hk:∀b o,b<w.heap.size->w'.cell? ⟨b,o,none⟩=w.cell? ⟨b,o,none⟩):aC w' v l:=by
 obtain⟨A,c,rfl,h0,h1,h2⟩:=h;refine⟨A,c,rfl,h0,h1,fun hp=>?_⟩;obtain⟨b,off,rfl,hc⟩:=h2 hp;refine⟨b,off,rfl,fun j hj=>?_⟩;have ha:=World.block_lt_of_cell? w _ (hc j hj);rw[hk b _ ha];exact hc j hj
theorem aC.below (h:aC w v l)(hb:Below B w w')(hB:w.heap.size<=B):aC w' v l:=
 h.keep fun b o ha=>hb.cell (p:=⟨b,o,none⟩) (by show b<B;omega)
theorem aC.drewN (h:aC w v l)(n:Nat):aC (w.drewN n) v l:=h
theorem aC.alloc (h:aC w v l)(o:Obj):aC (w.alloc o) v l:=
 h.keep fun b off ha=>World.cell?_alloc_lt w o ⟨b,off,none⟩ ha
theorem aC.of_own (h:w.ownsRow B e 1 v l.length (ints l)):aC w v l:=by
 rcases h.2 with⟨rfl,h0⟩|⟨g,cap,cur,rfl,_,_,ha,hb,_⟩
 ·have:l=[]:=aD8 h0;subst this;exact aC.nil_ _ _ _ (by omega)
 ·refine⟨_,cap,rfl,ha,hb,fun _=>⟨g,0,rfl,fun j hj=>?_⟩⟩;have:=h.cellAt j (by omega);rw[aEV,this,mC l j hj]
theorem aC.take_ {A:Option Addr}(h:aC w (.slice A n c) l)(k:Nat)(hk:k<=l.length):aC w (.slice A k c) (l.take k):=by
 obtain⟨A',c1,he,h0,h1,h2⟩:=h;injection he with e1 e3 e4
 subst e1;subst e4;have hl:(l.take k).length=k:=by simp;omega
 refine⟨A,c,by rw[hl],by omega,h1,fun hp=>?_⟩;obtain⟨b,off,rfl,hc⟩:=h2 (by omega);refine⟨b,off,rfl,fun j hj=>?_⟩;rw[hc j (by omega)]
 have:(l.take k).getD j 0=l.getD j 0:=by
  simp only[aD9,aE5];rw[aD6 (by omega)]
 rw[this]
theorem CQ {a:Addr}{zs:List Int}(hn:n<=c)(hc:c<=9223372036854775807)(hz:zs.length=c)(ha:∀i,i<zs.length->w.cell? (a.add i)=some (.int .i64 (zs.getD i 0))):aC w (.slice (some a) n c) (zs.take n):=by
 have hl:(zs.take n).length=n:=by simp;omega
 refine⟨some a,c,by rw[hl],by omega,hc,fun hp=>?_⟩;obtain⟨ab,ao,spot⟩:=a;have hb:spot=none:=by simpa [Addr.add]using World.cell?_spot (ha 0 (by omega))
 subst hb;refine⟨ab,ao,rfl,fun j hj=>?_⟩;have h1:=ha j (by omega)
 have h2:(zs.take n).getD j 0=zs.getD j 0:=by
  simp only[aD9,aE5];rw[aD6 (by omega)]
 rw[h2,<-h1];unfold Addr.add;split
 ·rename_i h;subst h;rfl
 ·rfl
end Go.Proofs.YtoeiaflkdcbkdaaGreatDoor
namespace Go
abbrev aHL:=@Go.Lib.hid
abbrev aHM:=@Go.cell_of_row
abbrev aHN:=@Go.World.ownsRow_nil
abbrev aHO:=@Go.heap_alloc_new
abbrev aHP:=@Go.bodyPost_ret_by
abbrev aHQ:=@Go.World.block_lt_of_cell?
abbrev aHR:=@Go.heap_alloc_old
abbrev aHS:=@Go.RowKit.ownsRow_setCell_below
abbrev aHT:=@Go.info_parts
abbrev aHU:=@Go.wpList_append_own
abbrev aHV:=@Go.run_underlying
abbrev aHW:=@Go.World.cell?_of_block
abbrev aHX:=@Go.wpList_load_row
abbrev aHY:=@Go.Lib.cell_of_heap
abbrev aHZ:=@Go.cell_one_new
abbrev aH0:=@Go.results_cell_row
abbrev aH1:=@Go.Result.andThen_ok
abbrev aH2:=@Go.Sem.run_bind
abbrev aH3:=@Go.Sem.run_pure
abbrev aH4:=@Go.rounds_succ
abbrev aH5:=@Go.World.ownsRow.alloc
end Go
end
namespace Go.Proofs
open Go.Shelf
def Tryz.lays169_ren:Go.Shelf.Ren:=⟨fun|169=>33|n=>n,fun|70=>87|9=>9|0=>0|72=>89|37=>79|127=>145|3=>3|5=>5|n=>n,fun|n=>n⟩
theorem Tryz.lays169:Go.Proofs.Lays.n169 Tryz.prog Tryz.lays169_ren:={
 mixed:=by kernel_rfl
 f169:=Tryz.func33.trans (aEK some (by kernel_rfl))
 t0:=Tryz.underlying0
 a0:=Tryz.isAgg0
 z0:=Tryz.sizeOf0
 v0:=Tryz.zeroValue0
 t3:=Tryz.underlying3
 a3:=Tryz.isAgg3
 z3:=Tryz.sizeOf3
 v3:=Tryz.zeroValue3
 t9:=Tryz.underlying9
 a9:=Tryz.isAgg9
 z9:=Tryz.sizeOf9
 v9:=Tryz.zeroValue9
 t37:=Tryz.underlying79
 a37:=Tryz.isAgg79
 z37:=Tryz.sizeOf79
 v37:=Tryz.zeroValue79
 t70:=Tryz.underlying87
 a70:=Tryz.isAgg87
 z70:=Tryz.sizeOf87
 v70:=Tryz.zeroValue87
 t72:=Tryz.underlying89
 a72:=Tryz.isAgg89
 z72:=Tryz.sizeOf89
 v72:=Tryz.zeroValue89
 t127:=Tryz.underlying145
 a127:=Tryz.isAgg145
 z127:=Tryz.sizeOf145
 v127:=Tryz.zeroValue145}
theorem Tryz.Builder_Extra_169:Builder.Extra Tryz.prog Tryz.lays169_ren:={
 sizeBuilder:=by kernel_rfl
 liesBuilder:=by kernel_rfl
 t5:=Tryz.underlying5
 a5:=Tryz.isAgg5
 z5:=Tryz.sizeOf5
 v5:=Tryz.zeroValue5
 infoByte:=by kernel_rfl
 cellsByte:=by kernel_rfl
 sizeByte:=by kernel_rfl
 neB5:=by decide}
open Go.RowKit in
theorem Tryz.Builder_String_any (B b:Nat)(l:List UInt8)(w:World)(h:Lib.IsBuilder 89 5 B b (Lib.byteCells l) w)(hBw:B<=w.heap.size):
 Calls Tryz.prog 33 #[.pointer (some ⟨b,0,none⟩)] w fun e w'=>e=.returned (.string ⟨l.toArray⟩)/\Below B w w':=Any.Builder_String_any Tryz.lays169 Tryz.Builder_Extra_169 B b l w h hBw
def Tryz.lays219_ren:Go.Shelf.Ren:=⟨fun|219=>94|217=>164|225=>165|224=>166|267=>167|266=>207|314=>208|n=>n,fun|9=>9|3=>3|4=>4|5=>5|46=>237|146=>285|51=>284|n=>n,fun|1=>0|n=>n⟩
theorem Tryz.lays219:Go.Proofs.Lays.n219 Tryz.prog Tryz.lays219_ren:={
 mixed:=by kernel_rfl
 f217:=Tryz.func164.trans (aEK some (by kernel_rfl))
 f219:=Tryz.func94.trans (aEK some (by kernel_rfl))
 f224:=Tryz.func166.trans (aEK some (by kernel_rfl))
 f225:=Tryz.func165.trans (aEK some (by kernel_rfl))
 f266:=Tryz.func207.trans (aEK some (by kernel_rfl))
 f267:=Tryz.func167.trans (aEK some (by kernel_rfl))
 f314:=Tryz.func208.trans (aEK some (by kernel_rfl))
 t3:=Tryz.underlying3
 a3:=Tryz.isAgg3
 z3:=Tryz.sizeOf3
 v3:=Tryz.zeroValue3
 t4:=Tryz.underlying4
 a4:=Tryz.isAgg4
 z4:=Tryz.sizeOf4
 v4:=Tryz.zeroValue4
 t5:=Tryz.underlying5
 a5:=Tryz.isAgg5
 z5:=Tryz.sizeOf5
 v5:=Tryz.zeroValue5
 t9:=Tryz.underlying9
 a9:=Tryz.isAgg9
 z9:=Tryz.sizeOf9
 v9:=Tryz.zeroValue9
 t46:=Tryz.underlying237
 a46:=Tryz.isAgg237
 z46:=Tryz.sizeOf237
 v46:=Tryz.zeroValue237
 t51:=Tryz.underlying284
 a51:=Tryz.isAgg284
 z51:=Tryz.sizeOf284
 v51:=Tryz.zeroValue284
 t146:=Tryz.underlying285
 a146:=Tryz.isAgg285
 z146:=Tryz.sizeOf285
 v146:=Tryz.zeroValue285
 g1:=by kernel_rfl}
open Go.RowKit Go.Lib in
theorem Tryz.stringslite_Index (s sub:ByteArray)(m:Int)(w:World)(hs:s.size<4294967281)(hm:w.cell? ⟨0,0,none⟩=some (.int .i64 m)):
 Calls Tryz.prog 94 #[.string s,.string sub] w fun e w'=>e=.returned (.int .i64 (Lib.index s.data.toList sub.data.toList))/\w'=w:=Any.stringslite_Index Tryz.lays219 s sub m w hs hm
def Tryz.laysM219_ren:Go.Shelf.Ren:=⟨fun|219=>94|217=>164|225=>165|224=>166|267=>167|266=>207|314=>208|n=>n,fun|9=>9|3=>3|4=>4|5=>5|46=>237|146=>285|51=>284|n=>n,fun|1=>0|n=>n⟩
theorem Tryz.laysM219:Go.Proofs.LaysM.n219 Tryz.prog Tryz.laysM219_ren:={
 mixed:=by kernel_rfl
 f217:=Tryz.func164.trans (aEK some (by kernel_rfl))
 f219:=Tryz.func94.trans (aEK some (by kernel_rfl))
 f224:=Tryz.func166.trans (aEK some (by kernel_rfl))
 f225:=Tryz.func165.trans (aEK some (by kernel_rfl))
 f266:=Tryz.func207.trans (aEK some (by kernel_rfl))
 f267:=Tryz.func167.trans (aEK some (by kernel_rfl))
 f314:=Tryz.func208.trans (aEK some (by kernel_rfl))
 t3:=Tryz.underlying3
 a3:=Tryz.isAgg3
 z3:=Tryz.sizeOf3
 v3:=Tryz.zeroValue3
 t4:=Tryz.underlying4
 a4:=Tryz.isAgg4
 z4:=Tryz.sizeOf4
 v4:=Tryz.zeroValue4
 t5:=Tryz.underlying5
 a5:=Tryz.isAgg5
 z5:=Tryz.sizeOf5
 v5:=Tryz.zeroValue5
 t9:=Tryz.underlying9
 a9:=Tryz.isAgg9
 z9:=Tryz.sizeOf9
 v9:=Tryz.zeroValue9
 t46:=Tryz.underlying237
 a46:=Tryz.isAgg237
 z46:=Tryz.sizeOf237
 v46:=Tryz.zeroValue237
 t51:=Tryz.underlying284
 a51:=Tryz.isAgg284
 z51:=Tryz.sizeOf284
 v51:=Tryz.zeroValue284
 t146:=Tryz.underlying285
 a146:=Tryz.isAgg285
 z146:=Tryz.sizeOf285
 v146:=Tryz.zeroValue285
 g1:=by kernel_rfl
 i3:=by kernel_rfl
 i4:=by kernel_rfl
 i5:=by kernel_rfl
 i9:=by kernel_rfl
 i46:=by kernel_rfl
 i51:=by kernel_rfl
 i146:=by kernel_rfl
 m1:=by kernel_rfl
 s1_3:=fun w h=>Go.Proofs.cell_of_shapedOpen_int (zero:=#[.int .i64 0]) (t:=3) h (aE3 (by kernel_rfl)) (by kernel_rfl) rfl (by kernel_rfl) (by kernel_rfl) Tryz.underlying3}
def Tryz.lays190_ren:Go.Shelf.Ren:=⟨fun|190=>391|125=>413|258=>412|128=>433|129=>375|302=>424|303=>425|304=>426|305=>427|306=>428|307=>429|308=>430|309=>431|310=>432|333=>439|329=>440|330=>441|334=>442|335=>443|336=>444|344=>445|n=>n,fun|31=>52|9=>9|3=>3|46=>237|0=>0|51=>284|53=>257|4=>4|183=>519|182=>518|131=>271|5=>5|218=>525|222=>215|228=>530|229=>235|n=>n,fun|n=>n⟩
theorem Tryz.lays190:Go.Proofs.Lays.n190 Tryz.prog Tryz.lays190_ren:={
 mixed:=by kernel_rfl
 f125:=Tryz.func413.trans (aEK some (by kernel_rfl))
 f128:=Tryz.func433.trans (aEK some (by kernel_rfl))
 f129:=Tryz.func375.trans (aEK some (by kernel_rfl))
 f190:=Tryz.func391.trans (aEK some (by kernel_rfl))
 f258:=Tryz.func412.trans (aEK some (by kernel_rfl))
 f302:=Tryz.func424.trans (aEK some (by kernel_rfl))
 f303:=Tryz.func425.trans (aEK some (by kernel_rfl))
 f304:=Tryz.func426.trans (aEK some (by kernel_rfl))
 f305:=Tryz.func427.trans (aEK some (by kernel_rfl))
 f306:=Tryz.func428.trans (aEK some (by kernel_rfl))
 f307:=Tryz.func429.trans (aEK some (by kernel_rfl))
 f308:=Tryz.func430.trans (aEK some (by kernel_rfl))
 f309:=Tryz.func431.trans (aEK some (by kernel_rfl))
 f310:=Tryz.func432.trans (aEK some (by kernel_rfl))
 f329:=Tryz.func440.trans (aEK some (by kernel_rfl))
 f330:=Tryz.func441.trans (aEK some (by kernel_rfl))
 f333:=Tryz.func439.trans (aEK some (by kernel_rfl))
 f334:=Tryz.func442.trans (aEK some (by kernel_rfl))
 f335:=Tryz.func443.trans (aEK some (by kernel_rfl))
 f336:=Tryz.func444.trans (aEK some (by kernel_rfl))
 f344:=Tryz.func445.trans (aEK some (by kernel_rfl))
 t0:=Tryz.underlying0
 a0:=Tryz.isAgg0
 z0:=Tryz.sizeOf0
 v0:=Tryz.zeroValue0
 t3:=Tryz.underlying3
 a3:=Tryz.isAgg3
 z3:=Tryz.sizeOf3
 v3:=Tryz.zeroValue3
 t4:=Tryz.underlying4
 a4:=Tryz.isAgg4
 z4:=Tryz.sizeOf4
 v4:=Tryz.zeroValue4
 t5:=Tryz.underlying5
 a5:=Tryz.isAgg5
 z5:=Tryz.sizeOf5
 v5:=Tryz.zeroValue5
 t9:=Tryz.underlying9
 a9:=Tryz.isAgg9
 z9:=Tryz.sizeOf9
 v9:=Tryz.zeroValue9
 t31:=Tryz.underlying52
 a31:=Tryz.isAgg52
 z31:=Tryz.sizeOf52
 v31:=Tryz.zeroValue52
 t46:=Tryz.underlying237
 a46:=Tryz.isAgg237
 z46:=Tryz.sizeOf237
 v46:=Tryz.zeroValue237
 t51:=Tryz.underlying284
 a51:=Tryz.isAgg284
 z51:=Tryz.sizeOf284
 v51:=Tryz.zeroValue284
 t53:=Tryz.underlying257
 a53:=Tryz.isAgg257
 z53:=Tryz.sizeOf257
 v53:=Tryz.zeroValue257
 t131:=Tryz.underlying271
 a131:=Tryz.isAgg271
 z131:=Tryz.sizeOf271
 v131:=Tryz.zeroValue271
 t182:=Tryz.underlying518
 a182:=Tryz.isAgg518
 z182:=Tryz.sizeOf518
 v182:=Tryz.zeroValue518
 t183:=Tryz.underlying519
 a183:=Tryz.isAgg519
 z183:=Tryz.sizeOf519
 v183:=Tryz.zeroValue519
 t218:=Tryz.underlying525
 a218:=Tryz.isAgg525
 z218:=Tryz.sizeOf525
 v218:=Tryz.zeroValue525
 t222:=Tryz.underlying215
 a222:=Tryz.isAgg215
 z222:=Tryz.sizeOf215
 v222:=Tryz.zeroValue215
 t228:=Tryz.underlying530
 a228:=Tryz.isAgg530
 z228:=Tryz.sizeOf530
 v228:=Tryz.zeroValue530
 t229:=Tryz.underlying235
 a229:=Tryz.isAgg235
 z229:=Tryz.sizeOf235
 v229:=Tryz.zeroValue235}
open Go.Sort Go.RowKit in
theorem Tryz.slices_Sort_string (blk off cap:Nat)(ss:List (List UInt8))(w:World)(hH:Holds encStr w blk off ss.toArray)(hblk:blk<w.heap.size)(hsz:ss.length<4611686018427387904):
 Calls Tryz.prog 391 #[.slice (some ⟨blk,off,none⟩) ss.length cap] w fun e w'=>
  e=.returned (.tuple #[])/\∃n os,w'=grow (putRow encStr (Sort.ahead w n) blk off (ss.mergeSort fun x y=>decide (x<=y)).toArray) os:=Any.slices_Sort_string Tryz.lays190 blk off cap ss w hH hblk hsz
def Tryz.lays108_ren:Go.Shelf.Ren:=⟨fun|108=>488|n=>n,fun|28=>22|3=>3|0=>0|4=>4|n=>n,fun|n=>n⟩
theorem Tryz.lays108:Go.Proofs.Lays.n108 Tryz.prog Tryz.lays108_ren:={
 mixed:=by kernel_rfl
 f108:=Tryz.func488.trans (aEK some (by kernel_rfl))
 t0:=Tryz.underlying0
 a0:=Tryz.isAgg0
 z0:=Tryz.sizeOf0
 v0:=Tryz.zeroValue0
 t3:=Tryz.underlying3
 a3:=Tryz.isAgg3
 z3:=Tryz.sizeOf3
 v3:=Tryz.zeroValue3
 t4:=Tryz.underlying4
 a4:=Tryz.isAgg4
 z4:=Tryz.sizeOf4
 v4:=Tryz.zeroValue4
 t28:=Tryz.underlying22
 a28:=Tryz.isAgg22
 z28:=Tryz.sizeOf22
 v28:=Tryz.zeroValue22}
open Go.Lib in
theorem Tryz.slices_Index_int (b off n c:Nat)(zs:List Int)(x:Int)(w:World)(hz:n<=zs.length)(hbig:n<=9223372036854775807)(hc:∀j,j<zs.length->w.cell? ⟨b,off+j,none⟩=some (.int .i64 (zs.getD j 0))):
 Calls Tryz.prog 488 #[.slice (some ⟨b,off,none⟩) n c,.int .i64 x] w fun e w'=>e=.returned (.int .i64 (Lib.idxOf (zs.take n) x))/\w'=w:=Any.slices_Index_int Tryz.lays108 b off n c zs x w hz hbig hc
open Go.Lib in
theorem Tryz.slices_Index_int_empty (a:Option Addr)(c:Nat)(x:Int)(w:World):
 Calls Tryz.prog 488 #[.slice a 0 c,.int .i64 x] w fun e w'=>e=.returned (.int .i64 (Lib.idxOf [] x))/\w'=w:=Any.slices_Index_int_empty Tryz.lays108 a c x w
def Tryz.lays107_ren:Go.Shelf.Ren:=⟨fun|107=>483|108=>488|n=>n,fun|28=>22|3=>3|4=>4|0=>0|n=>n,fun|n=>n⟩
theorem Tryz.lays107:Go.Proofs.Lays.n107 Tryz.prog Tryz.lays107_ren:={
 mixed:=by kernel_rfl
 f107:=Tryz.func483.trans (aEK some (by kernel_rfl))
 f108:=Tryz.func488.trans (aEK some (by kernel_rfl))
 t0:=Tryz.underlying0
 a0:=Tryz.isAgg0
 z0:=Tryz.sizeOf0
 v0:=Tryz.zeroValue0
 t3:=Tryz.underlying3
 a3:=Tryz.isAgg3
 z3:=Tryz.sizeOf3
 v3:=Tryz.zeroValue3
 t4:=Tryz.underlying4
 a4:=Tryz.isAgg4
 z4:=Tryz.sizeOf4
 v4:=Tryz.zeroValue4
 t28:=Tryz.underlying22
 a28:=Tryz.isAgg22
 z28:=Tryz.sizeOf22
 v28:=Tryz.zeroValue22}
open Go.Lib in
theorem Tryz.slices_Contains_int (b off n c:Nat)(zs:List Int)(x:Int)(w:World)(hz:n<=zs.length)(hbig:n<=9223372036854775807)(hc:∀j,j<zs.length->w.cell? ⟨b,off+j,none⟩=some (.int .i64 (zs.getD j 0))):
 Calls Tryz.prog 483 #[.slice (some ⟨b,off,none⟩) n c,.int .i64 x] w fun e w'=>e=.returned (.bool ((zs.take n).contains x))/\w'=w:=Any.slices_Contains_int Tryz.lays107 b off n c zs x w hz hbig hc
open Go.Lib in
theorem Tryz.slices_Contains_int_empty (a:Option Addr)(c:Nat)(x:Int)(w:World):
 Calls Tryz.prog 483 #[.slice a 0 c,.int .i64 x] w fun e w'=>e=.returned (.bool false)/\w'=w:=Any.slices_Contains_int_empty Tryz.lays107 a c x w
def Tryz.lays112_ren:Go.Shelf.Ren:=⟨fun|112=>540|n=>n,fun|28=>22|3=>3|4=>4|0=>0|n=>n,fun|n=>n⟩
theorem Tryz.lays112:Go.Proofs.Lays.n112 Tryz.prog Tryz.lays112_ren:={
 mixed:=by kernel_rfl
 f112:=Tryz.func540.trans (aEK some (by kernel_rfl))
 t0:=Tryz.underlying0
 a0:=Tryz.isAgg0
 z0:=Tryz.sizeOf0
 v0:=Tryz.zeroValue0
 t3:=Tryz.underlying3
 a3:=Tryz.isAgg3
 z3:=Tryz.sizeOf3
 v3:=Tryz.zeroValue3
 t4:=Tryz.underlying4
 a4:=Tryz.isAgg4
 z4:=Tryz.sizeOf4
 v4:=Tryz.zeroValue4
 t28:=Tryz.underlying22
 a28:=Tryz.isAgg22
 z28:=Tryz.sizeOf22
 v28:=Tryz.zeroValue22}
open Go.RowKit Go.Lib Go.Sort in
theorem Tryz.slices_Reverse_int_empty (a:Option Addr)(cap:Nat)(w:World):
 Calls Tryz.prog 540 #[.slice a 0 cap] w fun e w'=>e=.returned (.tuple #[])/\w'=w:=Any.slices_Reverse_int_empty Tryz.lays112 a cap w
def Tryz.laysNm215_ren:Go.Shelf.Ren:=⟨fun|15=>278|n=>n,fun|22=>22|3=>3|4=>4|n=>n,fun|n=>n⟩
theorem Tryz.laysNm215:Go.Proofs.Lays2.n15 Tryz.prog Tryz.laysNm215_ren:={
 mixed:=by kernel_rfl
 f15:=Tryz.func278.trans (aEK some (by kernel_rfl))
 t3:=Tryz.underlying3
 a3:=Tryz.isAgg3
 z3:=Tryz.sizeOf3
 v3:=Tryz.zeroValue3
 t4:=Tryz.underlying4
 a4:=Tryz.isAgg4
 z4:=Tryz.sizeOf4
 v4:=Tryz.zeroValue4
 t22:=Tryz.underlying22
 a22:=Tryz.isAgg22
 z22:=Tryz.sizeOf22
 v22:=Tryz.zeroValue22
 i3:=by kernel_rfl}
open Go.RowKit Go.Lib in
theorem Tryz.slices_Clone_int (b off n c:Nat)(zs:List Int)(w:World)(hz:n<=zs.length)(hbig:n*8<=140737488355328)(hc:∀j,j<zs.length->w.cell? ⟨b,off+j,none⟩=some (.int .i64 (zs.getD j 0))):
 Calls Tryz.prog 278 #[.slice (some ⟨b,off,none⟩) n c] w fun e w'=>∃v',e=.returned v'/\w'.ownsRow w.heap.size 3 1 v' n ((zs.take n).map (Value.int .i64))/\v'≠ .slice none 0 0/\Below w.heap.size w w':=Any.slices_Clone_int Tryz.laysNm215 b off n c zs w hz hbig hc
open Go.RowKit Go.Lib in
theorem Tryz.slices_Clone_int_nil (n c:Nat)(w:World):
 Calls Tryz.prog 278 #[.slice none n c] w fun e w'=>e=.returned (.slice none 0 0)/\w'=w:=Any.slices_Clone_int_nil Tryz.laysNm215 n c w
open Go.RowKit Go.Lib in
theorem Tryz.slices_Clone_int_zero (a:Addr)(c:Nat)(w:World):
 Calls Tryz.prog 278 #[.slice (some a) 0 c] w fun e w'=>∃v',e=.returned v'/\w'.ownsRow w.heap.size 3 1 v' 0 []/\v'≠ .slice none 0 0/\Below w.heap.size w w':=Any.slices_Clone_int_zero Tryz.laysNm215 a c w
open Go.RowKit Go.Lib Go.Sort in
theorem Tryz.slices_Reverse_int_cells (b off n c:Nat)(zs:List Int)(w:World)(hz:n<=zs.length)(hbig:n<=9223372036854775807)(hc:∀j,j<zs.length->w.cell? ⟨b,off+j,none⟩=some (.int .i64 (zs.getD j 0)))(hf:∀j,j<n->w.frozen? ⟨b,off+j,none⟩=false):
 Calls Tryz.prog 540 #[.slice (some ⟨b,off,none⟩) n c] w fun e w'=>e=.returned (.tuple #[])/\∃q,w'=(w.drewN q).setCells b off ((zs.take n).reverse.map (Value.int .i64)):=Any.slices_Reverse_int_cells Tryz.lays112 b off n c zs w hz hbig hc hf
def Tryz.laysValid_ren:Go.Shelf.Ren:=⟨fun|196=>411|259=>423|n=>n,fun|9=>9|4=>4|3=>3|5=>5|12=>12|119=>294|0=>0|46=>237|139=>297|138=>296|53=>257|n=>n,fun|3=>1|4=>2|n=>n⟩
theorem Tryz.laysValid:Go.Proofs.Lays.n196 Tryz.prog Tryz.laysValid_ren:={
 mixed:=by kernel_rfl
 f196:=Tryz.func411.trans (aEK some (by kernel_rfl))
 f259:=Tryz.func423.trans (aEK some (by kernel_rfl))
 t0:=Tryz.underlying0
 a0:=Tryz.isAgg0
 z0:=Tryz.sizeOf0
 v0:=Tryz.zeroValue0
 t3:=Tryz.underlying3
 a3:=Tryz.isAgg3
 z3:=Tryz.sizeOf3
 v3:=Tryz.zeroValue3
 t4:=Tryz.underlying4
 a4:=Tryz.isAgg4
 z4:=Tryz.sizeOf4
 v4:=Tryz.zeroValue4
 t5:=Tryz.underlying5
 a5:=Tryz.isAgg5
 z5:=Tryz.sizeOf5
 v5:=Tryz.zeroValue5
 t9:=Tryz.underlying9
 a9:=Tryz.isAgg9
 z9:=Tryz.sizeOf9
 v9:=Tryz.zeroValue9
 t12:=Tryz.underlying12
 a12:=Tryz.isAgg12
 z12:=Tryz.sizeOf12
 v12:=Tryz.zeroValue12
 t46:=Tryz.underlying237
 a46:=Tryz.isAgg237
 z46:=Tryz.sizeOf237
 v46:=Tryz.zeroValue237
 t53:=Tryz.underlying257
 a53:=Tryz.isAgg257
 z53:=Tryz.sizeOf257
 v53:=Tryz.zeroValue257
 t119:=Tryz.underlying294
 a119:=Tryz.isAgg294
 z119:=Tryz.sizeOf294
 t138:=Tryz.underlying296
 a138:=Tryz.isAgg296
 z138:=Tryz.sizeOf296
 v138:=Tryz.zeroValue296
 t139:=Tryz.underlying297
 a139:=Tryz.isAgg297
 z139:=Tryz.sizeOf297
 v139:=Tryz.zeroValue297
 g3:=by kernel_rfl
 g4:=by kernel_rfl}
def Tryz.laysSplit_ren:Go.Shelf.Ren:=⟨fun|146=>29|221=>49|268=>89|138=>90|143=>54|195=>118|197=>119|218=>120|219=>94|260=>181|217=>164|225=>165|224=>166|267=>167|266=>207|314=>208|n=>n,fun|9=>9|31=>52|3=>3|4=>4|0=>0|105=>210|21=>21|5=>5|46=>237|119=>294|139=>297|138=>296|146=>285|51=>284|n=>n,fun|1=>0|3=>1|4=>2|n=>n⟩
theorem Tryz.laysSplit:Go.Proofs.Lays.n146 Tryz.prog Tryz.laysSplit_ren:={
 mixed:=by kernel_rfl
 f138:=Tryz.func90.trans (aEK some (by kernel_rfl))
 f143:=Tryz.func54.trans (aEK some (by kernel_rfl))
 f146:=Tryz.func29.trans (aEK some (by kernel_rfl))
 f195:=Tryz.func118.trans (aEK some (by kernel_rfl))
 f197:=Tryz.func119.trans (aEK some (by kernel_rfl))
 f217:=Tryz.func164.trans (aEK some (by kernel_rfl))
 f218:=Tryz.func120.trans (aEK some (by kernel_rfl))
 f219:=Tryz.func94.trans (aEK some (by kernel_rfl))
 f221:=Tryz.func49.trans (aEK some (by kernel_rfl))
 f224:=Tryz.func166.trans (aEK some (by kernel_rfl))
 f225:=Tryz.func165.trans (aEK some (by kernel_rfl))
 f260:=Tryz.func181.trans (aEK some (by kernel_rfl))
 f266:=Tryz.func207.trans (aEK some (by kernel_rfl))
 f267:=Tryz.func167.trans (aEK some (by kernel_rfl))
 f268:=Tryz.func89.trans (aEK some (by kernel_rfl))
 f314:=Tryz.func208.trans (aEK some (by kernel_rfl))
 t0:=Tryz.underlying0
 a0:=Tryz.isAgg0
 z0:=Tryz.sizeOf0
 v0:=Tryz.zeroValue0
 t3:=Tryz.underlying3
 a3:=Tryz.isAgg3
 z3:=Tryz.sizeOf3
 v3:=Tryz.zeroValue3
 t4:=Tryz.underlying4
 a4:=Tryz.isAgg4
 z4:=Tryz.sizeOf4
 v4:=Tryz.zeroValue4
 t5:=Tryz.underlying5
 a5:=Tryz.isAgg5
 z5:=Tryz.sizeOf5
 v5:=Tryz.zeroValue5
 t9:=Tryz.underlying9
 a9:=Tryz.isAgg9
 z9:=Tryz.sizeOf9
 v9:=Tryz.zeroValue9
 t21:=Tryz.underlying21
 a21:=Tryz.isAgg21
 z21:=Tryz.sizeOf21
 v21:=Tryz.zeroValue21
 t31:=Tryz.underlying52
 a31:=Tryz.isAgg52
 z31:=Tryz.sizeOf52
 v31:=Tryz.zeroValue52
 t46:=Tryz.underlying237
 a46:=Tryz.isAgg237
 z46:=Tryz.sizeOf237
 v46:=Tryz.zeroValue237
 t51:=Tryz.underlying284
 a51:=Tryz.isAgg284
 z51:=Tryz.sizeOf284
 v51:=Tryz.zeroValue284
 t105:=Tryz.underlying210
 a105:=Tryz.isAgg210
 z105:=Tryz.sizeOf210
 v105:=Tryz.zeroValue210
 t119:=Tryz.underlying294
 a119:=Tryz.isAgg294
 z119:=Tryz.sizeOf294
 t138:=Tryz.underlying296
 a138:=Tryz.isAgg296
 z138:=Tryz.sizeOf296
 v138:=Tryz.zeroValue296
 t139:=Tryz.underlying297
 a139:=Tryz.isAgg297
 z139:=Tryz.sizeOf297
 v139:=Tryz.zeroValue297
 t146:=Tryz.underlying285
 a146:=Tryz.isAgg285
 z146:=Tryz.sizeOf285
 v146:=Tryz.zeroValue285
 g1:=by kernel_rfl
 g3:=by kernel_rfl
 g4:=by kernel_rfl}
end Go.Proofs
namespace Go.Sym
open Go Go.Proofs
section
variable {B:aE}
def X0:YQ:={esc:=96,mkz:=368,idx:=207,cnt:=120,ps:=#[3],t:=79,e:=5}
theorem VI:SP Tryz.prog X0 where
 esc:=⟨_,Tryz.func96,by kernel_rfl,by kernel_rfl,by kernel_rfl,by kernel_rfl⟩
 mkz:=⟨_,Tryz.func368,by kernel_rfl,by kernel_rfl,by kernel_rfl,by kernel_rfl⟩
 und:=by kernel_rfl
 idx:=⟨_,Tryz.func207,by kernel_rfl,by kernel_rfl,by kernel_rfl,by kernel_rfl⟩
 cnt:=⟨_,Tryz.func120,by kernel_rfl,by kernel_rfl,by kernel_rfl,by kernel_rfl⟩
theorem L4:Tryz.prog.follows .mixedOrders=true:=by kernel_rfl
theorem auU (A:Array Value)(w:World):CallsD Tryz.prog 312 A .returning w fun e u' w'=>u'=.returning/\(∃v,e=.returned v)/\w'.heap=w.heap/\w'.os=w.os/\w'.tape=w.tape/\w'.output=w.output:=by
 refine callsD_of_wpS Tryz.func312 rfl fun c₀ cs hc=>?_
 have hb:9<=(A++Array.replicate (Tryz.f312.ntmps-A.size) undef).size:=by
  show 9<=(A++Array.replicate (9-A.size) undef).size;simp;omega
 generalize(A++Array.replicate (Tryz.f312.ntmps-A.size) undef)=tm at hb;have h2:2<tm.size:=by omega
 have h3:3<tm.size:=by omega
 have h4:4<tm.size:=by omega
 have h5:5<tm.size:=by omega
 refine wpS_seq (wpS_region ?_);simp[wpOpsS,List.range,List.range.loop,Region.wanted,execOp,resolve,invoke,builtin,recoverD,hc,Act.put,Oper.upon,Act.eval,Exit.thenS,h2,h3];refine wpS_seq (wpS_region ?_);simp[wpOpsS,List.range,List.range.loop,Region.wanted,execOp,Act.put,Oper.upon,Act.eval,Exit.thenS,h2,h3,h4,h5];have ha:∀w,(binOp .neq 20 .nilIface .nilIface).run Tryz.prog w=.ok (.bool false) w:=fun w=>gJ (by kernel_rfl) w
 have hd:∀w,(eqGuard .neq 20 (.tmp 4) (.const .nilIface) .nilIface .nilIface).run Tryz.prog w=.ok () w:=fun w=>rfl
 simp only[hd,ha,Result.andThen_ok];refine wpS_cond (t:=false) (by simp[Act.eval,h5]) ?_;refine wpS_of_wp (wp_skip ?_);refine⟨rfl,.returning,by rw[<-hc],.tuple #[],?_,rfl,⟨_,rfl⟩,rfl,rfl,rfl,rfl⟩;have hr:Tryz.f312.results=#[]:=by kernel_rfl
 unfold results;rw[hr];simp
theorem auV (A:Array Value)(w:World):CallsD Tryz.prog 50 A .returning w fun e u' w'=>u'=.returning/\(∃v,e=.returned v)/\w'.heap=w.heap/\w'.os=w.os/\w'.tape=w.tape/\w'.output=w.output:=by
 refine callsD_of_wpS Tryz.func50 rfl fun c₀ cs hc=>?_
 have hb:8<=(A++Array.replicate (Tryz.f50.ntmps-A.size) undef).size:=by
  show 8<=(A++Array.replicate (8-A.size) undef).size;simp;omega
 generalize(A++Array.replicate (Tryz.f50.ntmps-A.size) undef)=tm at hb;have h2:2<tm.size:=by omega
 have h3:3<tm.size:=by omega
 have h4:4<tm.size:=by omega
 have h1:1<tm.size:=by omega
 refine wpS_seq (wpS_region ?_);simp[wpOpsS,List.range,List.range.loop,Region.wanted,execOp,resolve,invoke,builtin,recoverD,hc,Act.put,Oper.upon,Act.eval,Exit.thenS,h2,h3,h1];refine wpS_seq (wpS_region ?_);simp[wpOpsS,List.range,List.range.loop,Region.wanted,execOp,Act.put,Oper.upon,Act.eval,Exit.thenS,h2,h3,h4,h1];have ha:∀w,(binOp .neq 20 .nilIface .nilIface).run Tryz.prog w=.ok (.bool false) w:=fun w=>gJ (by kernel_rfl) w
 have hd:∀w,(eqGuard .neq 20 (.tmp 3) (.const .nilIface) .nilIface .nilIface).run Tryz.prog w=.ok () w:=fun w=>rfl
 simp only[hd,ha,Result.andThen_ok];refine wpS_cond (t:=false) (by simp[Act.eval,h4]) ?_;refine wpS_of_wp (wp_skip ?_);refine⟨rfl,.returning,by rw[<-hc],.tuple #[],?_,rfl,⟨_,rfl⟩,rfl,rfl,rfl,rfl⟩;have hr:Tryz.f50.results=#[]:=by kernel_rfl
 unfold results;rw[hr];simp
def dqE:FuncId->Bool:=fun g=>Nat.beq g 312 || Nat.beq g 50
theorem aoT:auI Tryz.prog dqE:=by
 intro g hg A w;unfold dqE at hg;rw[aFQ]at hg;rcases hg with h|h
 ·have:=aEA h;subst this;exact⟨⟨_,Tryz.func312,rfl,by kernel_rfl⟩,auU A w⟩
 ·have:=aEA h;subst this;exact⟨⟨_,Tryz.func50,rfl,by kernel_rfl⟩,auV A w⟩
noncomputable def SR (B:aE)(q:Tb):Cx:=auS Tryz.prog X0 B q
noncomputable def dR (B:aE)(q:Tb)(orc:bM):bM:=acP Tryz.prog (SR B q) dqE (EH Tryz.prog (SR B q)) orc 1000
theorem bY {q:Tb}(hq:kY Tryz.prog B q){orc:bM}(h:cH B Tryz.prog orc):cH B Tryz.prog (dR B q orc):=by
 unfold dR;rw[OC];have hC:kV Tryz.prog (SR B q):=VF VI hq;exact OA hC aoT (fun call hc=>C8 L4 hC call hc) h 1000
def JK:bM:=fun _ _ _=>none
theorem qX:cH B Tryz.prog JK:=fun _ _ _ _ _ h=>by cases h
def i (n:Int):Value:= .int .i64 n
def t (l:List Nat):Value:= .string ⟨(l.map UInt8.ofNat).toArray⟩
end
end Go.Sym
section
namespace Go.Proofs.ENames
open Go Go.RowKit Go.Maps Go.Sort Go.Shelf
theorem yI {H:Type}{P:Program}(w:World){ops:Array Oper}{rest:List Oper}{o:Oper}{a:Act}{Q:Exit->Act->World->Prop}
  (hg:o.guard=none) (m x v:Operand) (t:TypeId) (hf:o.op=Op.insert t m x v)
  (k e:TypeId) (K:Keyed P k) (ht:P.underlying t=some (.map k e)) (R:Value->Option (DataW H×List MemPlace)) (b n:Nat) (D:DataW H)
  (hm:a.eval m=.map (some b)) (ha:w.ownsMap P k R b n D) (hn:n<maxLen) (key val:Value) (kl:Lit) (hx:a.eval x=key) (hv:a.eval v=val) (hb:keyOf P k key=some kl)
  (d:DataW H) (ps:List MemPlace) (hc:R val=some (d,ps))
  (hK:∀w',w'.ownsMap P k R b (n+1) (D.put kl d)->w.grownBy w' (some b)->wpList P ops Q rest (a.put o.dst undef) w'):
  wpList P ops Q (o::rest) a w:=by
 refine wpList_plain hg fun K' hh=>?_
 obtain⟨w',hd,r1,r2⟩:=ha.update K ht hn hb hc
 unfold Oper.wp
 simp[execOp,hf,hm,hx,hv,hd,Result.andThen]
 exact hh _ _ (hK w' r1 r2)
theorem YV:Keyed Tryz.prog 9:=string_keyed Tryz.underlying9
theorem aoV (l:List UInt8)(h:Nat.ble l.length maxLen=true):keyOf Tryz.prog 9 (encStr l)=some (.string l):=by
 have h':=aEJ h;have:(⟨l.toArray⟩:ByteArray).size<=maxLen:=by simpa [ByteArray.size]using h'
 simp[keyOf,Tryz.underlying9,mapKey,encStr,this]
abbrev YW:List (List UInt8×Int):=[([97,114,97,98],1632),([97,114,97,98,101,120,116],1776),([98,101,110,103],2534),([100,101,118,97],2406),([102,117,108,108,119,105,100,101],65296),([103,117,106,114],2790),([103,117,114,117],2662),([107,104,109,114],6112),([107,110,100,97],3302),([108,97,111,111],3792),([108,97,116,110],48),([109,97,116,104,115,97,110,98],120812),([109,108,121,109],3430),([109,111,110,103],6160),([109,121,109,114],4160),([111,114,121,97],2918),([116,97,109,108,100,101,99],3046),([116,101,108,117],3174),([116,104,97,105],3664),([116,105,98,116],3872)]
def zD:DataW Unit:=YW.foldl (fun D p=>D.put (.string p.1) (.lit (.int .i64 p.2))) (.map [])
set_option maxRecDepth 100000 in
theorem zeros_any (w:World):Calls Tryz.prog 386 #[] w fun e w'=>∃b,e=.returned (.map (some b))/\w'.ownsMap Tryz.prog 9 (plainElem Tryz.prog 3) b 20 zD/\Below w.heap.size w w'/\w.heap.size<=b:=by
 have hM:=World.ownsMap_made (H:=Unit) w Tryz.prog 9 (plainElem Tryz.prog 3);have hB:Below w.heap.size w (w.alloc (.map #[] 0)):=(Below.refl _ w).alloc (aD1 _) _;have hc:=@run_makeMap Tryz.prog;go_enter Tryz.func386,Tryz.ntmps386;go_wp2_with(refine yI _ rfl _ _ _ _ rfl 9 3 YV Tryz.underlying489 _ _ _ _ rfl hM (by unfold maxLen;omega) (encStr _) _ _ rfl rfl (aoV _ (by rfl)) _ _ (plainElem_int Tryz.underlying3 (by rfl)) ?_;clear hM;intro w1 hM ha;have hb:=hB.grown ha hB.size (fun j hj=>by cases hj;exact aD1 _);clear hB ha;have hB:=hb;clear hb)
 go_ret;exact⟨_,rfl,hM,hB,aD1 _⟩
def namL:List (List UInt8):=YW.map (·.1)
theorem ai9:Maps.size zD=20:=by kernel_rfl
theorem keys_perm:(strKeys zD).isPerm namL=true:=by kernel_rfl
theorem ajA:namL.Pairwise (fun a b=>leB a b=true):=by decide
theorem VN:(strKeys zD).mergeSort leB=namL:=(mergeSort_of_perm (List.isPerm_iff.1 keys_perm)).trans (List.mergeSort_of_pairwise ajA)
theorem au0:(Tryz.prog.info? 9).map (fun i=>(i.zero,i.size,i.bytes))=some (some (.string ⟨#[]⟩),1,16):=by kernel_rfl
set_option maxRecDepth 100000 in
theorem names_any (w:World):Calls Tryz.prog 333 #[] w fun e w'=>∃v,e=.returned v/\w'.ownsRow w.heap.size 9 1 v 20 (namL.map encStr)/\Below w.heap.size w w':=by
 obtain⟨i0,hi,hE,hF,hG⟩:=info_parts au0;go_enter Tryz.func333,Tryz.ntmps333
 go_wp2_with(first
  |(go_at_call 386;refine(zeros_any _).mono ?_;rintro e w1 ⟨b,rfl,hh,hn,hb⟩)
  |(at_range;refine wpList_range_own _ rfl _ 489 rfl 9 3 YV Tryz.underlying489 _ b 20 zD rfl hh ?_;intro w0 hs hI hP))
 go_frame
 go_loopw [1] (fun v wr=>∃(left:Lit->Bool) (cnt:Nat) (ss:List (List UInt8)),wr.ranges Tryz.prog 9 (plainElem Tryz.prog 3) b w1.heap.size 20 zD left cnt/\ss.length+cnt<=20/\
   wr.ownsRow w1.heap.size 9 1 v ss.length (ss.map encStr)/\Collected zD left ss/\Below w.heap.size w wr)
  (fun _ wr=>wr.rangeLeft b w1.heap.size)
 case atStart=>
  exact⟨_,_,[],hs,by rw[ai9];simp,World.ownsRow_nil _ _ _ _,Collected.start zD,hn.grown hI hn.size (fun j hj=>by cases hj)⟩
 case round=>
  obtain⟨left,cnt,ss,hrg,hJ,hf,hC,ho⟩:=hrel
  go_wp2_with(first
   |(at_next;refine wpList_next_ranges _ rfl _ rfl 9 YV (plainElem Tryz.prog 3) encStr (Value.int .i64) (fun key kl hk=>by obtain⟨x,hx,_⟩:=Maps.keyOf_str Tryz.underlying9 hk;exact⟨x,hx⟩) (fun v y hv=>by obtain⟨c,rfl,_⟩:=plainElem_int_inv Tryz.underlying3 hv;exact⟨c,rfl⟩) b w1.heap.size 20 _ _ _ rfl hrg ?_ ?_))
  ·intro hQ hz;have hd:=hC.perm hh YV Tryz.underlying9 hz
   have hlen:ss.length=20:=by
    rw[hd.length_eq];have:=List.length_mergeSort (le:=leB) (strKeys zD);rw[<-this,VN];rfl
   have hg:(ss.mergeSort fun x y=>decide (x<=y))=namL:=(mergeSort_of_perm hd).trans VN;rcases hf.2 with⟨hK,hR⟩|⟨g,cap,cur,rfl,hA,hq,h1,h2,h3,h4⟩
   ·omega
   have hH:Holds encStr wr g 0 ss.toArray:=holds_of_block hq (by simpa using h4);have hL:g<wr.heap.size:=(aD5.1 hq).1;have hc:=Tryz.slices_Sort_string g 0 cap ss wr hH hL (by omega)
   have X:Aside (∀n os,(grow (putRow encStr (Sort.ahead wr n) g 0 (ss.mergeSort fun x y=>decide (x<=y)).toArray) os).ownsRow w.heap.size 9 1 (.slice (some ⟨g,0,none⟩) ss.length cap) 20 (namL.map encStr)/\Below w.heap.size w (grow (putRow encStr (Sort.ahead wr n) g 0 (ss.mergeSort fun x y=>decide (x<=y)).toArray) os)):=by
    intro n os;refine⟨?_,ho.grown (grownBy_sorted _) ho.size (fun j hj=>by cases hj;have:=hn.size;omega)⟩;have:=ownsRow_sorted (n:=n) (os:=os) (ts:=ss.mergeSort fun x y=>decide (x<=y)) (by simp) (show w.heap.size<=g by have:=hn.size;omega) hq h1 h2 h3;rw[hg]at this⊢;rw[<-hlen];exact this
   clear hg hH hq h4 hf hd hlen hJ h1 h2 h3 hz hC hrg;go_wp2_with(go_at_call 391;refine hc.mono ?_;rintro e w' ⟨rfl,nn,os,rfl⟩)
   go_ret;exact⟨_,rfl,(X nn os).1,(X nn os).2⟩
  ·intro x c kl yd yp w2 ca ht hM hv hat hl hlt hr hN hS;obtain⟨x',ex,rfl,_⟩:=Maps.keyOf_str Tryz.underlying9 ht;obtain rfl:x=x':=encStr_inj ex;have ha:=hf.kept hr (Or.inr (row_ne_iter hf hrg).symm);have hO:=hh.lt;have Ha:=Lib.hid (World.ranges.lt hl);clear hN
   go_wp2_with(first
    |(at_builtin;(refine wpList_append_own _ rfl _ _ 52 rfl w1.heap.size 9 i0 (.string ⟨#[]⟩) 1 16 Tryz.underlying52 hi hE hF hG rfl (by decide) _ _ _ rfl (ha.alloc _) ⟨w2.heap.size,0,none⟩ 1 1 [encStr x] rfl rfl (cell_one_new _ _ _) (by simp[Value.oneCell',encStr]) (by unfold maxLen at *;omega) (by omega) (by have:=Ha.out;simp;omega) ?_;intro v' w3 hp hB hD;go_frame)))
   have hrg3:=(hl.alloc _).kept hB (row_ne_low ha hO) (row_ne_iter ha hl);go_roundw
   case rel=>
    refine⟨_,ca,ss++[x],hrg3,by simp;omega,by simpa using hp,hC.step hM hat,?_⟩
    exact((ho.grown hr ho.size (fun j hj=>by cases hj;have:=hn.size;omega)).alloc (by have:=ho.size;have:=hr.size;omega) _).grown hB (by have:=ho.size;have:=hr.size;simp;omega) (fun j hj=>by have:=(ha.lt j hj).1;have:=hn.size;omega)
   case measure=>rw[hrg3.left_eq,hrg.left_eq];exact hlt
end Go.Proofs.ENames
namespace Go.Sym
open Go Go.Proofs Go.RowKit
def EO:List AV:=[.lit (t [97,114,97,98]),.lit (t [97,114,97,98,101,120,116]),.lit (t [98,101,110,103]),.lit (t [100,101,118,97]),.lit (t [102,117,108,108,119,105,100,101]),.lit (t [103,117,106,114]),.lit (t [103,117,114,117]),.lit (t [107,104,109,114]),.lit (t [107,110,100,97]),.lit (t [108,97,111,111]),.lit (t [108,97,116,110]),.lit (t [109,97,116,104,115,97,110,98]),.lit (t [109,108,121,109]),.lit (t [109,111,110,103]),.lit (t [109,121,109,114]),.lit (t [111,114,121,97]),.lit (t [116,97,109,108,100,101,99]),.lit (t [116,101,108,117]),.lit (t [116,104,97,105]),.lit (t [116,105,98,116])]
def SX:bM:=fun f args m=>if Nat.beq f 333&&args.isEmpty then(match qQ m (.cells 9 EO false)with
 |some m'=>some (.slc m.nb 0 20 1 (.lo m.nc 0),{m' with nc:=m.nc+1})
 |none=>none)else none
theorem YX:EO=(ENames.namL.map encStr).map .lit:=by kernel_rfl
theorem YY {B:aE}:cH B Tryz.prog SX:=by
 intro f args m r m' hs ρ w xs hm hk hx;unfold SX at hs;split at hs
 case isFalse=>cases hs
 rename_i hf;rw[aD3]at hf;have:=aEA hf.1;subst this;have:=aHB.1 hf.2;subst this;split at hs
 case h_2=>cases hs
 rename_i m1 hc;injection hs with hs;injection hs with e1 e2;subst e1;subst e2
 rw[aT]at hx;injection hx with hx
 obtain rfl:xs=#[]:=by rw[<-Array.toList_inj,<-hx]
 have hn:=ENames.names_any w;have hlen:EO.length=20:=by kernel_rfl
 have hg:∀ρ',aT ρ' EO=some (ENames.namL.map encStr):=fun ρ'=>by rw[YX];exact dA _
 have hh:∀x∈ENames.namL.map encStr,x.oneCell'=true:=by
  intro x hx;obtain⟨l,_,rfl⟩:=aEZ.1 hx;rfl
 generalize ENames.namL.map encStr=X at hn hg hh;generalize EO=Y at hlen hg hc⊢;refine hn.mono ?_;rintro e w' ⟨v,rfl,hd,hb⟩;rcases hd.2 with⟨_,h0⟩|⟨g,cap,cur,rfl,ha,hi,h1,h2,h3,h4⟩
 ·cases h0
 obtain⟨_,hl⟩:=qR hc;have hS:=aX.new hm (w':=w') (k:= .cells 9 Y false) (g,0,cur.size,Y.length) (some cap) hc ha ?_ (fun k hk=>hb.block k hk) hb.size hb.os hb.tape hb.output
 ·refine⟨_,.slice (some ⟨g,0,none⟩) 20 cap,rfl,?_,hS⟩;exact rU ρ m g 0 cur.size Y.length 20 1 cap _ _ rfl rfl h1 (by rw[hlen];omega) (by omega) h2
 ·refine⟨g,0,cur.size,cur,X,Env.add_new _ _ _ _,hi,rfl,by rw[hlen];omega,hg _,hh,fun j hj=>?_,fun h=>by cases h⟩;rw[hlen]at hj;rw[aEV,<-h4,aE5,aD6 (by omega),aFK]
end Go.Sym
end
namespace Go.Proofs.ENames
open Go Go.RowKit Go.Maps Go.Sort Go.Shelf
abbrev QU:List UInt8:=[108,97,116,110]
theorem ar8:zD=.map (YW.map fun p=>(.string p.1,.lit (.int .i64 p.2))):=by rfl
theorem ar9 {x:List UInt8}{y:DataW Unit}(h:∀zd,zD.atKey (.string x) zd=y):∃c,(x,c)∈YW/\y=.lit (.int .i64 c):=by
 rw[ar8]at h;unfold DataW.atKey at h;simp only at h
 cases hf:(YW.map fun p=>((Lit.string p.1,DataW.lit (.int .i64 p.2)):Lit×DataW Unit)).find? (fun p=>p.1.sameKey (.string x))with
 |none=>
  rw[hf]at h
  have h1:=h (.lit (.bool true))
  have h2:=h (.lit (.bool false))
  rw[<-h1]at h2
  cases h2
 |some p=>
  rw[hf]at h
  have hp:=aE7 hf
  have hk:=aFW hf
  obtain⟨q,hq,rfl⟩:=aEZ.1 hp
  have:q.1=x:=by simpa [Lit.sameKey]using hk
  subst this
  exact⟨q.2,hq,(h (.lit (.bool true))).symm⟩
theorem af7:∀p∈YW,(p.2=48/\p.1=QU)∨(60<p.2/\p.1≠QU):=by decide
set_option maxRecDepth 100000 in
theorem of_any (v:Int)(h0:48<=v)(h9:v<58)(w:World):Calls Tryz.prog 492 #[.int .i64 v] w fun e w'=>e=.returned (.tuple #[encStr QU,.int .i64 (v-48)])/\Below w.heap.size w w':=by
 go_enter Tryz.func492,Tryz.ntmps492
 go_wp2_with(first
  |(go_at_call 386;refine(zeros_any _).mono ?_;rintro e w1 ⟨b,rfl,hc,hf,hb⟩)
  |(at_range;refine wpList_range_own _ rfl _ 489 rfl 9 3 YV Tryz.underlying489 _ b 20 zD rfl hc ?_;intro w0 hd hi hr))
 go_frame
 go_loopw [] (fun wr=>∃(left:Lit->Bool) (cnt:Nat),wr.ranges Tryz.prog 9 (plainElem Tryz.prog 3) b w1.heap.size 20 zD left cnt/\left (.string QU)=true/\Below w.heap.size w wr)
  (fun wr=>wr.rangeLeft b w1.heap.size)
 case atStart=>
  exact⟨_,_,hd,by rfl,hf.grown hi hf.size (fun j hj=>by cases hj)⟩
 case round=>
  obtain⟨left,cnt,hrg,hleft,hh⟩:=hrel
  go_wp2_with(first
   |(at_next;refine wpList_next_ranges _ rfl _ rfl 9 YV (plainElem Tryz.prog 3) encStr (Value.int .i64) (fun key kl hk=>by obtain⟨x,hx,_⟩:=Maps.keyOf_str Tryz.underlying9 hk;exact⟨x,hx⟩) (fun v y hv=>by obtain⟨c,rfl,_⟩:=plainElem_int_inv Tryz.underlying3 hv;exact⟨c,rfl⟩) b w1.heap.size 20 _ _ _ rfl hrg ?_ ?_))
  ·intro hs hl;rw[hl]at hleft
   cases hleft
  ·intro x c kl yd yp w2 cnt2 hg ht hv hat hrg2 hlt hn ho hA;obtain⟨x',ex,rfl,_⟩:=Maps.keyOf_str Tryz.underlying9 hg;obtain rfl:x=x':=encStr_inj ex;obtain⟨c2,ha,hy⟩:=ar9 hat
   have hp:c2=c:=by
    obtain⟨c3,e1,e2,_⟩:=plainElem_int_inv Tryz.underlying3 hv;injection e1 with _ e1
    subst e1;injection e2 with e2 _
    rw[e2]at hy;injection hy with hy
    injection hy with _ hy
    exact hy.symm
   subst hp;have hbl:=hh.grown hn hh.size (fun j hj=>by cases hj;have:=hf.size;omega);clear ho hat hv hy;rcases af7 _ ha with⟨hz,hx⟩|⟨hz,hx⟩
   ·have hz:c2=48:=hz;have hx:x=QU:=hx;subst hz hx;clear ha hrg hrg2 hc hd;go_wp2_with fail
    go_ret2;exact⟨rfl,hbl⟩
   ·have hz:60<c2:=hz;have hx:x≠QU:=hx;have hq:v<c2:=by omega
    have hsk:Lit.sameKey (.string QU) (.string x)=false:=by
     show(QU ==x)=false;simp[hx.symm]
    clear ha;go_wp2_with fail
    go_roundw
    case rel=>exact⟨_,cnt2,hrg2,by simp only[hleft,hsk];rfl,hbl⟩
    case measure=>rw[hrg2.left_eq,hrg.left_eq];exact hlt
end Go.Proofs.ENames
namespace Go.Proofs.YtoeiaflkdcbkdaaGreatDoor
open Go Go.RowKit Go.Sym Go.Proofs.Tryz
structure Rc where
 nm:List UInt8
 pat:List UInt8
 sys:List UInt8
 dec:List UInt8
 grp:List UInt8
 mns:List UInt8
 pct:List UInt8
 cur:List UInt8
def Rc.l (r:Rc):List Value:=[sB r.nm,sB r.pat,sB r.sys,sB r.dec,sB r.grp,sB r.mns,sB r.pct,sB r.cur]
def Rc.v (r:Rc):Value:= .agg #[sB r.nm,sB r.pat,sB r.sys,sB r.dec,sB r.grp,sB r.mns,sB r.pct,sB r.cur]
end Go.Proofs.YtoeiaflkdcbkdaaGreatDoor
namespace Go.Proofs.YtoeiaflkdcbkdaaGreatDoor
open Go.RowKit Go.Proofs.Tryz
def dU (n m:Int):Int:=(if n<0 then -(n+1)else n)%m
theorem wU (n m:Int)(hm:1<=m):0<=dU n m/\dU n m<m:=by
 unfold dU;exact⟨Int.emod_nonneg _ (by omega),Int.emod_lt_of_pos _ (by omega)⟩
theorem EP (n m:Int)(w:World)(h0:-9223372036854775808<=n)(h1:n<=9223372036854775807)(hm:1<=m)(hb:m<=9223372036854775807):
  Calls prog 7 #[.int .i64 n,.int .i64 m] w fun e w'=>e=.returned (.int .i64 (dU n m))/\w=w':=by
 by_cases hn:n<0
 ·have H:=aHL (show dU n m=(-(n+1))%m by unfold dU;rw[aD6 hn]);have ha:0<= -(n+1):=by omega
  go_enter func7,ntmps7;go_wp2;go_ret;exact⟨kX (by rw[H.out,<-aFC ha,Int.neg_tmod]),rfl⟩
 ·have H:=aHL (show dU n m=n%m by unfold dU;rw[aD4 hn]);have ha:0<=n:=by omega
  go_enter func7,ntmps7;go_wp2;go_ret;exact⟨kX (by rw[H.out]),rfl⟩
end Go.Proofs.YtoeiaflkdcbkdaaGreatDoor
namespace Go.Proofs.YtoeiaflkdcbkdaaGreatDoor
section
variable {d:Int}{l a b:List Int}
def Dg (l:List Int):Prop:=∀x∈l,0<=x/\x<=9
def num (l:List Int):Nat:=l.foldl (fun a d=>10*a+d.toNat) 0
def bW (l:List Int):List Int:=l.dropWhile (· ==0)
def bE (n:Nat):List Int:=if h:n=0 then []else bE (n/10)++[((n%10:Nat):Int)]
termination_by n
decreasing_by omega
theorem Dg.nil:Dg []:=by intro x hx;cases hx
theorem Dg.cons (h0:0<=d)(h1:d<=9)(h:Dg l):Dg (d::l):=by
 intro x hx;rcases aER.1 hx with rfl|hx
 ·exact⟨h0,h1⟩
 ·exact h x hx
theorem Dg.append (ha:Dg a)(hb:Dg b):Dg (a++b):=by
 intro x hx;rcases aEQ.1 hx with hx|hx
 ·exact ha x hx
 ·exact hb x hx
theorem Dg.one (h0:0<=d)(h1:d<=9):Dg [d]:=Dg.cons h0 h1 Dg.nil
theorem Dg.of_append_left (h:Dg (a++b)):Dg a:=fun x hx=>h x (aEQ.2 (.inl hx))
theorem Dg.take (h:Dg l)(k:Nat):Dg (l.take k):=fun x hx=>h x (aGJ hx)
theorem Dg.drop (h:Dg l)(k:Nat):Dg (l.drop k):=fun x hx=>h x (aGI hx)
theorem Dg.replicate (n:Nat):Dg (List.replicate n 0):=by
 intro x hx;rw[List.eq_of_mem_replicate hx];omega
theorem Dg.trim (h:Dg l):Dg (bW l):=fun x hx=>h x ((aG4 _).subset hx)
theorem Dg.getD (h:Dg l)(k:Nat):0<=l.getD k 0/\l.getD k 0<=9:=by
 by_cases hk:k<l.length
 ·have:=h (l[k]) (aG3 hk);simpa [aD9,aEB hk]using this
 ·simp[aD9,aFI (Nat.le_of_not_lt hk)]
theorem mA:num []=0:=rfl
theorem tP (l:List Int)(d:Int):num (l++[d])=10*num l+d.toNat:=by simp[num,List.foldl_append]
theorem YZ (l:List Int):∀a:Nat,l.foldl (fun a d=>10*a+d.toNat) a=a*10^l.length+num l:=by
 induction l with
 |nil=>intro a;simp[num]
 |cons d l ih=>
  intro a
  have h1:=ih (10*a+d.toNat)
  have h2:=ih (10*0+d.toNat)
  show List.foldl _ (10*a+d.toNat) l=a*10^(l.length+1)+List.foldl _ (10*0+d.toNat) l
  rw[h1,h2,aGC]
  generalize 10^l.length=p
  rw[Nat.add_mul,Nat.add_mul,aF0 10 a,aFU,aF0 10 p]
  omega
theorem kK (a b:List Int):num (a++b)=num a*10^b.length+num b:=by
 unfold num;rw[List.foldl_append];exact YZ b _
theorem jW (d:Int)(l:List Int):num (d::l)=d.toNat*10^l.length+num l:=by
 have:=kK [d] l;simpa [num]using this
theorem AJ (k:Nat):num (List.replicate k 0)=0:=by
 induction k with
 |zero=>rfl
 |succ k ih=>rw[List.replicate_succ,jW,ih];simp
theorem JL (l:List Int)(k:Nat):num (l++List.replicate k 0)=num l*10^k:=by
 rw[kK,AJ];simp
theorem mF (l:List Int):num (bW l)=num l:=by
 induction l with
 |nil=>rfl
 |cons d l ih=>
  unfold bW at ih⊢
  by_cases h:d=0
  ·subst h;rw[aHE (by simp),ih,jW];simp
  ·rw[aHF (by simpa using h)]
theorem gQ (h:Dg l):num l<10^l.length:=by
 induction l with
 |nil=>simp[num]
 |cons d l ih=>
  have h1:=ih (fun x hx=>h x (aEM _ hx))
  have h2:=h d (aEH ..)
  rw[jW,aEN,aGC]
  have h3:d.toNat<=9:=by omega
  have h4:d.toNat*10^l.length<=9*10^l.length:=aE4 _ h3
  omega
theorem fK:bE 0=[]:=by rw[bE];simp
theorem oK (n:Nat)(h:n≠0):bE n=bE (n/10)++[((n%10:Nat):Int)]:=by rw[bE];simp[h]
theorem eK (n:Nat):num (bE n)=n:=by
 induction n using Nat.strongRecOn with
 |_ n ih=>
  by_cases h:n=0
  ·subst h;rw[fK];rfl
  ·rw[oK n h,tP,ih (n/10) (by omega),aGL];omega
theorem dK (n:Nat):Dg (bE n):=by
 induction n using Nat.strongRecOn with
 |_ n ih=>
  by_cases h:n=0
  ·subst h;rw[fK];exact Dg.nil
  ·rw[oK n h];exact(ih (n/10) (by omega)).append (Dg.one (by omega) (by omega))
theorem Y0 (n:Nat):∀d l,bE n=d::l->d≠0:=by
 induction n using Nat.strongRecOn with
 |_ n ih=>
  intro d l hd
  by_cases h:n=0
  ·subst h;rw[fK]at hd;cases hd
  ·rw[oK n h]at hd;by_cases ha:n/10=0
   ·rw[ha,fK,aF4]at hd;injection hd with hd _
    omega
   ·have hc:bE (n/10)≠[]:=by rw[oK _ ha];simp
    obtain⟨d',l',hb⟩:=List.exists_cons_of_ne_nil hc;have:=ih (n/10) (by omega) d' l' hb;rw[hb,aGO]at hd;injection hd with hd _
    rw[<-hd];exact this
theorem OR (h:Dg l)(hh:∀d r,l=d::r->d≠0):bE (num l)=l:=by
 have key:∀(m:Nat) (l:List Int),l.length=m->Dg l->(∀d r,l=d::r->d≠0)->bE (num l)=l:=by
  intro m;induction m with
  |zero=>
   intro l hl _ _
   obtain rfl:l=[]:=aD8 hl
   exact fK
  |succ m ih=>
   intro l hl h hh
   rcases aGD l with rfl|⟨r,x,rfl⟩
   ·simp at hl
   ·rw[aGE]at *;have hx:=h x (by simp);have hr:Dg r:=h.of_append_left;have hb:r.length=m:=by simpa using hl
    rw[tP];by_cases ha:r=[]
    ·subst ha;have:=hh x [] rfl;rw[mA,oK _ (by omega),show(10*0+x.toNat)/10=0 by omega,fK];simp;omega
    ·obtain⟨d',l',hc⟩:=List.exists_cons_of_ne_nil ha;have ia:=ih r hb hr (fun d s e=>hh d (s++[x]) (by rw[e];rfl))
     have hp:num r≠0:=by
      intro e;rw[e,fK]at ia;exact ha ia.symm
     rw[oK _ (by omega),show(10*num r+x.toNat)/10=num r by omega,ia,show(10*num r+x.toNat)%10=x.toNat by omega];congr 2;omega
 exact key l.length l rfl h hh
theorem JM (l:List Int):∀d r,bW l=d::r->d≠0:=by
 intro d r h e;subst e;have:=List.head?_dropWhile_not (fun x:Int=>x ==0) l;unfold bW at h;rw[h]at this;simp at this
theorem dZ (h:Dg l):bW l=bE (num l):=by
 rw[<-mF l];exact(OR h.trim (JM l)).symm
theorem OS (n:Nat):bE n=[]↔n=0:=by
 constructor
 ·intro h;have:=eK n;rw[h]at this;exact this.symm
 ·rintro rfl;exact fK
theorem OT (h:Dg l):bW l=[]↔num l=0:=by rw[dZ h,OS]
def bZ (l:List Int)(i:Nat):Int:=if l.length<=i then 0 else l.getD (l.length-1-i) 0
theorem jX (h:Dg l)(i:Nat):0<=bZ l i/\bZ l i<=9:=by
 unfold bZ;split
 ·omega
 ·exact h.getD _
theorem ajB (l:List Int)(h:Dg l)(i:Nat)(hi:i<l.length):num (l.drop (l.length-(i+1)))=(bZ l i).toNat*10^i+num (l.drop (l.length-i)):=by
 have h1:l.drop (l.length-(i+1))=l.getD (l.length-1-i) 0::l.drop (l.length-i):=by
  rw[show l.length-1-i=l.length-(i+1) by omega];rw[aFN (by omega)];congr 1
  ·simp[aD9,aEB (show l.length-(i+1)<l.length by omega)]
  ·congr 1;omega
 rw[h1,jW];unfold bZ;rw[aD4 (by omega),aF7,show l.length-(l.length-i)=i by omega]
end
section
variable {o:List Int}{rest:Int}
def gY (f:Nat->Int):Nat->Int
 |0=>0
 |n+1=>gY f n+f n*10^n
def qD (o:List Int):Int:=(num o.reverse:Nat)
theorem ac3:qD []=0:=rfl
theorem JN (o:List Int)(d:Int)(h:0<=d):qD (o++[d])=d*10^o.length+qD o:=by
 unfold qD;rw[List.reverse_append,List.reverse_cons,List.reverse_nil,aF4,List.singleton_append,jW,aGB]
 push_cast;rw[Int.toNat_of_nonneg h]
theorem Dg.reverse {l:List Int}(h:Dg l):Dg l.reverse:=fun x hx=>h x (List.mem_reverse.1 hx)
theorem ajC (h:Dg o):0<=qD o/\qD o<10^o.length:=by
 unfold qD;have:=gQ h.reverse;rw[aGB]at this;constructor
 ·omega
 ·exact_mod_cast this
theorem Y4 (r:Int):(r.tmod 10+10).tmod 10=r%10:=by
 by_cases h:0<=r
 ·rw[aFC h,aFC (by omega)];omega
 ·have e:r.tmod 10= -((-r)%10):=by
   rw[<-aFC (show 0<= -r by omega),Int.neg_tmod,Int.neg_neg]
  rw[e,aFC (by omega)];omega
theorem Y5 (r:Int):(r-r%10).tdiv 10=r/10:=by
 have h:r-r%10=(r/10)*10:=by omega
 rw[h,Int.mul_tdiv_cancel _ (by decide)]
theorem ER {f:Nat->Int}{i:Nat}(h:qD o+rest*10^i=gY f i)(hl:o.length=i):
  qD (o++[(rest+f i)%10])+(rest+f i)/10*10^(i+1)=gY f (i+1):=by
 rw[JN _ _ (by omega),hl]
 show _=gY f i+f i*10^i
 rw[<-h,Int.pow_succ]
 generalize(10:Int)^i=p
 have e:rest+f i=(rest+f i)/10*10+(rest+f i)%10:=by omega
 generalize(rest+f i)/10=q at *
 generalize(rest+f i)%10=m at *
 have e2:q*(p*10)=q*10*p:=by rw[Int.mul_comm p 10,Int.mul_assoc]
 rw[e2]
 have e3:rest*p+f i*p=(q*10+m)*p:=by rw[<-aGR,e]
 rw[aGR]at e3
 omega
theorem SY {t:Int}(h:qD o+rest*10^o.length=t)(h0:0<=rest):
  qD (o++[rest%10])+rest/10*10^(o++[rest%10]).length=t:=by
 rw[JN _ _ (by omega),aD2,aGF,Int.pow_succ,<-h]
 generalize(10:Int)^o.length=p
 have e:rest=rest/10*10+rest%10:=by omega
 generalize rest/10=q at *
 generalize rest%10=m at *
 have e2:q*(p*10)=q*10*p:=by rw[Int.mul_comm p 10,Int.mul_assoc]
 rw[e2,e,aGR]
 omega
theorem ES {t:Int}(hd:Dg o)(h:qD o+rest*10^o.length=t)(h0:0<=t):0<=rest:=by
 have hb:=ajC hd;by_cases hr:0<=rest
 ·exact hr
 ·exfalso;have:rest*10^o.length<= -1*10^o.length:=Int.mul_le_mul_of_nonneg_right (by omega) (Int.le_of_lt (Int.pow_pos (by decide)));omega
theorem Y6 {t:Int}(hd:Dg o)(h:qD o=t):bW o.reverse=bE t.toNat:=by
 rw[dZ hd.reverse];congr 1;rw[<-h];rfl
theorem SZ {t:Int}(hd:Dg o)(h:qD o+0*10^o.length=t):bW o.reverse=bE t.toNat:=
 Y6 hd (by simpa using h)
theorem ac4 (l:List Int)(h:Dg l)(i:Nat):gY (bZ l) i=(num (l.drop (l.length-i)):Nat):=by
 induction i with
 |zero=>simp[gY,mA]
 |succ i ih=>
  rw[gY,ih]
  by_cases hi:i<l.length
  ·have:=ajB l h i hi;have h0:=(jX h i).1;rw[this]
   push_cast;rw[Int.toNat_of_nonneg h0];omega
  ·rw[show l.length-(i+1)=0 by omega,show l.length-i=0 by omega];unfold bZ;rw[aD6 (by omega)];omega
theorem uN (l:List Int)(h:Dg l)(n:Nat)(hn:l.length<=n):gY (bZ l) n=(num l:Nat):=by
 rw[ac4 l h,show l.length-n=0 by omega,List.drop_zero]
theorem VO (f g:Nat->Int)(n:Nat):gY (fun i=>f i+g i) n=gY f n+gY g n:=by
 induction n with
 |zero=>rfl
 |succ n ih=>simp only[gY,ih,aGR];omega
theorem ajD (f g:Nat->Int)(n:Nat):gY (fun i=>f i-g i) n=gY f n-gY g n:=by
 induction n with
 |zero=>rfl
 |succ n ih=>simp only[gY,ih,Int.sub_mul];omega
end
structure Dc where
 neg:Bool
 l:List Int
 s:Nat
def dV (l:List Int):Nat->List Int×Nat
 |0=>(l,0)
 |s+1=>if l.getLast?=some 0 then dV l.dropLast s else(l,s+1)
def aL (d:Dc):Dc:=if(dV (bW d.l) d.s).1=[]then⟨false,[],0⟩else⟨d.neg,(dV (bW d.l) d.s).1,(dV (bW d.l) d.s).2⟩
def al (K:Nat)(v:Int):Dc:=⟨decide (v<0),bE v.natAbs,K⟩
def cz (K:Nat)(v:Int):Dc:=aL (al K v)
def nC (K:Nat)(d:Dc):Int:=if d.neg=true then -((num d.l*10^(K-d.s):Nat):Int)else((num d.l*10^(K-d.s):Nat):Int)
def eS (x y:Int):Int:=if x<y then -1 else if x=y then 0 else 1
theorem tQ (l:List Int)(s:Nat):dV (l++[0]) (s+1)=dV l s:=by
 rw[dV,aD6 (by simp),aG0]
theorem oL:∀s,(dV [] s).1=[]
 |0=>rfl
 |s+1=>by simp[dV]
theorem JP:∀(s:Nat) (l:List Int),Dg l->Dg (dV l s).1
 |0,_,h=>h
 |s+1,l,h=>by
  rw[dV];split
  ·exact JP s _ (fun x hx=>h x (List.dropLast_subset _ hx))
  ·exact h
theorem JQ:∀(s:Nat) (l:List Int),(dV l s).2<=s
 |0,_=>aD1 _
 |s+1,l=>by
  rw[dV];split
  ·exact Nat.le_succ_of_le (JQ s _)
  ·exact aD1 _
theorem EU:∀(s:Nat) (l:List Int),(dV l s).1.length<=l.length
 |0,_=>aD1 _
 |s+1,l=>by
  rw[dV];split
  ·exact aEI (EU s _) (by simp)
  ·exact aD1 _
theorem OW (l:List Int):bW (l++[0])=if bW l=[]then []else bW l++[0]:=by
 unfold bW;rw[List.dropWhile_append];by_cases h:List.dropWhile (fun x:Int=>x ==0) l=[]
 ·rw[aD6 h,h];rfl
 ·rw[aD4 h]
  cases hd:List.dropWhile (fun x:Int=>x ==0) l with
  |nil=>exact absurd hd h
  |cons a r=>rfl
theorem S6 (n:Bool)(l:List Int)(s:Nat):aL ⟨n,l++[0],s+1⟩=aL ⟨n,l,s⟩:=by
 unfold aL;dsimp only;rw[OW];by_cases h:bW l=[]
 ·rw[aD6 h,h,oL,oL];rfl
 ·rw[aD4 h,tQ]
theorem OX (n:Bool)(l:List Int)(s k:Nat):aL ⟨n,l++List.replicate k 0,s+k⟩=aL ⟨n,l,s⟩:=by
 induction k with
 |zero=>simp
 |succ k ih=>
  rw[aG1,<-aEF,<-aF9,S6,ih]
theorem JR {n:Bool}{l l':List Int}(s:Nat)(h:Dg l)(h':Dg l')(e:num l=num l'):aL ⟨n,l,s⟩=aL ⟨n,l',s⟩:=by
 unfold aL;dsimp only;rw[dZ h,dZ h',e]
theorem wV (n:Bool)(l:List Int)(s:Nat)(h:Dg l)(e:num l=0):aL ⟨n,l,s⟩=⟨false,[],0⟩:=by
 unfold aL;dsimp only;rw[(OT h).2 e,oL,aD6 rfl]
theorem jY (K:Nat)(d:Dc)(h:Dg d.l)(hs:d.s<=K):aL d=cz K (nC K d):=by
 obtain⟨n,l,s⟩:=d;obtain⟨k,rfl⟩:=Nat.le.dest hs;have e:num (bE (num l*10^k))=num (l++List.replicate k 0):=by rw[eK,JL]
 dsimp only at h hs;unfold cz al nC;dsimp only;rw[show s+k-s=k by omega];by_cases hz:num l*10^k=0
 ·have ha:num l=0:=by
   rcases Nat.mul_eq_zero.1 hz with h|h
   ·exact h
   ·exact absurd h (by have:=Nat.pow_pos (n:=k) (show 0<10 by omega);omega)
  rw[wV n l s h ha,hz];have hb:=wV false [] (s+k) Dg.nil mA
  cases n<;>simp[fK,hb]
 ·have hp:(0:Int)<((num l*10^k:Nat):Int):=by omega
  rw[<-OX n l s k];generalize hm:num l*10^k=m at *
  cases n with
  |true=>
   rw[aD6 rfl,show decide (-(m:Int)<0)=true by simp;omega,show(-(m:Int)).natAbs=m by omega]
   exact JR _ (h.append (Dg.replicate k)) (dK m) e.symm
  |false=>
   rw[aD4 (by simp),show decide ((m:Int)<0)=false by simp,show((m:Int)).natAbs=m by omega]
   exact JR _ (h.append (Dg.replicate k)) (dK m) e.symm
theorem iL (d:Dc)(h:Dg d.l):Dg (aL d).l:=by
 unfold aL;split
 ·exact Dg.nil
 ·exact JP _ _ h.trim
theorem kD (d:Dc):(aL d).s<=d.s:=by
 unfold aL;split
 ·exact aES _
 ·exact JQ _ _
theorem iD (d:Dc):(aL d).l.length<=d.l.length:=by
 unfold aL;split
 ·exact aES _
 ·exact aEI (EU _ _) ((aG4 _).length_le)
theorem ac5 (K:Nat):nC K ⟨false,[],0⟩=0:=by simp[nC,mA]
theorem EV:∀(s:Nat) (l:List Int) (K:Nat),s<=K->num (dV l s).1*10^(K-(dV l s).2)=num l*10^(K-s)
 |0,_,_,_=>rfl
 |s+1,l,K,hK=>by
  rw[dV];split
  ·rename_i h;rw[EV s _ K (by omega)]
   have hl:l=l.dropLast++[0]:=by
    have ha:l≠[]:=by rintro rfl;simp at h
    have:=List.dropLast_concat_getLast ha;rw[List.getLast?_eq_some_getLast ha]at h;injection h with h
    rw[h]at this;exact this.symm
   have h2:num l=10*num l.dropLast:=by
    conv=>lhs;rw[hl]
    rw[tP];simp
   rw[h2,show K-s=K-(s+1)+1 by omega,aGC];generalize 10^(K-(s+1))=p;rw[aF0 p 10,<-aFU,aF0 (num _) 10]
  ·rfl
theorem ac6 (K:Nat)(d:Dc)(h:Dg d.l)(hs:d.s<=K):nC K (aL d)=nC K d:=by
 have e:=EV d.s (bW d.l) K hs;rw[mF]at e;unfold aL;split
 ·rename_i h0;rw[h0,mA,Nat.zero_mul]at e;rw[ac5];unfold nC;rw[<-e];split<;>rfl
 ·unfold nC;dsimp only;rw[e]
theorem aoW (K:Nat)(v:Int):nC K (al K v)=v:=by
 unfold nC al;dsimp only;rw[eK,aG5,Nat.pow_zero,aHI];by_cases h:v<0
 ·rw[aD6 (by simpa using h)];omega
 ·rw[aD4 (by simpa using h)];omega
theorem JS (K:Nat)(v:Int):Dg (al K v).l:=dK _
theorem sL (K:Nat)(v:Int):Dg (cz K v).l:=iL _ (JS K v)
theorem CU (K:Nat)(v:Int):(cz K v).s<=K:=kD _
theorem wW (K:Nat)(v:Int):nC K (cz K v)=v:=by
 unfold cz;rw[ac6 K _ (JS K v) (aD1 _),aoW]
theorem lC (K:Nat)(v:Int):aL (cz K v)=cz K v:=by
 rw[jY K _ (sL K v) (CU K v),wW]
section
open Go.RowKit Go.Proofs.Tryz
variable {l:List Int}{w:World}{A:Option Addr}{n c:Nat}
def dG (p:Int->Bool):List Int->Int
 |[]=>-1
 |x::l=>if p x=true then 0 else if dG p l<0 then -1 else dG p l+1
theorem VP (p:Int->Bool):∀l,-1<=dG p l
 |[]=>by simp[dG]
 |x::l=>by
  have:=VP p l;unfold dG;split
  ·omega
  ·split<;>omega
theorem yJ (p:Int->Bool):∀(l:List Int) (k:Nat),k<l.length->(∀j,j<k->p (l.getD j 0)=false)->p (l.getD k 0)=true->dG p l=k
 |[],k,h,_,_=>by simp at h
 |x::l,0,_,_,h=>by unfold dG;rw[aD6 (by simpa using h)];rfl
 |x::l,k+1,hk,hj,h=>by
  have h0:=hj 0 (by omega);have ih:=yJ p l k (by simpa using hk) (fun j ha=>by simpa using hj (j+1) (by omega)) (by simpa using h);unfold dG;rw[aD4 (by simpa using h0),ih,aD4 (by omega)];simp
theorem nW (p:Int->Bool):∀(l:List Int),(∀j,j<l.length->p (l.getD j 0)=false)->dG p l= -1
 |[],_=>rfl
 |x::l,h=>by
  have h0:=h 0 (by simp);have ih:=nW p l (fun j hj=>by simpa using h (j+1) (by simpa using hj));unfold dG;rw[aD4 (by simpa using h0),ih];simp
def AK (x:Int):Bool:=decide (x<0∨9<x)
def R2 (x:Int):Bool:=decide (x≠0)
theorem ajE (h:Dg l):dG AK l= -1:=by
 apply nW;intro j _;have:=h.getD j;unfold AK;rw[decide_eq_false_iff_not];omega
theorem L7:∀(l:List Int),(bW l=[]/\dG R2 l= -1)∨∃k:Nat,k<l.length/\dG R2 l=k/\bW l=l.drop k
 |[]=> .inl ⟨rfl,rfl⟩
 |x::l=>by
  by_cases hx:x=0
  ·subst hx;have e:bW (0::l)=bW l:=by unfold bW;rw[aHE (by simp)]
   rcases L7 l with⟨h1,h2⟩|⟨k,hk,h1,h2⟩
   ·refine .inl ⟨by rw[e,h1],?_⟩;unfold dG;rw[aD4 (by simp[R2]),h2];simp
   ·refine .inr ⟨k+1,by simpa using hk,?_,by rw[e,h2];rfl⟩;unfold dG;rw[aD4 (by simp[R2]),h1,aD4 (by omega)];simp
  ·refine .inr ⟨0,by simp,?_,?_⟩
   ·unfold dG;rw[aD6 (by simpa [R2]using hx)];rfl
   ·unfold bW;rw[aHF (by simpa using hx)];rfl
def lU (l:List Int):Nat:=l.length-(bW l).length
theorem q9 (l:List Int):(bW l).length<=l.length:=(aG4 _).length_le
theorem Y7 (l:List Int):lU l<=l.length:=Nat.sub_le _ _
theorem OU (l:List Int):l.drop (lU l)=bW l:=by
 rcases L7 l with⟨h1,_⟩|⟨k,hk,_,h2⟩
 ·unfold lU;rw[h1];simp
 ·unfold lU;rw[h2,aF7,show l.length-(l.length-k)=k by omega]
theorem S4 (l:List Int):(dG R2 l= -1/\lU l=l.length)∨(dG R2 l=(lU l:Nat)/\lU l<l.length):=by
 rcases L7 l with⟨h1,h2⟩|⟨k,hk,h1,h2⟩
 ·exact .inl ⟨h2,by unfold lU;rw[h1];simp⟩
 ·refine .inr ?_;have:lU l=k:=by unfold lU;rw[h2,aF7];omega
  rw[this];exact⟨h1,hk⟩
theorem aC.drop_ (h:aC w (.slice A n c) l)(k:Nat)(hk:k<=l.length):aC w (.slice (if c=k then A else A.map (·.add k)) (n-k) (c-k)) (l.drop k):=by
 obtain⟨A',c1,he,h0,h1,h2⟩:=h;injection he with e1 e3 e4
 subst e1;subst e4;subst e3;have hl:(l.drop k).length=l.length-k:=by simp
 refine⟨_,c-k,by rw[hl],by omega,by omega,fun hp=>?_⟩;rw[hl]at hp;obtain⟨b,off,rfl,hc⟩:=h2 (by omega);refine⟨b,off+k,?_,fun j hj=>?_⟩
 ·by_cases ha:c=k
  ·omega
  ·rw[aD4 ha];simp only[aFH,Addr.add];split
   ·rename_i h;subst h;rfl
   ·rfl
 ·rw[hl]at hj;rw[aF9,hc (k+j) (by omega)];simp[aD9,aFX]
theorem aC.len (h:aC w (.slice A n c) l):n=l.length:=by
 obtain⟨_,_,he,_⟩:=h;injection he
theorem JO (x:Int)(w:World):
  Calls prog 361 #[.int .i64 x] w fun e w'=>e=.returned (.bool (AK x))/\w=w':=by
 by_cases h0:x<0
 ·have e:AK x=true:=by simp[AK];omega
  have E:=aHL e;clear e;go_enter func361,ntmps361;go_wp2;go_ret;exact⟨jQ E.out.symm,rfl⟩
 ·have e:decide (10<=x)=AK x:=by
   unfold AK;rw[decide_eq_decide];omega
  have E:=aHL e;clear e;go_enter func361,ntmps361;go_wp2;go_ret;exact⟨jQ E.out,rfl⟩
theorem OV (v:Value)(l:List Int)(w:World)(h:aC w v l):
  Calls prog 396 #[v,.func (.func 361) #[] #[]] w fun e w'=>e=.returned (.int .i64 (dG AK l))/\w=w':=by
 obtain⟨A,c,rfl,hd,hf,hA⟩:=h
 obtain⟨r,hr⟩:∃r,dG AK l=r:=⟨_,rfl⟩
 have HR:=aHL hr
 rw[hr];clear hr
 by_cases h0:0<l.length
 ·obtain⟨b,off,rfl,ha⟩:=hA h0;go_enter func396,ntmps396;go_wp2;go_loop [8] (fun i=>∃k:Nat,i=.int .i64 k/\k<=l.length/\Aside (∀j,j<k->AK (l.getD j 0)=false)) (fun i=>l.length-(intOf i).toNat)
  case atStart=>exact⟨0,rfl,aES _,fun j hj=>absurd hj (by omega)⟩
  case round=>
   obtain⟨k,rfl,hk,HS⟩:=hrel
   by_cases hb:k<l.length
   ·have c1:=ha k hb;obtain⟨x,hx⟩:∃x,l.getD k 0=x:=⟨_,rfl⟩;rw[hx]at c1;have HX:=aHL hx;obtain⟨q,hq⟩:∃q,AK x=q:=⟨_,rfl⟩;have HQ:=aHL hq;clear hx hq ha hA
    cases q with
    |true=>
     go_wp2_with(refine(JO x _).mono ?_;rintro e w' ⟨rfl,rfl⟩;rw[HQ.out])
     go_ret
     exact⟨kX (by rw[<-HR.out];exact(yJ AK l k hb HS.out (by rw[HX.out];exact HQ.out)).symm),rfl⟩
    |false=>
     go_wp2_with(refine(JO x _).mono ?_;rintro e w' ⟨rfl,rfl⟩;rw[HQ.out])
     go_round
     case rel=>
      refine⟨k+1,by go_num,by omega,fun j hj=>?_⟩
      by_cases hc:j<k
      ·exact HS.out j hc
      ·obtain rfl:j=k:=by omega
       rw[HX.out];exact HQ.out
     case measure=>simp[intOf];omega
   ·obtain rfl:k=l.length:=by omega
    clear ha hA;go_wp2;go_ret;exact⟨kX (by rw[<-HR.out];exact(nW AK l HS.out).symm),rfl⟩
 ·have hl:l=[]:=aD8 (by omega);subst hl;clear hA;go_enter func396,ntmps396;go_wp2;go_loop [8] (fun i=>i=.int .i64 0) (fun i=>0)
  case atStart=>rfl
  case round=>
   subst hrel
   go_wp2
   go_ret
   exact⟨kX HR.out,rfl⟩
theorem BW (x:Int)(w:World):
  Calls prog 397 #[.int .i64 x] w fun e w'=>e=.returned (.bool (R2 x))/\w=w':=by
 by_cases h0:x=0
 ·subst h0;go_enter func397,ntmps397;go_wp2;go_ret;exact⟨rfl,rfl⟩
 ·have e:R2 x=true:=by simpa [R2]using h0
  have E:=aHL e;have hb:((x:Int) !=0)=true:=by simpa using h0
  clear e h0;go_enter func397,ntmps397;go_wp2;go_ret;exact⟨jQ E.out.symm,rfl⟩
theorem IF (v:Value)(l:List Int)(w:World)(h:aC w v l):
  Calls prog 396 #[v,.func (.func 397) #[] #[]] w fun e w'=>e=.returned (.int .i64 (dG R2 l))/\w=w':=by
 obtain⟨A,c,rfl,hd,hf,hA⟩:=h
 obtain⟨r,hr⟩:∃r,dG R2 l=r:=⟨_,rfl⟩
 have HR:=aHL hr
 rw[hr];clear hr
 by_cases h0:0<l.length
 ·obtain⟨b,off,rfl,ha⟩:=hA h0;go_enter func396,ntmps396;go_wp2;go_loop [8] (fun i=>∃k:Nat,i=.int .i64 k/\k<=l.length/\Aside (∀j,j<k->R2 (l.getD j 0)=false)) (fun i=>l.length-(intOf i).toNat)
  case atStart=>exact⟨0,rfl,aES _,fun j hj=>absurd hj (by omega)⟩
  case round=>
   obtain⟨k,rfl,hk,HS⟩:=hrel
   by_cases hb:k<l.length
   ·have c1:=ha k hb;obtain⟨x,hx⟩:∃x,l.getD k 0=x:=⟨_,rfl⟩;rw[hx]at c1;have HX:=aHL hx;obtain⟨q,hq⟩:∃q,R2 x=q:=⟨_,rfl⟩;have HQ:=aHL hq;clear hx hq ha hA
    cases q with
    |true=>
     go_wp2_with(refine(BW x _).mono ?_;rintro e w' ⟨rfl,rfl⟩;rw[HQ.out])
     go_ret
     exact⟨kX (by rw[<-HR.out];exact(yJ R2 l k hb HS.out (by rw[HX.out];exact HQ.out)).symm),rfl⟩
    |false=>
     go_wp2_with(refine(BW x _).mono ?_;rintro e w' ⟨rfl,rfl⟩;rw[HQ.out])
     go_round
     case rel=>
      refine⟨k+1,by go_num,by omega,fun j hj=>?_⟩
      by_cases hc:j<k
      ·exact HS.out j hc
      ·obtain rfl:j=k:=by omega
       rw[HX.out];exact HQ.out
     case measure=>simp[intOf];omega
   ·obtain rfl:k=l.length:=by omega
    clear ha hA;go_wp2;go_ret;exact⟨kX (by rw[<-HR.out];exact(nW R2 l HS.out).symm),rfl⟩
 ·have hl:l=[]:=aD8 (by omega);subst hl;clear hA;go_enter func396,ntmps396;go_wp2;go_loop [8] (fun i=>i=.int .i64 0) (fun i=>0)
  case atStart=>rfl
  case round=>
   subst hrel
   go_wp2
   go_ret
   exact⟨kX HR.out,rfl⟩
theorem rC (v:Value)(l:List Int)(w:World)(h:aC w v l)(hd:Dg l):
  Calls prog 290 #[v] w fun e w'=>e=.returned (.bool true)/\w=w':=by
 have hi:=OV v l w h
 rw[ajE hd]at hi
 have hc:Calls prog 360 #[v,.func (.func 361) #[] #[]] w fun e w'=>e=.returned (.bool false)/\w=w':=by
  clear h;go_enter func360,ntmps360;go_wp2_with(refine hi.mono ?_;rintro e w' ⟨rfl,rfl⟩)
  go_ret;exact⟨rfl,rfl⟩
 clear hi h
 go_enter func290,ntmps290
 go_wp2_with(refine hc.mono ?_;rintro e w' ⟨rfl,rfl⟩)
 go_ret
 exact⟨rfl,rfl⟩
theorem zeros_any (v:Value)(l:List Int)(w:World)(h:aC w v l):
  Calls prog 362 #[v] w fun e w'=>e=.returned (.int .i64 (lU l:Nat))/\w=w':=by
 have hi:=IF v l w h
 obtain⟨A,c,rfl,ha,hb,_⟩:=h
 rcases S4 l with⟨h1,h2⟩|⟨h1,h2⟩
 ·rw[h1]at hi;rw[h2];clear h1 h2;go_enter func362,ntmps362;go_wp2_with(refine hi.mono ?_;rintro e w' ⟨rfl,rfl⟩)
  go_ret;exact⟨rfl,rfl⟩
 ·rw[h1]at hi;obtain⟨z,hz⟩:∃z,lU l=z:=⟨_,rfl⟩;rw[hz]at hi h2⊢;clear h1 hz;go_enter func362,ntmps362;go_wp2_with(refine hi.mono ?_;rintro e w' ⟨rfl,rfl⟩)
  go_ret;exact⟨rfl,rfl⟩
theorem ET (v:Value)(l:List Int)(i:Nat)(w:World)(h:aC w v l)(hi:i<=9223372036854775807):
  Calls prog 534 #[v,.int .i64 i] w fun e w'=>e=.returned (.int .i64 (bZ l i))/\w=w':=by
 obtain⟨A,c,rfl,hb,hc,hA⟩:=h
 obtain⟨r,hr⟩:∃r,bZ l i=r:=⟨_,rfl⟩
 have HR:=aHL hr
 rw[hr]
 by_cases hd:i<l.length
 ·obtain⟨b,off,rfl,ha⟩:=hA (by omega);have c1:=ha (l.length-1-i) (by omega);unfold bZ at hr;rw[aD4 (by omega)]at hr;rw[hr]at c1;clear ha hA hr;have e1:((l.length:Int)-1-(i:Int)).toNat=l.length-1-i:=by omega
  go_enter func534,ntmps534;go_wp2;go_ret;exact⟨rfl,rfl⟩
 ·unfold bZ at hr;rw[aD6 (by omega)]at hr;subst hr;clear hA;go_enter func534,ntmps534;go_wp2;go_ret;exact⟨rfl,rfl⟩
end
section
open Go.RowKit Go.Proofs.Tryz
variable {x y:Int}{a b:List Int}{k:Nat}
theorem jI (v:Value)(l:List Int)(w:World)(h:aC w v l)(hl:l.length<=1000000):
  Calls prog 278 #[v] w fun e w'=>∃v',e=.returned v'/\w'.ownsRow w.heap.size 3 1 v' l.length (ints l)/\Below w.heap.size w w':=by
 obtain⟨A,c,rfl,hc,hd,hA⟩:=h
 by_cases h0:0<l.length
 ·obtain⟨b,off,rfl,ha⟩:=hA h0;refine(Tryz.slices_Clone_int b off l.length c l w (aD1 _) (by omega) ha).mono ?_;rintro e w' ⟨v',rfl,h1,_,h2⟩;rw[aFM]at h1;exact⟨v',rfl,h1,h2⟩
 ·have hb:l=[]:=aD8 (by omega);subst hb
  cases A with
  |none=>
   refine(Tryz.slices_Clone_int_nil 0 c w).mono ?_
   rintro e w' ⟨rfl,rfl⟩
   exact⟨_,rfl,aHN _ _ _ _,Below.refl _ _⟩
  |some a=>
   refine(Tryz.slices_Clone_int_zero a c w).mono ?_
   rintro e w' ⟨v',rfl,h1,_,h2⟩
   exact⟨v',rfl,h1,h2⟩
theorem nX (v:Value)(l:List Int)(w:World)(h:aC w v l)(hl:l.length<=1000000):
  Calls prog 291 #[v] w fun e w'=>∃v',e=.returned v'/\w'.ownsRow w.heap.size 3 1 v' (bW l).length (ints (bW l))/\Below w.heap.size w w':=by
 have hz:=zeros_any v l w h
 have ha:=Y7 l
 have hd:=OU l
 have hlen:(bW l).length<=1000000:=aEI (q9 l) hl
 obtain⟨z,hb⟩:∃z,lU l=z:=⟨_,rfl⟩
 rw[hb]at hz ha hd
 have HD:=aHL hd
 clear hd hb
 obtain⟨A,c,rfl,hf,hg,hA⟩:=h
 have hs:=aC.drop_ ⟨A,c,rfl,hf,hg,hA⟩ z ha
 rw[HD.out]at hs
 have hc:=jI _ _ w hs hlen
 have HC:=aHL hc
 clear hA hs hc hlen
 go_enter func291,ntmps291
 go_wp2_with(first
  |(go_at_call 362;refine hz.mono ?_;rintro e w' ⟨rfl,rfl⟩)
  |(go_at_call 278;refine HC.out.mono ?_;rintro e w' ⟨v',rfl,h1,h2⟩))
 all_goals(go_ret;exact⟨_,rfl,h1,h2⟩)
theorem eU (h:x<y):eS x y= -1:=by unfold eS;rw[aD6 h]
theorem iG (x:Int):eS x x=0:=by unfold eS;rw[aD4 (by omega),aD6 rfl]
theorem fE (h:y<x):eS x y=1:=by unfold eS;rw[aD4 (by omega),aD4 (by omega)]
theorem EW (x y:Int)(w:World):
  Calls prog 404 #[.int .i64 x,.int .i64 y] w fun e w'=>e=.returned (.int .i64 (eS x y))/\w=w':=by
 have hn:∀(z:Int) (w:World),Calls prog 421 #[.int .i64 z] w fun e w'=>e=.returned (.bool false)/\w=w':=by
  intro z w;go_enter func421,ntmps421;go_wp2;go_ret;exact⟨rfl,rfl⟩
 rcases aGM x y with h|h|h
 ·rw[eU h];go_enter func404,ntmps404;go_wp2_with(go_at_call 421;refine(hn _ _).mono ?_;rintro e w' ⟨rfl,rfl⟩)
  go_ret;exact⟨rfl,rfl⟩
 ·subst h;rw[iG];go_enter func404,ntmps404;go_wp2_with(go_at_call 421;refine(hn _ _).mono ?_;rintro e w' ⟨rfl,rfl⟩)
  go_ret;exact⟨rfl,rfl⟩
 ·rw[fE h];go_enter func404,ntmps404;go_wp2_with(go_at_call 421;refine(hn _ _).mono ?_;rintro e w' ⟨rfl,rfl⟩)
  go_ret;exact⟨rfl,rfl⟩
def cmpL:List Int->List Int->Int
 |[],[]=>0
 |[],_::_=>-1
 |_::_,[]=>1
 |x::a,y::b=>if eS x y=0 then cmpL a b else eS x y
theorem Y8 (h:eS x y=0):x=y:=by
 unfold eS at h;split at h
 ·omega
 ·split at h
  ·assumption
  ·omega
theorem rD:∀(k:Nat) (a b:List Int),k<=a.length->k<=b.length->(∀j,j<k->a.getD j 0=b.getD j 0)->cmpL a b=cmpL (a.drop k) (b.drop k)
 |0,_,_,_,_,_=>rfl
 |k+1,[],_,h,_,_=>by simp at h
 |k+1,_::_,[],_,h,_=>by simp at h
 |k+1,x::a,y::b,ha,hb,h=>by
  have h0:x=y:=by simpa using h 0 (by omega)
  subst h0;have ih:=rD k a b (by simpa using ha) (by simpa using hb) (fun j hj=>by simpa using h (j+1) (by omega));rw[cmpL,iG,aD6 rfl,ih];rfl
theorem L8 (ha:k<a.length)(hb:k<b.length)(h:∀j,j<k->a.getD j 0=b.getD j 0)(hc:eS (a.getD k 0) (b.getD k 0)≠0):cmpL a b=eS (a.getD k 0) (b.getD k 0):=by
 rw[rD k a b (by omega) (by omega) h,aFN ha,aFN hb,cmpL];have e1:a.getD k 0=a[k]:=by simp[aD9,ha]
 have e2:b.getD k 0=b[k]:=by simp[aD9,hb]
 rw[e1,e2]at hc⊢;rw[aD4 hc]
theorem S8 (ha:k<a.length)(hb:b.length<=k)(hk:k<=b.length)(h:∀j,j<k->a.getD j 0=b.getD j 0):cmpL a b=1:=by
 rw[rD k a b (by omega) (by omega) h,aFN ha,List.drop_of_length_le hb,cmpL]
theorem JT (hb:a.length<b.length)(h:∀j,j<a.length->a.getD j 0=b.getD j 0):cmpL a b= -1:=by
 rw[rD a.length a b (aD1 _) (by omega) h,List.drop_length,aFN hb,cmpL]
theorem AM (hb:a.length=b.length)(h:∀j,j<a.length->a.getD j 0=b.getD j 0):cmpL a b=0:=by
 rw[rD a.length a b (aD1 _) (by omega) h,List.drop_length,List.drop_of_length_le (by omega),cmpL]
theorem ac7 (v u:Value)(a b:List Int)(w:World)(ha:aC w v a)(hb:aC w u b):
  Calls prog 405 #[v,u] w fun e w'=>e=.returned (.int .i64 (cmpL a b))/\w=w':=by
 obtain⟨A,c,rfl,hp,hk,hA⟩:=ha
 obtain⟨B,d,rfl,hs,hl,hB⟩:=hb
 obtain⟨r,hr⟩:∃r,cmpL a b=r:=⟨_,rfl⟩
 have HR:=aHL hr
 rw[hr];clear hr
 have fA:a.length<=0∨∃b1 o1,A=some ⟨b1,o1,none⟩/\Hid (∀j,j<a.length->w.cell? ⟨b1,o1+j,none⟩=some (.int .i64 (a.getD j 0))):=by
  by_cases h:0<a.length
  ·obtain⟨b1,o1,h1,h2⟩:=hA h;exact .inr ⟨b1,o1,h1,h2⟩
  ·exact .inl (by omega)
 have fB:b.length<=0∨∃b1 o1,B=some ⟨b1,o1,none⟩/\Hid (∀j,j<b.length->w.cell? ⟨b1,o1+j,none⟩=some (.int .i64 (b.getD j 0))):=by
  by_cases h:0<b.length
  ·obtain⟨b1,o1,h1,h2⟩:=hB h;exact .inr ⟨b1,o1,h1,h2⟩
  ·exact .inl (by omega)
 clear hA hB
 rcases fA with ht|⟨b1,o1,rfl,HA⟩
 ·go_enter func405,ntmps405;go_wp2;go_loop [11] (fun i=>i=.int .i64 0) (fun i=>0)
  case atStart=>rfl
  case round=>
   subst hrel
   rcases aEU 0 b.length with hg|hg
   ·have hx:a.length<b.length:=by omega
    have hc:r= -1:=by rw[<-HR.out];exact JT (by omega) (fun j hj=>absurd hj (by omega))
    subst hc;go_wp2;go_ret;exact⟨rfl,rfl⟩
   ·have hc:r=0:=by rw[<-HR.out];exact AM (by omega) (fun j hj=>absurd hj (by omega))
    subst hc;go_wp2;go_ret;exact⟨rfl,rfl⟩
 rcases fB with hg|⟨b2,o2,rfl,HB⟩
 all_goals
  go_enter func405,ntmps405
  go_wp2
  go_loop [11] (fun i=>∃k:Nat,i=.int .i64 k/\k<=a.length/\k<=b.length/\Aside (∀j,j<k->a.getD j 0=b.getD j 0)) (fun i=>a.length-(intOf i).toNat)
  case atStart=>exact⟨0,rfl,aES _,aES _,fun j hj=>absurd hj (by omega)⟩
  case round=>
   obtain⟨k,rfl,hv,hz,HS⟩:=hrel
   by_cases hd:k<a.length
   ·have c1:=HA.out k hd;obtain⟨x,hx⟩:∃x,a.getD k 0=x:=⟨_,rfl⟩;rw[hx]at c1;have HX:=aHL hx;clear hx;by_cases hh:k<b.length
    ·first
      |(exfalso;omega)
      |(have c2:=HB.out k hh
        obtain⟨y,hy⟩:∃y,b.getD k 0=y:=⟨_,rfl⟩
        rw[hy]at c2
        have HY:=aHL hy
        clear hy
        obtain⟨q,hq⟩:∃q,eS x y=q:=⟨_,rfl⟩
        have HQ:=aHL hq
        clear hq
        by_cases hf:q=0
        ·subst hf;go_wp2_with(go_at_call 404;refine(EW x y _).mono ?_;rintro e w' ⟨rfl,rfl⟩;rw[HQ.out])
         go_round
         case rel=>
          refine⟨k+1,by go_num,by omega,by omega,fun j hj=>?_⟩
          by_cases hn:j<k
          ·exact HS.out j hn
          ·obtain rfl:j=k:=by omega
           rw[HX.out,HY.out];exact Y8 HQ.out
         case measure=>simp[intOf];omega
        ·have hc:r=q:=by
          rw[<-HR.out,<-HQ.out,<-HX.out,<-HY.out];exact L8 hd hh HS.out (by rw[HX.out,HY.out,HQ.out];exact hf)
         subst hc;have ho:((r:Int) !=0)=true:=by simpa using hf
         go_wp2_with(go_at_call 404;refine(EW x y _).mono ?_;rintro e w' ⟨rfl,rfl⟩;rw[HQ.out])
         go_ret;exact⟨rfl,rfl⟩)
    ·have hc:r=1:=by rw[<-HR.out];exact S8 hd (by omega) (by omega) HS.out
     subst hc;go_wp2;go_ret;exact⟨rfl,rfl⟩
   ·obtain rfl:k=a.length:=by omega
    rcases aEU a.length b.length with hi|hi
    ·have hc:r= -1:=by rw[<-HR.out];exact JT hi HS.out
     subst hc;go_wp2;go_ret;exact⟨rfl,rfl⟩
    ·have hc:r=0:=by rw[<-HR.out];exact AM (by omega) HS.out
     subst hc;go_wp2;go_ret;exact⟨rfl,rfl⟩
end
section
open Go.RowKit Go.Proofs.Tryz
variable {a b:List Int}
def orL:List Int->Int
 |[]=>0
 |x::l=>if x=0 then orL l else x
theorem EX:∀(k:Nat) (l:List Int),k<=l.length->(∀j,j<k->l.getD j 0=0)->orL l=orL (l.drop k)
 |0,_,_,_=>rfl
 |k+1,[],h,_=>by simp at h
 |k+1,x::l,h,h0=>by
  have hx:x=0:=by simpa using h0 0 (by omega)
  subst hx;rw[orL,aD6 rfl,EX k l (by simpa using h) (fun j hj=>by simpa using h0 (j+1) (by omega))];rfl
theorem ajF (v:Value)(l:List Int)(w:World)(h:aC w v l):
  Calls prog 403 #[v] w fun e w'=>e=.returned (.int .i64 (orL l))/\w=w':=by
 obtain⟨A,c,rfl,hh,hi,hA⟩:=h
 obtain⟨r,hr⟩:∃r,orL l=r:=⟨_,rfl⟩
 have HR:=aHL hr
 rw[hr];clear hr
 by_cases h0:0<l.length
 ·obtain⟨b,off,rfl,ha⟩:=hA h0;go_enter func403,ntmps403;go_wp2;go_loop [8] (fun i=>∃k:Nat,i=.int .i64 k/\k<=l.length/\Aside (∀j,j<k->l.getD j 0=0)) (fun i=>l.length-(intOf i).toNat)
  case atStart=>exact⟨0,rfl,aES _,fun j hj=>absurd hj (by omega)⟩
  case round=>
   obtain⟨k,rfl,hk,HS⟩:=hrel
   by_cases hc:k<l.length
   ·have c1:=ha k hc;obtain⟨x,hx⟩:∃x,l.getD k 0=x:=⟨_,rfl⟩;rw[hx]at c1;have HX:=aHL hx;clear hx ha hA;by_cases hd:x=0
    ·subst hd;go_wp2;go_round
     case rel=>
      refine⟨k+1,by go_num,by omega,fun j hj=>?_⟩
      by_cases hf:j<k
      ·exact HS.out j hf
      ·obtain rfl:j=k:=by omega
       exact HX.out
     case measure=>simp[intOf];omega
    ·have hb:r=x:=by
      rw[<-HR.out,EX k l hk HS.out,aFN hc];have e1:l[k]=x:=by rw[<-HX.out];simp[aD9,hc]
      rw[e1,orL,aD4 hd]
     subst hb;have hg:((r:Int) !=0)=true:=by simpa using hd
     go_wp2;go_ret;exact⟨rfl,rfl⟩
   ·obtain rfl:k=l.length:=by omega
    have hb:r=0:=by rw[<-HR.out,EX l.length l hk HS.out,List.drop_length];rfl
    subst hb;clear ha hA;go_wp2;go_ret;exact⟨rfl,rfl⟩
 ·have hl:l=[]:=aD8 (by omega);subst hl;have hb:r=0:=by rw[<-HR.out];rfl
  subst hb;clear hA;go_enter func403,ntmps403;go_wp2;go_loop [8] (fun i=>i=.int .i64 0) (fun i=>0)
  case atStart=>rfl
  case round=>
   subst hrel
   go_wp2
   go_ret
   exact⟨rfl,rfl⟩
theorem ac9 {d:Int}{l:List Int}(h:1<=d):10^l.length<=num (d::l):=by
 rw[jW];have:1*10^l.length<=d.toNat*10^l.length:=aE4 _ (by omega);omega
theorem EY:∀{a b:List Int},Dg a->Dg b->a.length=b.length->cmpL a b=eS (num a:Nat) (num b:Nat)
 |[],[],_,_,_=>by rw[iG];rfl
 |[],_::_,_,_,h=>by simp at h
 |_::_,[],_,_,h=>by simp at h
 |x::a,y::b,ha,hb,h=>by
  have hl:a.length=b.length:=by simpa using h
  have da:Dg a:=fun z hz=>ha z (aEM _ hz)
  have db:Dg b:=fun z hz=>hb z (aEM _ hz)
  have hx:=ha x aEH;have hy:=hb y aEH;have ih:=EY da db hl;have la:=gQ da;have lb:=gQ db;rw[hl]at la;rw[cmpL,jW,jW,hl];generalize 10^b.length=p at *;rcases aGM x y with hc|hc|hc
  ·rw[eU hc,aD4 (by omega),eU];have h1:(x.toNat+1)*p<=y.toNat*p:=aE4 _ (by omega);rw[Nat.add_mul]at h1;omega
  ·subst hc;rw[iG,aD6 rfl,ih];unfold eS;by_cases h1:num a<num b
   ·rw[aD6 (by omega),aD6 (by omega)]
   ·by_cases h2:num a=num b
    ·rw[aD4 (by omega),aD6 (by omega),aD4 (by omega),aD6 (by omega)]
    ·rw[aD4 (by omega),aD4 (by omega),aD4 (by omega),aD4 (by omega)]
  ·rw[fE hc,aD4 (by omega),fE];have h1:(y.toNat+1)*p<=x.toNat*p:=aE4 _ (by omega);rw[Nat.add_mul]at h1;omega
theorem EZ (ha:Dg a)(hb:Dg b)(h:(bW a).length<(bW b).length):num a<num b:=by
 rw[<-mF a,<-mF b];have h1:=gQ ha.trim
 cases hb':bW b with
 |nil=>rw[hb']at h;simp at h
 |cons d r=>
  have hd:=JM b d r hb'
  have hc:=hb.trim d (by rw[hb'];exact aEH)
  have h2:=ac9 (d:=d) (l:=r) (by omega)
  rw[hb']at h
  have h3:10^(bW a).length<=10^r.length:=aEY (by omega) (by simp at h;omega)
  omega
theorem OY (ha:Dg a)(hb:Dg b):orL [eS ((bW a).length:Nat) ((bW b).length:Nat),cmpL (bW a) (bW b)]=eS (num a:Nat) (num b:Nat):=by
 unfold orL orL orL;rcases aGY (bW a).length (bW b).length with h|h|h
 ·have:=EZ ha hb h;rw[eU (by omega),aD4 (by omega),eU (by omega)]
 ·have e:=EY ha.trim hb.trim h;rw[mF,mF]at e;rw[h,iG,aD6 rfl,e];split
  ·rename_i h0;exact h0.symm
  ·rfl
 ·have:=EZ hb ha h;rw[fE (by omega),aD4 (by omega),fE (by omega)]
theorem E1 (w:World)(e:TypeId)(l:List Int)(n:Nat)(hn:n=l.length)(hl:n<=1000000):aC (w.alloc (.cells (ints l).toArray e)) (.slice (some ⟨w.heap.size,0,none⟩) n n) l:=by
 subst hn;refine⟨_,l.length,rfl,aD1 _,by omega,fun _=>⟨w.heap.size,0,rfl,fun j hj=>?_⟩⟩;have:=aHO w (.cells (ints l).toArray e);simp only[World.cell?,this,aEV];rw[aFO,mC l j hj];rfl
theorem E3 (v u:Value)(a b:List Int)(w:World)(ha:aC w v a)(hb:aC w u b)(da:Dg a)(db:Dg b)(la:a.length<=1000000)(lb:b.length<=1000000):
  Calls prog 367 #[v,u] w fun e w'=>e=.returned (.int .i64 (eS (num a:Nat) (num b:Nat)))/\Below w.heap.size w w':=by
 have hd:=nX v a w ha la
 have hf:=fun w1 (hB:Below w.heap.size w w1)=>nX u b w1 (hb.below hB (aD1 _)) lb
 have hc:=OY da db
 obtain⟨r,hr⟩:∃r,eS (num a:Nat) (num b:Nat)=r:=⟨_,rfl⟩
 rw[hr]at hc⊢
 have HR:=aHL hc
 clear hr hc ha hb
 obtain⟨ta,hg⟩:∃ta,bW a=ta:=⟨_,rfl⟩
 obtain⟨tb,hh⟩:∃tb,bW b=tb:=⟨_,rfl⟩
 have hi:=q9 a
 have hj:=q9 b
 rw[hg]at hd HR hi
 rw[hh]at hf HR hj
 clear hg hh
 have Ha:=aHL hd
 have Hb:=aHL hf
 clear hd hf
 go_enter func367,ntmps367
 go_wp2_with fail
 refine Ha.out.mono ?_
 rintro e w1 ⟨v1,rfl,o1,B1⟩
 go_wp2_with fail
 refine(Hb.out w1 B1).mono ?_
 rintro e w2 ⟨v2,rfl,o2,B2⟩
 have X:=aside (And.intro ((aC.of_own o1).below B2 (aD1 _)) (And.intro (aC.of_own o2) (B1.trans (B2.mono B1.size))))
 obtain⟨A1,c1,rfl,_,_,_⟩:=aC.of_own o1
 obtain⟨A2,c2,rfl,_,_,_⟩:=aC.of_own o2
 clear o1 o2 B1 B2
 go_wp2_with(first
  |(go_at_call 404;refine(EW _ _ _).mono ?_;rintro e w' ⟨rfl,rfl⟩)
  |(go_at_call 405;refine(ac7 _ _ ta tb _ X.out.1 X.out.2.1).mono ?_;rintro e w' ⟨rfl,rfl⟩))
 have hO:=ajF _ [eS ((ta.length:Nat):Int) ((tb.length:Nat):Int),cmpL ta tb] _ (E1 w2 3 [eS ((ta.length:Nat):Int) ((tb.length:Nat):Int),cmpL ta tb] 2 rfl (by omega))
 rw[HR.out]at hO
 refine hO.mono ?_
 rintro e w3 ⟨rfl,rfl⟩
 go_wp2
 go_ret
 exact⟨rfl,X.out.2.2.alloc X.out.2.2.size _⟩
end
section
open Go.RowKit Go.Proofs.Tryz
theorem aR (x:Int)(h0:-9223372036854775808<=x)(h1:x<=9223372036854775807):IntKind.i64.wrap x=x:=by
 simp[IntKind.wrap,IntKind.bits,IntKind.signed];omega
theorem adA (v u:Value)(a b:List Int)(B1 B2:Nat)(i:Nat)(w:World)(ha:aC w v a)(hb:aC w u b)(h1:w.cell? ⟨B1,0,none⟩=some v)(h2:w.cell? ⟨B2,0,none⟩=some u)(da:Dg a)(db:Dg b)(hi:i<=1000000):
  Calls prog 535 #[.int .i64 i,.pointer (some ⟨B1,0,none⟩),.pointer (some ⟨B2,0,none⟩)] w fun e w'=>e=.returned (.int .i64 (bZ a i+bZ b i))/\∃q,w'=w.drewN q:=by
 have hc:=fun q=>ET v a i (w.drewN q) (ha.drewN q) (by omega)
 have hd:=fun q=>ET u b i (w.drewN q) (hb.drewN q) (by omega)
 have fa:=jX da i
 have fb:=jX db i
 obtain⟨x,hx⟩:∃x,bZ a i=x:=⟨_,rfl⟩
 obtain⟨y,hy⟩:∃y,bZ b i=y:=⟨_,rfl⟩
 rw[hx]at hc fa⊢
 rw[hy]at hd fb⊢
 clear hx hy da db
 obtain⟨A,c,rfl,_,_,_⟩:=ha
 obtain⟨B,d,rfl,_,_,_⟩:=hb
 go_enter func535,ntmps535
 go_wp2
 have hf:∀(V:Value) (r:Int) (q:Nat),(V=.slice A a.length c/\r=x)∨(V=.slice B b.length d/\r=y)->Calls prog 534 #[V,.int .i64 i] (w.drewN q) fun e w'=>e=.returned (.int .i64 r)/\w.drewN q=w':=by
  rintro V r q (⟨rfl,rfl⟩|⟨rfl,rfl⟩)
  ·exact hc q
  ·exact hd q
 clear hc hd
 have hw:IntKind.i64.wrap (x+y)=x+y:=aR _ (by omega) (by omega)
 go_region_with (go_at_call 534;refine(hf _ _ _ (by first|exact .inl ⟨rfl,rfl⟩|exact .inr ⟨rfl,rfl⟩)).mono ?_;rintro e w' ⟨rfl,rfl⟩)
 all_goals(go_wp2;go_ret;exact⟨rfl,_,rfl⟩)
theorem OZ (B:Nat)(v:Value)(o:List Int)(w:World)(h:w.ownsRow B 3 1 v o.length (ints o))(hl:o.length<=1000000):
  Calls prog 540 #[v] w fun e w'=>e=.returned (.tuple #[])/\aC w' v o.reverse/\∀X n,n<=B->Below n X w->Below n X w':=by
 have hI:=aC.of_own h
 rcases h.2 with⟨rfl,h0⟩|⟨g,cap,cur,rfl,hB,hg,h1,h2,h3,h4⟩
 ·obtain rfl:o=[]:=aD8 h0;refine(Tryz.slices_Reverse_int_empty none 0 w).mono ?_;rintro e w' ⟨rfl,rfl⟩;exact⟨rfl,hI,fun X n _ hb=>hb⟩
 ·obtain⟨A,c,he,hh,hf,hA⟩:=hI;injection he with e1 e2 e3
  subst e1;subst e3;by_cases hp:0<o.length
  ·obtain⟨b,off,hd,ha⟩:=hA hp;injection hd with hd
   injection hd with e4 e5
   subst e4;subst e5;refine(Tryz.slices_Reverse_int_cells g 0 o.length cap o w (aD1 _) (by omega) ha (fun j _=>by simp[World.frozen?,hg])).mono ?_;rintro e w' ⟨rfl,q,rfl⟩;rw[aFM];refine⟨rfl,⟨_,cap,by rw[aGB],by rw[aGB];exact hh,hf,fun _=>⟨g,0,rfl,fun j hj=>?_⟩⟩,fun X n hn hb=>?_⟩
   ·rw[aGB]at hj
    have:=World.cell?_setCells_in g (o.reverse.map (Value.int .i64)) 0 (w.drewN q) (fun k hk=>by
     have hi:k<o.length:=by simpa using hk
     have hc:=ha k hi;show(w.cell? ⟨g,0+k,none⟩).isSome=true;rw[hc];rfl) j (by simpa using hj)
    rw[this];simp[aD9,hj]
   ·exact Lib.below_setCells g (by omega) _ _ (show Below n X (w.drewN q)from⟨hb.os,hb.tape,hb.output,hb.size,hb.block⟩)
  ·obtain rfl:o=[]:=aD8 (by omega);refine(Tryz.slices_Reverse_int_empty _ cap w).mono ?_;rintro e w' ⟨rfl,rfl⟩;exact⟨rfl,⟨_,cap,rfl,aES _,hf,fun h=>absurd h (by simp)⟩,fun X n _ hb=>hb⟩
theorem dI:(prog.info? 3).map (fun i=>(i.zero,i.size,i.bytes))=some (some (.int .i64 0),1,8):=by kernel_rfl
end
section
open Go.RowKit Go.Proofs.Tryz
theorem Dg.snoc {o:List Int}(h:Dg o){d:Int}(h0:0<=d)(h1:d<=9):Dg (o++[d]):=h.append (Dg.one h0 h1)
theorem adB (r:Int)(h:0<=r):r.tmod 10=r%10:=aFC h
theorem adC (r:Int)(h:0<=r):r.tdiv 10=r/10:=Int.tdiv_eq_ediv_of_nonneg h
theorem Y9 (f:Nat->Int)(n:Nat)(u1 u2:Value)(w:World)(hn:n<=100000)(hb:∀i,i<n->-10000<=f i/\f i<=10000)(ht:0<=gY f n)
  (hf:∀W,Below w.heap.size w W->∀i,i<n->Calls prog 535 #[.int .i64 (i:Nat),u1,u2] W fun e w'=>e=.returned (.int .i64 (f i))/\∃q,w'=W.drewN q):
  Calls prog 532 #[.int .i64 n,.func (.func 535) #[] #[u1,u2]] w fun e w'=>∃v',e=.returned v'/\w'.ownsRow w.heap.size 3 1 v' (bE (gY f n).toNat).length (ints (bE (gY f n).toNat))/\Below w.heap.size w w':=by
 obtain⟨i0,hi,hC,hD,hE⟩:=aHT dI
 have HF:=aHL hf
 have HB:=aHL hb
 have HT:=aHL ht
 clear hf hb ht
 obtain⟨dd,hB⟩:∃dd,bE (gY f n).toNat=dd:=⟨_,rfl⟩
 rw[hB]
 have Hb:=aHL hB
 clear hB
 go_enter func532,ntmps532
 go_wp2
 go_loopw [5,6,10] (fun v r i wr=>∃(k:Nat) (o:List Int) (rest:Int),i=.int .i64 k/\r=.int .i64 rest/\k<=n/\o.length=k/\-10000<=rest/\rest<=10000/\wr.ownsRow w.heap.size 3 1 v k (ints o)/\Below w.heap.size w wr/\Aside (Dg o/\qD o+rest*10^k=gY f k)) (fun _ _ i _=>n-(intOf i).toNat)
 case atStart=>exact⟨0,[],0,rfl,rfl,aES _,rfl,by omega,by omega,aHN _ _ _ _,Below.refl _ _,Dg.nil,by simp[ac3,gY]⟩
 case round=>
  obtain⟨k,o,rest,rfl,rfl,hk,hol,hS,hr1,hown,hBw,HA⟩:=hrel
  by_cases hF:k<n
  ·have hc:=HF.out _ hBw k hF;have hI:=HB.out k hF;obtain⟨x,hx⟩:∃x,f k=x:=⟨_,rfl⟩;rw[hx]at hc hI;have HX:=aHL hx;clear hx;obtain⟨y,hy⟩:∃y,rest+x=y:=⟨_,rfl⟩;have hT:IntKind.i64.wrap (rest+x)=y:=by rw[hy];exact aR _ (by omega) (by omega)
   obtain⟨d,hd⟩:∃d,y%10=d:=⟨_,rfl⟩;have hv:0<=d/\d<=9:=by omega
   have hJ:(y.tmod 10+10).tmod 10=d:=by rw[Y4];exact hd
   have hV:-10<y.tmod 10/\y.tmod 10<10:=by
    constructor
    ·have:=Int.lt_tmod_of_pos y (show(0:Int)<10 by omega);omega
    ·exact Int.tmod_lt_of_pos y (by omega)
   have hW:IntKind.i64.wrap (y.tmod 10)=y.tmod 10:=aR _ (by omega) (by omega);have hX:IntKind.i64.wrap (y.tmod 10+10)=y.tmod 10+10:=aR _ (by omega) (by omega);have hK:IntKind.i64.wrap d=d:=aR _ (by omega) (by omega);obtain⟨q,hq⟩:∃q,y/10=q:=⟨_,rfl⟩;have hL:(y-d).tdiv 10=q:=by rw[<-hd,Y5];exact hq
   have hY:IntKind.i64.wrap (y-d)=y-d:=aR _ (by omega) (by omega);have hM:IntKind.i64.wrap q=q:=aR _ (by omega) (by omega);have hN:-10000<=q/\q<=10000:=by omega
   have HN:Hid (Dg (o++[d])/\qD (o++[d])+q*10^(k+1)=gY f (k+1)):=by
    refine⟨HA.out.1.snoc hv.1 hv.2,?_⟩;rw[<-hd,<-hq,<-hy,<-HX.out];exact ER HA.out.2 hol
   have hA:=hBw.size;clear hd hq hy
   go_wp2_with(first
    |(refine hc.mono ?_;rintro e w2 ⟨rfl,qq,rfl⟩)
    |(at_builtin
      refine aHU _ rfl _ _ 22 rfl w.heap.size 3 i0 (.int .i64 0) 1 8 underlying22 hi hC hD hE rfl (by decide) _ _ _ rfl ((YB hown _).alloc _) ⟨(wr.drewN qq).heap.size,0,none⟩ 1 1 [.int .i64 d] rfl rfl (aHZ _ _ _) (fun x hx=>by simp at hx;subst hx;rfl) (by unfold maxLen;omega) (by omega) (by simp;omega) ?_
      intro v' w3 ha hg ho
      have X5:Aside (w3.ownsRow w.heap.size 3 1 v' (k+1) (ints (o++[d]))/\Below w.heap.size w w3):=by
       refine⟨by rw[aS];exact ha,?_⟩;have hO:Below w.heap.size w (wr.drewN qq):=⟨hBw.os,hBw.tape,hBw.output,hBw.size,hBw.block⟩;exact(hO.alloc hA _).grown hg (by simp;omega) (fun j hj=>(hown.lt j hj).1)
      clear ha hg ho))
   go_roundw
   case rel=>exact⟨k+1,o++[d],q,by go_num,rfl,by omega,by simp[hol],by omega,by omega,X5.out.1,X5.out.2,HN.out⟩
   case measure=>simp[intOf];omega
  ·obtain rfl:k=n:=by omega
   have hr:=ES HA.out.1 (by rw[hol];exact HA.out.2) HT.out;have HA2:Hid (Dg o/\qD o+rest*10^o.length=gY f k):=⟨HA.out.1,by rw[hol];exact HA.out.2⟩;rw[<-hol]at hown;clear HA;go_wp2;go_loopw [5,6] (fun v r wr=>∃(o:List Int) (rest:Int),r=.int .i64 rest/\0<=rest/\rest<=10000/\(o.length:Int)+rest<=(k:Int)+10000/\wr.ownsRow w.heap.size 3 1 v o.length (ints o)/\Below w.heap.size w wr/\Aside (Dg o/\qD o+rest*10^o.length=gY f k)) (fun _ r _=>(intOf r).toNat)
   case atStart=>exact⟨o,rest,rfl,hr,hr1,by omega,hown,hBw,HA2.out⟩
   case round=>
    obtain⟨o2,r2,rfl,hP,hQ,hR,hh,hl,Ha⟩:=hrel
    by_cases hp:0<r2
    ·obtain⟨d,hd⟩:∃d,r2%10=d:=⟨_,rfl⟩;obtain⟨q,hq⟩:∃q,r2/10=q:=⟨_,rfl⟩;have hJ:r2.tmod 10=d:=by rw[adB _ (by omega)];exact hd
     have hL:r2.tdiv 10=q:=by rw[adC _ (by omega)];exact hq
     have hv:0<=d/\d<=9:=by omega
     have hN:0<=q/\q<r2:=by omega
     have hK:IntKind.i64.wrap d=d:=aR _ (by omega) (by omega);have hM:IntKind.i64.wrap q=q:=aR _ (by omega) (by omega)
     have HN:Hid (Dg (o2++[d])/\qD (o2++[d])+q*10^(o2++[d]).length=gY f k):=by
      refine⟨Ha.out.1.snoc hv.1 hv.2,?_⟩;rw[<-hd,<-hq];exact SY Ha.out.2 (by omega)
     have hA:=hl.size;clear hd hq
     go_wp2_with(first
      |(at_builtin
        refine aHU _ rfl _ _ 22 rfl w.heap.size 3 i0 (.int .i64 0) 1 8 underlying22 hi hC hD hE rfl (by decide) _ _ _ rfl (hh.alloc _) ⟨_,0,none⟩ 1 1 [.int .i64 d] rfl rfl (aHZ _ _ _) (fun x hx=>by simp at hx;subst hx;rfl) (by unfold maxLen;omega) (by omega) (by simp;omega) ?_
        intro v' w3 ha hg ho
        have X5:Aside (w3.ownsRow w.heap.size 3 1 v' (o2.length+1) (ints (o2++[d]))/\Below w.heap.size w w3):=by
         refine⟨by rw[aS];exact ha,?_⟩;exact(hl.alloc hA _).grown hg (by simp;omega) (fun j hj=>(hh.lt j hj).1)
        clear ha hg ho))
     go_roundw
     case rel=>exact⟨o2++[d],q,rfl,by omega,by omega,by simp;omega,by rw[aD2];exact X5.out.1,X5.out.2,HN.out⟩
     case measure=>simp[intOf];omega
    ·obtain rfl:r2=0:=by omega
     have hs:=SZ Ha.out.1 Ha.out.2;have hz:=OZ w.heap.size _ o2 _ hh (by omega);rw[Hb.out]at hs;have HE:=aHL hs;have HR:=aHL hz;have hA:=hl.size;have X:=aside hl;clear hs hz hl Ha hh hown HA2;go_wp2_with(go_at_call 540;refine HR.out.mono ?_;rintro e w5 ⟨rfl,hG,hH⟩)
     have X5:=aside (And.intro hG (hH w w.heap.size (aD1 _) X.out));have ht:=nX _ _ _ X5.out.1 (by rw[aGB];omega);rw[HE.out]at ht;have Hc:=aHL ht;clear ht hG hH;go_wp2_with(go_at_call 291;refine Hc.out.mono ?_;rintro e w6 ⟨v6,rfl,o6,b6⟩)
     go_ret;exact⟨_,rfl,eZ o6 X5.out.2.size,X5.out.2.trans (b6.mono X5.out.2.size)⟩
end
section
open Go.RowKit Go.Proofs.Tryz
theorem eO {n k:Nat}(h:n<10^k):(bE n).length<=k:=by
 rcases aEU k (bE n).length with h1|h1
 ·exfalso
  cases hd:bE n with
  |nil=>rw[hd]at h1;simp at h1
  |cons d r=>
   have hz:=Y0 n d r hd
   have ha:=dK n d (by rw[hd];exact aEH)
   have h2:=ac9 (d:=d) (l:=r) (by omega)
   rw[<-hd,eK]at h2
   rw[hd]at h1
   have h3:10^k<=10^r.length:=aEY (by omega) (by simp at h1;omega)
   omega
 ·exact h1
theorem adD (v u:Value)(a b:List Int)(g:Nat)(w:World)(ha:aC w v a)(hb:aC w u b)(da:Dg a)(db:Dg b)(la:a.length<=100)(lb:b.length<=100)
  (c0:w.cell? ⟨g,0,none⟩=some v) (c1:w.cell? ⟨g,1,none⟩=some u):
  Calls prog 527 #[.slice (some ⟨g,0,none⟩) 2 2] w fun e w'=>∃v',e=.returned (.tuple #[v',.int .i64 0])/\w'.ownsRow w.heap.size 3 1 v' (bE (num a+num b)).length (ints (bE (num a+num b)))/\Below w.heap.size w w':=by
 obtain⟨dd,hx⟩:∃dd,bE (num a+num b)=dd:=⟨_,rfl⟩
 rw[hx]
 have Hb:=aHL hx
 clear hx
 have hB:g<w.heap.size:=aHQ w _ c0
 go_enter func527,ntmps527
 go_wp2
 go_loopw [4,10] (fun v i wr=>∃k:Nat,i=.int .i64 k/\k<=2/\Below w.heap.size w wr/\Aside (∃s:Nat,((k=0/\s=0)∨(k=1/\s=num a)∨(k=2/\s=num a+num b))/\wr.ownsRow w.heap.size 3 1 v (bE s).length (ints (bE s)))) (fun _ i _=>2-(intOf i).toNat)
 case atStart=>exact⟨0,rfl,by omega,Below.refl _ _,0,.inl ⟨rfl,rfl⟩,by rw[fK];exact aHN _ _ _ _⟩
 case round=>
  obtain⟨k,rfl,hk,hc,HS⟩:=hrel
  by_cases hH:k<2
  ·obtain⟨V,l,hV,hl,dl,ll,hC,hj⟩:∃V l,aC wr V l/\l.length<=100/\Dg l/\((k=0/\l=a)∨(k=1/\l=b))/\wr.cell? ⟨g,k,none⟩=some V/\True:=by
    rcases(show k=0∨k=1 by omega)with rfl|rfl
    ·exact⟨v,a,ha.below hc (aD1 _),la,da,.inl ⟨rfl,rfl⟩,(hc.cell (p:=⟨g,0,none⟩) hB).trans c0,trivial⟩
    ·exact⟨u,b,hb.below hc (aD1 _),lb,db,.inr ⟨rfl,rfl⟩,(hc.cell (p:=⟨g,1,none⟩) hB).trans c1,trivial⟩
   obtain⟨s,hs,hd⟩:=HS.out
   have hp:(bE s).length<=101:=by
    refine eO ?_;have h1:=gQ da;have h2:=gQ db;have h3:10^a.length<=10^100:=aEY (by omega) la;have h4:10^b.length<=10^100:=aEY (by omega) lb;rw[aGC];generalize(10:Nat)^100=P at *;omega
   obtain⟨so,hq⟩:∃so,bE s=so:=⟨_,rfl⟩;have hr:Dg so:=by rw[<-hq];exact dK s
   have hD:num so=s:=by rw[<-hq];exact eK s
   rw[hq]at hd hp;have hz:=aC.of_own hd;have hF:=hc.size;obtain⟨A1,c1,hE⟩:∃A c,u4=.slice A so.length c:=by obtain⟨A,c,he,_⟩:=hz;exact⟨A,c,he⟩
   obtain⟨A2,c2,rfl⟩:∃A c,V=.slice A l.length c:=by obtain⟨A,c,he,_⟩:=hV;exact⟨A,c,he⟩
   obtain⟨W2,hh⟩:∃W2,(wr.alloc (Obj.cells #[.slice A2 l.length c2] 22)).alloc (Obj.cells #[u4] 22)=W2:=⟨_,rfl⟩;have ht:Below wr.heap.size wr W2:=by rw[<-hh];exact((Below.refl _ wr).alloc (aD1 _) _).alloc (by simp) _
   have hG:W2.heap.size=wr.heap.size+2:=by rw[<-hh];simp
   have d1:W2.cell? ⟨wr.heap.size,0,none⟩=some (.slice A2 l.length c2):=by rw[<-hh];simp
   have d2:W2.cell? ⟨wr.heap.size+1,0,none⟩=some u4:=by
    rw[<-hh];simp
   obtain⟨n,hn⟩:∃n,max so.length l.length=n:=⟨_,rfl⟩
   have hf:gY (fun i=>bZ so i+bZ l i) n=((num so+num l:Nat):Int):=by
    rw[VO,uN so hr n (by omega),uN l dl n (by omega)]
    push_cast;rfl
   have hg:=Y9 (fun i=>bZ so i+bZ l i) n (.pointer (some ⟨wr.heap.size+1,0,none⟩)) (.pointer (some ⟨wr.heap.size,0,none⟩)) W2 (by omega)
    (fun i _=>by have:=jX hr i;have:=jX dl i;omega) (by rw[hf];omega)
    (fun W hv i hi=>adA u4 _ so l (wr.heap.size+1) wr.heap.size i W ((hz.below ht (aD1 _)).below hv (aD1 _)) ((hV.below ht (aD1 _)).below hv (aD1 _))
      ((hv.cell (p:=⟨wr.heap.size+1,0,none⟩) (by simp only;omega)).trans d2) ((hv.cell (p:=⟨wr.heap.size,0,none⟩) (by simp only;omega)).trans d1) hr dl (by omega))
   rw[hf,aGL,hD]at hg;have hA:=rC _ l (wr.alloc (Obj.cells #[.slice A2 l.length c2] 22)) (hV.alloc _) dl
   have HN:Hid (∃s':Nat,((k+1=0/\s'=0)∨(k+1=1/\s'=num a)∨(k+1=2/\s'=num a+num b))/\bE s'=bE (s+num l)):=by
    refine⟨s+num l,?_,rfl⟩;rcases ll with⟨rfl,rfl⟩|⟨rfl,rfl⟩
    ·rcases hs with⟨_,rfl⟩|⟨h,_⟩|⟨h,_⟩
     ·exact .inr (.inl ⟨rfl,by omega⟩)
     ·omega
     ·omega
    ·rcases hs with⟨h,_⟩|⟨_,rfl⟩|⟨h,_⟩
     ·omega
     ·exact .inr (.inr ⟨rfl,rfl⟩)
     ·omega
   have HC:=aHL hg;have Hc:=aHL hh;have Ha:=aHL (hc.trans (ht.mono hF));have hI:(max (so.length:Int) (l.length:Int))=(n:Int):=by omega
   clear hg hh hs hd hq hr hD hf ht d1 d2 ll hj HS dl hV hz
   go_wp2_with(first
    |(go_at_call 290;refine hA.mono ?_;rintro e w' ⟨rfl,rfl⟩))
   rw[<-hE,Hc.out];refine HC.out.mono ?_;rintro e w5 ⟨v5,rfl,o5,b5⟩
   have X5:Aside (Below w.heap.size w w5/\∃s':Nat,((k+1=0/\s'=0)∨(k+1=1/\s'=num a)∨(k+1=2/\s'=num a+num b))/\w5.ownsRow w.heap.size 3 1 v5 (bE s').length (ints (bE s'))):=by
    obtain⟨s',h1,h2⟩:=HN.out;exact⟨Ha.out.trans (b5.mono Ha.out.size),s',h1,by rw[h2];exact eZ o5 Ha.out.size⟩
   clear o5 b5 hE;go_wp2;go_roundw
   case rel=>exact⟨k+1,by go_num,by omega,X5.out.1,X5.out.2⟩
   case measure=>simp[intOf];omega
  ·obtain rfl:k=2:=by omega
   have X5:Aside (wr.ownsRow w.heap.size 3 1 u4 dd.length (ints dd)):=by
    obtain⟨s,hs,ho⟩:=HS.out;rcases hs with⟨h,_⟩|⟨h,_⟩|⟨_,rfl⟩
    ·omega
    ·omega
    ·rw[Hb.out]at ho;exact ho
   have Hd:=aside hc;clear HS hc;go_wp2;go_ret2;exact⟨_,rfl,X5.out,Hd.out⟩
end
section
open Go.RowKit Go.Proofs.Tryz
end
section
open Go.RowKit Go.Proofs.Tryz
theorem IG (n:Nat):Builtin.zeroCells #[Value.int .i64 0] n=(List.replicate n (Value.int .i64 0)).toArray:=by
 apply Array.ext
 ·simp[Builtin.zeroCells]
 ·intro i h1 h2;simp[Builtin.zeroCells,Nat.mod_one]
section
variable {P:Program}(w:World)
theorem mG (base:Nat)(t xt ty e:TypeId)(i:TypeInfo)(ht:P.underlying t=some (.slice e))(hx:P.underlying xt=some (.int .i64))(hi:P.info? e=some i)(hz:i.zero=some (.int .i64 0))
  (ha:i.size=1) (hr:i.bytes=8)
  (v:Value) (n:Nat) (xs:List Value) (hc:w.ownsRow base e 1 v n xs)
  (m:Nat) (hI:n+m<=1000000) (hl:base<=w.heap.size):
  ∃v' w',(Builtin.append_ #[t,xt] ty #[v,.int .i64 m]).run P w=.ok v' w'/\w'.ownsRow base e 1 v' (n+m) (xs++List.replicate m (.int .i64 0))/\w.grownBy w' v.ownBlock:=by
 have hs:IntKind.i64.wrap (m:Int)=(m:Int):=aR _ (by omega) (by omega)
 have hv:¬((m:Int)<0):=by omega
 have hd:¬((281474976710656:Int)<(m:Int)*8):=by omega
 have hlen:(xs++List.replicate m (Value.int .i64 0)).length=(n+m)*1:=by
  have:=hc.1;rw[aD2,aF5];omega
 have hA:Builtin.zeroCells (Value.int .i64 0).cells m=(List.replicate m (Value.int .i64 0)).toArray:=IG m
 have grown:∀(old:Nat),old<n+m->∀(row:Option Nat),
   (w.drew.alloc (.cells (xs.toArray++(List.replicate m (Value.int .i64 0)).toArray++Builtin.zeroCells (Value.int .i64 0).cells (grownCap w (n+m) old e-(n+m))) e)).ownsRow base e 1
     (.slice (some ⟨w.heap.size,0,none⟩) (n+m) (grownCap w (n+m) old e)) (n+m) (xs++List.replicate m (.int .i64 0))/\
   w.grownBy (w.drew.alloc (.cells (xs.toArray++(List.replicate m (Value.int .i64 0)).toArray++Builtin.zeroCells (Value.int .i64 0).cells (grownCap w (n+m) old e-(n+m))) e)) row:=by
  intro old ho row
  have hD:=grownCap_ge w (n+m) old e
  have hB:grownCap w (n+m) old e<=maxLen:=grownCap_le_maxLen w (n+m) old e (by unfold maxLen;omega)
  have h1:=hc.1
  refine⟨⟨hlen,.inr ⟨w.heap.size,_,_,rfl,hl,aHO w.drew _,hD,hB,?_,?_⟩⟩,⟨rfl,rfl,rfl,by simp,fun k hk _=>_root_.Go.heap_alloc_old w.drew _ hk⟩⟩
  ·simp only[Array.size_append,aEX,size_zeroCells,aF5];have:(Value.int .i64 0).cells.size=1:=rfl;rw[this];omega
  ·simp only[aGN];rw[<-hlen];exact List.take_left
 rcases hc.2 with⟨rfl,rfl⟩|⟨g,cap,cur,rfl,hE,hg,hF,hB,hJ,hp⟩
 ·have hG:xs=[]:=aD8 (by simpa using hc.1);subst hG;by_cases hm:m=0
  ·subst hm;refine⟨.slice none 0 0,w,?_,aHN w base e 1,⟨rfl,rfl,rfl,aD1 _,fun _ _ _=>rfl⟩⟩;have hC:IntKind.i64.wrap 0=0:=by decide
   simp[Builtin.append_,aHV ht,aHV hx,sizeOf,typeInfo,hi,asInt,asIntOf,hC]
  ·have hj:=grown 0 (by omega) (Value.ownBlock (.slice none 0 0));have hf:¬(9223372036854775807<(m:Int)):=by omega
   have hh:¬(281474976710656<Builtin.nextslicecap m 0*8):=by rw[nextslicecap_zero (by omega)];omega
   simp only[aEV,aF4]at hj⊢;refine⟨_,_,?_,hj.1,hj.2⟩;simp[Builtin.append_,aHV ht,aHV hx,sizeOf,typeInfo,zeroValue,hi,hz,ha,hr,asInt,asIntOf,hs,hv,hd,hm,hf,hh,Question.forced,run_firstCells_none,newRow,grownCap,hA]
 ·by_cases hb:n+m<=cap
  ·have hq:=run_storeCells_at P g (n*1) e (List.replicate m (Value.int .i64 0)) 0 cur w hg (by simp;omega) (fun u hu=>by rw[List.eq_of_mem_replicate hu];rfl);simp only[aE2,aHI]at hq;refine⟨.slice (some ⟨g,0,none⟩) (n+m) cap,w.setRow g (cur.toList.take n++List.replicate m (Value.int .i64 0)++cur.toList.drop (n+m)).toArray,?_,⟨hlen,.inr ⟨g,cap,_,rfl,hE,setRow_heap w g cur _ e _ hg,hb,hB,?_,?_⟩⟩,⟨rfl,rfl,rfl,by simp,fun k _ hk=>setRow_other w g k _ (fun e=>hk (by simp[Value.ownBlock,e]))⟩⟩
   ·by_cases hm:m=0
    ·subst hm;have hC:IntKind.i64.wrap 0=0:=by decide
     simp only[List.replicate_zero,aEW,aE2]at hq;simp[Builtin.append_,aHV ht,aHV hx,sizeOf,typeInfo,hi,ha,asInt,asIntOf,hb,hC,Addr.add_lit,hq,hF]
    ·simp[Builtin.append_,aHV ht,aHV hx,sizeOf,typeInfo,zeroValue,hi,hz,ha,hr,asInt,asIntOf,hs,hv,hd,hm,hb,hA,Addr.add_lit,hq]
   ·simp only[aEX,aD2,aF6,aF7,aF5,aFE];omega
   ·rw[<-hlen];have:cur.toList.take n=xs:=by simpa using hp
    rw[this];exact List.take_left
  ·have holds:∀j u,xs[j]?=some u->w.cell? ((⟨g,0,none⟩:Addr).add j)=some u:=hc.cells (g:=g) rfl;have hH:=run_firstCells_some (P:=P) w.drew 1 n ⟨g,0,none⟩ n cap xs hc.1 (by simpa using holds);have hj:=grown cap (by omega) (Value.ownBlock (.slice (some ⟨g,0,none⟩) n cap));have hn:¬(n+m<=cap):=hb;have hf:¬(9223372036854775807<((n:Int)+(m:Int))):=by omega
   have hh:¬(281474976710656<Builtin.nextslicecap (n+m) cap*8):=by
    have:=growslice_fits (need:=n+m) (old:=cap) (bytes:=8) (by omega) (by omega);omega
   refine⟨_,_,?_,hj.1,hj.2⟩;by_cases hm:m=0
   ·omega
   ·simp[Builtin.append_,aHV ht,aHV hx,sizeOf,typeInfo,zeroValue,hi,hz,ha,hr,asInt,asIntOf,hs,hv,hd,hm,hn,hf,hh,Question.forced,hH,newRow,grownCap,hA]
theorem gC {ops:Array Oper}{rest:List Oper}{o:Oper}{a:Act}{Q:Exit->Act->World->Prop}(hd:o.guard=none)(s x:Operand)(t xt:TypeId)
  (ho:o.op=.call {callee:= .builtin .append,args:=#[s,x],argTypes:=#[t,xt]})
  (base:Nat) (e:TypeId) (i:TypeInfo) (ht:P.underlying t=some (.slice e)) (hf:P.underlying xt=some (.int .i64)) (hi:P.info? e=some i) (hz:i.zero=some (.int .i64 0))
  (ha:i.size=1) (hg:i.bytes=8)
  (v:Value) (n:Nat) (xs:List Value) (hs:a.eval s=v) (hc:w.ownsRow base e 1 v n xs)
  (m:Nat) (hx:a.eval x=.int .i64 m) (hh:n+m<=1000000) (hb:base<=w.heap.size)
  (h:∀v' w',w'.ownsRow base e 1 v' (n+m) (xs++List.replicate m (.int .i64 0))->w.grownBy w' v.ownBlock->wpList P ops Q rest (a.put o.dst v') w'):
  wpList P ops Q (o::rest) a w:=by
 refine wpList_plain hd fun K hK=>?_
 obtain⟨v',w',hr,h2,h3⟩:=mG (P:=P) w base t xt o.type e i ht hf hi hz ha hg v n xs hc m hh hb
 unfold Oper.wp execOp
 simp only[ho,resolve,invoke,builtin,aH2,aH3,aH1,aGP,aFB,aGS,hs,hx,hr]
 exact hK _ _ (h v' w' h2 h3)
end
end
section
open Go.RowKit Go.Proofs.Tryz
theorem wX (v:Value)(a:List Int)(m:Nat)(w:World)(ha:aC w v a)(da:Dg a)(la:a.length<=100)(hm:m<=1000):
  Calls prog 402 #[v,.int .i64 m] w fun e w'=>∃v',e=.returned (.tuple #[v',.int .i64 0])/\w'.ownsRow w.heap.size 3 1 v' (a++List.replicate m 0).length (ints (a++List.replicate m 0))/\Below w.heap.size w w':=by
 have hf:=rC _ a w ha da
 have hc:=jI v a w ha (by omega)
 have HM:=aHL hf
 have HC:=aHL hc
 have hl:decide ((m:Int)<0)=false:=aEC (by omega)
 have hn:decide ((1000:Int)<(m:Int))=false:=aEC (by omega)
 have ho:decide ((m:Int)< -1000)=false:=aEC (by omega)
 clear hf hc
 obtain⟨i0,hi,hg,hh,hk⟩:=aHT dI
 go_enter func402,ntmps402
 go_wp2_with(first
  |(go_at_call 290;refine HM.out.mono ?_;rintro e w' ⟨rfl,rfl⟩)
  |(go_at_call 278;refine HC.out.mono ?_;rintro e w4 ⟨v4,rfl,o4,b4⟩)
  |(at_builtin
    refine gC _ rfl _ _ 22 3 rfl w.heap.size 3 i0 underlying22 underlying3 hi hg hh hk _ _ _ rfl o4 m rfl (by omega) b4.size ?_
    intro v' w3 hb hd))
 go_ret2
 refine⟨_,rfl,?_,b4.grown hd b4.size (fun j hj=>(o4.lt j hj).1)⟩
 rw[aD2,aF5,aS]
 have:ints (List.replicate m 0)=List.replicate m (Value.int .i64 0):=by simp[ints]
 rw[this]
 exact hb
end
section
open Go.RowKit Go.Proofs.Tryz
variable {w:World}{B n c g:Nat}{p:Addr}{v:Value}{l:List Int}{A:Option Addr}{x:Int}
theorem iM {b:Nat}{cs:Array Value}{t:TypeId}(h:w.heap[b]?=some (.cells cs t (0,0)))(i:Nat):w.frozen? ⟨b,i,none⟩=false:=by
 simp[World.frozen?,h]
theorem eA (w:World)(g i:Nat)(v:Value)(cs:Array Value)(t:TypeId)(fz:Nat×Nat)(h:w.heap[g]?=some (.cells cs t fz)):(w.setCell ⟨g,i,none⟩ v).heap[g]?=some (.cells (cs.setIfInBounds i v) t fz):=by
 simp[World.setCell,aGV,h]
def cO (w:World)(g:Nat)(a b c:Value):Prop:=w.heap[g]?=some (.cells #[a,b,c] 274 (0,0))
section
variable {w w':World}{g:Nat}{a b c:Value}
theorem cO.c0 (h:cO w g a b c):w.cell? ⟨g,0,none⟩=some a:=by rw[aHM w g 0 _ _ _ h];rfl
theorem cO.c1 (h:cO w g a b c):w.cell? ⟨g,1,none⟩=some b:=by rw[aHM w g 1 _ _ _ h];rfl
theorem cO.c2 (h:cO w g a b c):w.cell? ⟨g,2,none⟩=some c:=by rw[aHM w g 2 _ _ _ h];rfl
theorem cO.fz (h:cO w g a b c)(i:Nat):w.frozen? ⟨g,i,none⟩=false:=iM h i
theorem cO.lt (h:cO w g a b c):g<w.heap.size:=(aD5.1 h).1
theorem cO.keep (h:cO w g a b c)(hk:w'.heap[g]?=w.heap[g]?):cO w' g a b c:=hk.trans h
theorem cO.below (h:cO w g a b c)(hb:Below B w w')(hB:g<B):cO w' g a b c:=(hb.block g hB).trans h
theorem cO.set0 (h:cO w g a b c)(v:Value):cO (w.setCell ⟨g,0,none⟩ v) g v b c:=eA w g 0 v _ _ _ h
theorem cO.set1 (h:cO w g a b c)(v:Value):cO (w.setCell ⟨g,1,none⟩ v) g a v c:=eA w g 1 v _ _ _ h
theorem cO.set2 (h:cO w g a b c)(v:Value):cO (w.setCell ⟨g,2,none⟩ v) g a b v:=eA w g 2 v _ _ _ h
theorem cO.setAll (h:cO w g a b c)(x y z:Value):cO (((w.setCell ⟨g,0,none⟩ x).setCell ⟨g,1,none⟩ y).setCell ⟨g,2,none⟩ z) g x y z:=((h.set0 _).set1 _).set2 _
theorem cO.far (h:cO w g a b c)(hp:g≠p.block)(v:Value):cO (w.setCell p v) g a b c:=(Below.heap_setCell w p v g hp).trans h
theorem cO.new (w:World)(a b c:Value):cO (w.alloc (.cells #[a,b,c] 274)) w.heap.size a b c:=aHO w _
end
def dC (B:Nat)(v:Value):Prop:=∀k,v.ownBlock=some k->B<=k
theorem aC.far (h:aC w v l)(hf:dC B v)(hp:p.block<B)(u:Value):aC (w.setCell p u) v l:=by
 obtain⟨A,c,rfl,h0,h1,h2⟩:=h;refine⟨A,c,rfl,h0,h1,fun hl=>?_⟩;obtain⟨b,off,rfl,hc⟩:=h2 hl;refine⟨b,off,rfl,fun j hj=>?_⟩;rw[<-hc j hj];have:=hf b (by simp[Value.ownBlock]);exact aHW (a:=⟨b,off+j,none⟩) (Below.heap_setCell w p u b (by omega))
theorem aC.front (h:aC w (.slice A n c) (l++[x])):aC w (.slice A l.length c) l:=by
 obtain⟨A',c',he,h0,h1,h2⟩:=h;injection he with e1 e2 e3
 subst e1 e3;rw[aD2]at h0 h2;simp only[aEN,aEW]at h0 h2;refine⟨A,c,rfl,by omega,h1,fun hl=>?_⟩;obtain⟨b,off,rfl,hc⟩:=h2 (by omega);refine⟨b,off,rfl,fun j hj=>?_⟩;rw[hc j (by omega)];simp[aD9,aEG hj]
theorem aC.last (h:aC w (.slice A n c) (l++[x])):∃b off,A=some ⟨b,off,none⟩/\n=l.length+1/\l.length+1<=c/\c<=9223372036854775807/\w.cell? ⟨b,off+l.length,none⟩=some (.int .i64 x):=by
 obtain⟨A',c',he,h0,h1,h2⟩:=h;injection he with e1 e2 e3
 subst e1 e3;rw[aD2]at h0 h2 e2;simp only[aEN,aEW]at h0 h2 e2;obtain⟨b,off,rfl,hc⟩:=h2 (by omega);refine⟨b,off,rfl,e2,h0,h1,?_⟩;rw[hc l.length (by omega)];simp
theorem AN (w:World)(a b c x y z:Value):∃W2,(w.alloc (Obj.cells #[a,b,c] 274)).alloc (Obj.cells #[x,y,z] 274)=W2/\W2.heap.size=w.heap.size+2/\
  cO W2 w.heap.size a b c/\cO W2 (w.heap.size+1) x y z/\Below w.heap.size w W2:=by
 refine⟨_,rfl,by simp,(cO.new w _ _ _).keep (aHR _ _ (by simp)),?_,((Below.refl _ w).alloc (aD1 _) _).alloc (by simp) _⟩
 have:=cO.new (w.alloc (Obj.cells #[a,b,c] 274)) x y z
 simpa using this
structure Bx (w:World) (g:Nat) (a b c:Value):Prop where
 c0:w.cell? ⟨g,0,none⟩=some a
 c1:w.cell? ⟨g,1,none⟩=some b
 c2:w.cell? ⟨g,2,none⟩=some c
 fz:∀i,w.frozen? ⟨g,i,none⟩=false
theorem cO.bx {a b c:Value}(h:cO w g a b c):Bx w g a b c:=⟨h.c0,h.c1,h.c2,h.fz⟩
theorem aW {P:Program}{fn:Func}{p a:Tmp}{ty:TypeId}(h:fn.results=#[.cell p ty,.tmp a])(tmps:Array Value)(w:World)(g:Nat)(t:TypeId)(cs:Array Value)(fr:Nat×Nat)(d:TypeDesc)(x:Value)(hp:tmps.getD p undef=.pointer (some ⟨g,0,none⟩))(hx:tmps.getD a undef=x)(hg:w.heap[g]?=some (.cells cs t fr))(hu:P.underlying ty=some d)(hd:(match d with|.struct _|.array _ _=>true|_=>false)=true)(hi:(P.info? ty).map (·.size)=some cs.size):
  (results fn tmps).run P w=.ok (.tuple #[.agg cs,x]) w:=by
 have ha:tmps[p]?.getD undef=.pointer (some ⟨g,0,none⟩):=by simpa using hp
 have hb:tmps[a]?.getD undef=x:=by simpa using hx
 simp[results,h,ha,hb,asAddr,run_loadVar_row w g t ty cs fr d hg hu hd hi]
theorem Below.set3 {N:Nat}{w':World}(h:Below N w w')(hg:N<=g)(x y z:Value):Below N w (((w'.setCell ⟨g,0,none⟩ x).setCell ⟨g,1,none⟩ y).setCell ⟨g,2,none⟩ z):=
 ((h.setCell (p:=⟨g,0,none⟩) hg x).setCell (p:=⟨g,1,none⟩) hg y).setCell (p:=⟨g,2,none⟩) hg z
theorem bJ {t:TypeId}{xs:List Value}(h:w.ownsRow B t 1 v n xs):∃A c,v=.slice A n c:=by
 rcases h.2 with⟨rfl,rfl⟩|⟨g,cap,cur,rfl,_⟩
 ·exact⟨none,0,rfl⟩
 ·exact⟨_,_,rfl⟩
theorem aC.form (h:aC w v l):∃A c,v=.slice A l.length c:=by
 obtain⟨A,c,he,_⟩:=h;exact⟨A,c,he⟩
end
end Go.Proofs.YtoeiaflkdcbkdaaGreatDoor
