/- TopShell, part 1 of 36. -/
import Derived.MapKept
import Derived.Laws.BytesArg
import Derived.Laws.StructEq
import Derived.Laws.Strings
import Derived.Scope
import Derived.Defers
import Derived.Test.YtoeiaflkdcbkdaaGreatDoorK00
set_option linter.unusedVariables false
set_option linter.unusedSimpArgs false
namespace Go.Sym
open Go
section
variable {x y r:AV}{X Y:Value}{s d ty:TypeId}{argTypes:Array TypeId}
variable {P:Program}{T:TypeId->Option cZ}{ρ:Env}{m m':M}{w:World}
def acB (d:TypeDesc)(x y:AV):Option Bool:=
 match d,x,y with
 |.pointer _,.ptr _ _,.lit (.pointer none)|.pointer _,.lit (.pointer none),.ptr _ _=>some false
 |.pointer _,.lit (.pointer (some _)),.lit (.pointer none)|.pointer _,.lit (.pointer none),.lit (.pointer (some _))=>some false
 |.pointer _,.ptr b o,.ptr b' o'=>if decide (b=b')&&decide (o=o')then some true else none
 |.slice _,.slc _ _ _ _ _,.lit (.slice none _ _)|.slice _,.lit (.slice none _ _),.slc _ _ _ _ _=>some false
 |.map _ _,.mp _,.lit (.map none)|.map _ _,.lit (.map none),.mp _=>some false
 |.func _ _ _,.fn _ _ _,.lit .nilFunc|.func _ _ _,.lit .nilFunc,.fn _ _ _=>some false
 |.interface _,.ifc _ _,.lit .nilIface|.interface _,.lit .nilIface,.ifc _ _=>some false
 |_,_,_=>none
theorem N0 {t:TypeId}{d:TypeDesc}(ht:P.underlying t=some d)(hb:∀e,d=.pointer e->∃inf,P.info? e=some inf){r:Bool}(hs:acB d x y=some r)(hx:aO ρ x=some X)(hy:aO ρ y=some Y):
  (∀k (w:World),(Op.equalIn (k+1) t X Y).run P w=.ok r w)/\(∀op a b (w:World),(eqGuard op t a b X Y).run P w=.ok () w)/\(∀w:World,(binOp .eql t X Y).run P w=.ok (.bool r) w)/\(∀w:World,(binOp .neq t X Y).run P w=.ok (.bool !r) w):=by
 have fin:(∀k (w:World),(Op.equalIn (k+1) t X Y).run P w=.ok r w)->(∀op a b (w:World),(eqGuard op t a b X Y).run P w=.ok () w)->binOp .eql t X Y=(do pure (.bool (<-Op.equal t X Y)))->binOp .neq t X Y=(do pure (.bool (!(<-Op.equal t X Y))))->
   (∀k (w:World),(Op.equalIn (k+1) t X Y).run P w=.ok r w)/\(∀op a b (w:World),(eqGuard op t a b X Y).run P w=.ok () w)/\(∀w:World,(binOp .eql t X Y).run P w=.ok (.bool r) w)/\(∀w:World,(binOp .neq t X Y).run P w=.ok (.bool !r) w):=by
  intro h1 h2 h3 h4
  refine⟨h1,h2,fun w=>?_,fun w=>?_⟩
  ·rw[h3];have:=h1 9999 w;simp[Op.equal,Op.maxDepth,this]
  ·rw[h4];have:=h1 9999 w;simp[Op.equal,Op.maxDepth,this]
 unfold acB at hs
 split at hs
 ·injection hs with hs;subst hs
  obtain⟨g,o0,z,l,_,rfl⟩:=iF hx;simp only[aO]at hy;injection hy with hy;subst hy
  exact fin (fun k w=>by simp[Op.equalIn,run_underlying ht]) (fun op a b w=>by cases op<;>rfl) rfl rfl
 ·injection hs with hs;subst hs
  obtain⟨g,o0,z,l,_,rfl⟩:=iF hy;simp only[aO]at hx;injection hx with hx;subst hx
  exact fin (fun k w=>by simp[Op.equalIn,run_underlying ht]) (fun op a b w=>by cases op<;>rfl) rfl rfl
 ·injection hs with hs;subst hs
  simp only[aO]at hx hy;injection hx with hx;subst hx;injection hy with hy;subst hy
  exact fin (fun k w=>by simp[Op.equalIn,run_underlying ht]) (fun op a b w=>by cases op<;>rfl) rfl rfl
 ·injection hs with hs;subst hs
  simp only[aO]at hx hy;injection hx with hx;subst hx;injection hy with hy;subst hy
  exact fin (fun k w=>by simp[Op.equalIn,run_underlying ht]) (fun op a b w=>by cases op<;>rfl) rfl rfl
 ·rename_i e b o b' o';split at hs
  case isFalse=>cases hs
  rename_i hc;simp only[aD3,aEP]at hc;obtain⟨rfl,rfl⟩:=hc;injection hs with hs;subst hs
  rw[hx]at hy;injection hy with hy;subst hy
  obtain⟨g,o0,z,l,_,rfl⟩:=iF hx;obtain⟨inf,ha⟩:=hb e rfl;exact fin (fun k w=>by simp[Op.equalIn,run_underlying ht,sizeOf,typeInfo,ha,run_sameAddr_same]) (fun op a b w=>by cases op<;>rfl) rfl rfl
 ·injection hs with hs;subst hs
  obtain⟨g,o0,z,l,κ,_,rfl,_⟩:=jC hx;simp only[aO]at hy;injection hy with hy;subst hy
  exact fin (fun k w=>by simp[Op.equalIn,run_underlying ht]) (fun op a b w=>by cases op<;>rfl) rfl rfl
 ·injection hs with hs;subst hs
  obtain⟨g,o0,z,l,κ,_,rfl,_⟩:=jC hy;simp only[aO]at hx;injection hx with hx;subst hx
  exact fin (fun k w=>by simp[Op.equalIn,run_underlying ht]) (fun op a b w=>by cases op<;>rfl) rfl rfl
 ·injection hs with hs;subst hs
  rename_i b;unfold aO at hx
  cases hq:ρ.blk b with
  |none=>simp[hq]at hx
  |some q=>
   simp only[hq]at hx;injection hx with hx;subst hx
   simp only[aO]at hy;injection hy with hy;subst hy
   exact fin (fun k w=>by simp[Op.equalIn,run_underlying ht]) (fun op a b w=>by cases op<;>rfl) rfl rfl
 ·injection hs with hs;subst hs
  rename_i b;unfold aO at hy
  cases hq:ρ.blk b with
  |none=>simp[hq]at hy
  |some q=>
   simp only[hq]at hy;injection hy with hy;subst hy
   simp only[aO]at hx;injection hx with hx;subst hx
   exact fin (fun k w=>by simp[Op.equalIn,run_underlying ht]) (fun op a b w=>by cases op<;>rfl) rfl rfl
 ·injection hs with hs;subst hs
  unfold aO at hx;split at hx
  case h_2=>cases hx
  injection hx with hx;subst hx
  simp only[aO]at hy;injection hy with hy;subst hy
  exact fin (fun k w=>by simp[Op.equalIn,run_underlying ht]) (fun op a b w=>by cases op<;>rfl) rfl rfl
 ·injection hs with hs;subst hs
  unfold aO at hy;split at hy
  case h_2=>cases hy
  injection hy with hy;subst hy
  simp only[aO]at hx;injection hx with hx;subst hx
  exact fin (fun k w=>by simp[Op.equalIn,run_underlying ht]) (fun op a b w=>by cases op<;>rfl) rfl rfl
 ·injection hs with hs;subst hs
  unfold aO at hx;split at hx
  case h_2=>cases hx
  injection hx with hx;subst hx
  simp only[aO]at hy;injection hy with hy;subst hy
  exact fin (fun k w=>by simp[Op.equalIn,run_underlying ht]) (fun op a b w=>by cases op<;>rfl) rfl rfl
 ·injection hs with hs;subst hs
  unfold aO at hy;split at hy
  case h_2=>cases hy
  injection hy with hy;subst hy
  simp only[aO]at hx;injection hx with hx;subst hx
  exact fin (fun k w=>by simp[Op.equalIn,run_underlying ht]) (fun op a b w=>by cases op<;>rfl) rfl rfl
 ·cases hs
def anD (T:TypeId->Option cZ):TypeDesc->Bool
 |.pointer e=>(T e).isSome
 |_=>true
def an6 (T:TypeId->Option cZ)(op:BinOp)(t:TypeId)(x y:AV):Option AV:=
 match T t with
 |none=>none
 |some i=>
  if anD T i.desc then
   match op,acB i.desc x y with
   |.eql,some r=>some (.lit (.bool r))
   |.neq,some r=>some (.lit (.bool !r))
   |_,_=>none
  else none
theorem an7 (hT:tA P T)(h:bK ρ m w){op:BinOp}{t:TypeId}{a b:Operand}(hs:an6 T op t x y=some r)(hx:aO ρ x=some X)(hy:aO ρ y=some Y):
  bS P (do eqGuard op t a b X Y;binOp op t X Y) ρ m w r m:=by
 unfold an6 at hs
 split at hs
 ·cases hs
 rename_i i hi
 have hu:=(hT t i hi).und
 split at hs
 case isFalse=>cases hs
 rename_i hp
 have ha:∀e,i.desc=.pointer e->∃inf,P.info? e=some inf:=by
  intro e he;rw[he]at hp;unfold anD at hp;obtain⟨ie,hb⟩:=aFG.1 hp;obtain⟨inf,z,k1,_⟩:=(hT e ie hb).info;exact⟨inf,k1⟩
 split at hs
 ·rename_i r' hr;injection hs with hs;subst hs
  obtain⟨_,h2,h3,_⟩:=N0 hu ha hr hx hy;refine bS.here h (x:= .bool r') ?_ rfl;simp[h2,h3]
 ·rename_i r' hr;injection hs with hs;subst hs
  obtain⟨_,h2,_,h4⟩:=N0 hu ha hr hx hy;refine bS.here h (x:= .bool !r') ?_ rfl;simp[h2,h4]
 ·cases hs
def bytesOf:List AV->Option (List Int)
 |[]=>some []
 |.lit (.int .u8 n)::l=>match bytesOf l with
  |some r=>some (n::r)
  |none=>none
 |_=>none
theorem BS:∀{l:List AV} {ns:List Int},bytesOf l=some ns->aT ρ l=some (ns.map (Value.int .u8))
 |[],ns,h=>by simp[bytesOf]at h;subst h;rfl
 |v::l,ns,h=>by
  unfold bytesOf at h;split at h
  ·rename_i heq;cases heq
  ·rename_i n l' heq;injection heq with e1 e2;subst e1;subst e2
   split at h
   ·rename_i r hr;injection h with h;subst h
    exact aG.2 ⟨_,_,rfl,BS hr,rfl⟩
   ·cases h
  ·cases h
def strOf (ns:List Int):ByteArray:=⟨(ns.map fun n=>UInt8.ofNat n.toNat).toArray⟩
def SC (T:TypeId->Option cZ)(m:M)(s d:TypeId)(x:AV):Option AV:=
 match x,T s,T d with
 |.slc b o n _ _,some is,some id=>match is.desc,id.desc with
  |.slice e,.string=>match T e,m.H.get b with
   |some ie,some (.cells _ cs _)=>match ie.desc,bytesOf ((cs.drop o).take n)with
    |.int .u8,some ns=>if o+n<=cs.length then some (.lit (.string (strOf ns)))else none
    |_,_=>none
   |_,_=>none
  |_,_=>none
 |_,_,_=>none
theorem acC (hT:tA P T)(h:bK ρ m w)(hs:SC T m s d x=some r)(hx:aO ρ x=some X):bS P (convert s d X) ρ m w r m:=by
 unfold SC at hs;split at hs
 case h_2=>cases hs
 rename_i b o n sz c is id ha hid;split at hs
 case h_2=>cases hs
 rename_i e hb hd;split at hs
 case h_2=>cases hs
 rename_i ie e' cs tg hf hh;split at hs
 case h_2=>cases hs
 rename_i ns hi hj;split at hs
 case isFalse=>cases hs
 rename_i hc;injection hs with hs;subst hs
 obtain⟨g,o0,z,l,κ,hq,rfl,_,_⟩:=jC hx;obtain⟨ys,y1,y2,y3,y4,y5⟩:=kH (P:=P) h hh hq o n hc;have hg:=BS (ρ:=ρ) hj;rw[hg]at y1;injection y1 with y1;subst y1
 have u1:=(hT s is ha).und;have u2:=(hT d id hid).und;have u3:=(hT e ie hf).und;rw[hb]at u1;rw[hd]at u2;rw[hi]at u3;refine bS.here h (x:= .string (strOf ns)) ?_ rfl;rw[run_convert_bytes_string w s d e _ n κ u1 u3 u2,run_bytesToString w _ n κ ns y5,foldl_push_bytes];simp[strOf,ByteArray.empty,ByteArray.emptyWithCapacity]
 try rfl
def LK (P:Program)(T:TypeId->Option cZ)(m:M)(s d:TypeId)(x:AV):Option AV:=
 match x,T s,T d with
 |.ptr b o,some is,some id=>match is.desc,id.desc with
  |.pointer t,.unsafePointer=>match T t,m.H.get b with
   |some it,some (.cells _ cs _)=>if decide (it.size≠0)&&decide (o<cs.length)then some x else none
   |_,_=>none
  |.unsafePointer,.pointer u=>match T u,m.H.get b with
   |some _,some (.cells e cs true)=>if liesAt P P.depth e (cs.length/P.cellsOf e) o u 1 then some x else none
   |_,_=>none
  |_,_=>none
 |_,_,_=>none
theorem YE (hT:tA P T)(h:bK ρ m w)(hs:LK P T m s d x=some r)(hx:aO ρ x=some X):bS P (convert s d X) ρ m w r m:=by
 unfold LK at hs;split at hs
 case h_2=>cases hs
 rename_i b o is id hg hid;have u1:=(hT s is hg).und;have u2:=(hT d id hid).und;split at hs
 ·rename_i t ha hb;rw[ha]at u1;rw[hb]at u2;split at hs
  case h_2=>cases hs
  rename_i it e cs tg hit hd;split at hs
  case isFalse=>cases hs
  rename_i hc;simp only[aD3,aEP]at hc;injection hs with hs;subst hs
  obtain⟨g,o0,z,arr,xs,k1,k2,k3,k4,k5,k6,k7,k8⟩:=wB h hd;have hf:=hx;obtain⟨g',oa,z',l',hq,rfl⟩:=iF hx;rw[k1]at hq;injection hq with hq;injection hq with e1 hq;injection hq with e2 hq;injection hq with e3 e4
  subst e1;subst e2;subst e3;obtain⟨inf,zz,i1,i2,_⟩:=(hT t it hit).info;exact bS.here h (Lib.run_to_unsafe w ⟨g,o0+o,none⟩ u1 u2 i1 (by rw[i2];exact hc.1) (e:=e) (cells:=arr.size) (by simp[World.shape?,k2]) (by show o0+o<arr.size;omega)) hf
 ·rename_i u ha hb;rw[ha]at u1;rw[hb]at u2;split at hs
  case h_2=>cases hs
  rename_i iu e cs hh hd;split at hs
  case isFalse=>cases hs
  rename_i hc;injection hs with hs;subst hs
  obtain⟨g,o0,z,arr,xs,k1,k2,k3,k4,k5,k6,k7,k8⟩:=wB h hd;obtain⟨r1,r2⟩:=k8 rfl;have hf:=hx;obtain⟨g',oa,z',l',hq,rfl⟩:=iF hx;rw[k1]at hq;injection hq with hq;injection hq with e1 hq;injection hq with e2 hq;injection hq with e3 e4
  subst e1;subst e2;subst e3;subst r1;obtain⟨inf,zz,i1,i2,_⟩:=(hT u iu hh).info;exact bS.here h (Lib.run_from_unsafe w ⟨g,0+o,none⟩ u1 u2 i1 (e:=e) (cells:=arr.size) (by simp[World.shape?,k2]) (by rw[k3,r2];simpa using hc)) hf
 ·cases hs
def wF (x:AV):Option AV:=
 match x with
 |.slc b o n _ _=>if n=0 then none else some (.ptr b o)
 |.lit (.slice none _ _)=>some (.lit (.pointer none))
 |_=>none
theorem LN (h:bK ρ m w)(hs:wF x=some r)(hx:aO ρ x=some X):bS P (Builtin.unsafeSliceData_ argTypes ty #[X]) ρ m w r m:=by
 unfold wF at hs;split at hs
 ·rename_i b o n sz c;split at hs
  ·cases hs
  rename_i hn;injection hs with hs;subst hs
  obtain⟨g,o0,z,l,κ,hq,rfl,hκ,_⟩:=jC hx;exact bS.here h (Lib.run_unsafeSliceData_row w argTypes ty _ n κ (by omega)) (by unfold aO;rw[hq])
 ·injection hs with hs;subst hs
  simp only[aO]at hx;injection hx with hx;subst hx
  exact bS.here h (Lib.run_unsafeSliceData_nil w argTypes ty _ _) rfl
 ·cases hs
theorem IE {e:TypeId}(hc:P.cellsOf e=1)(count o n:Nat)(hn:o+n<=count):liesAt P P.depth e count o e n=true:=by
 have hd:P.depth=(2*(P.types.size+Made.depth)+1)+1:=rfl;rw[hd];simp only[liesAt,aFQ];left;rw[hd];simp[rowAt,hc,hn,sameLayout,Nat.mod_one]
theorem vF (w:World)(pt it ty e:TypeId)(hp:P.underlying pt=some (.pointer e))(hc:P.cellsOf e=1)(g o cells:Nat)(hh:w.shape? g=some (e,cells))(l:List UInt8)(h0:l≠[])(hn:o+l.length<=cells)(hj:l.length<=9223372036854775807)(ha:∀j x,l[j]?=some x->w.cell? ((⟨g,o,none⟩:Addr).add j)=some (.int .u8 x.toNat)):
  (Builtin.unsafeString_ #[pt,it] ty #[.pointer (some ⟨g,o,none⟩),.int .i64 l.length]).run P w=.ok (.string ⟨l.toArray⟩) (w.freeze ⟨g,o,none⟩ l.length):=by
 have hl:l.length≠0:=by simpa using h0
 have hi:=Lib.run_loadBytes (P:=P) w l ⟨g,o,none⟩ .empty ha
 have hb:=IE (P:=P) hc (cells/P.cellsOf e) o l.length (by rw[hc];simpa using hn)
 have hd:¬(9223372036854775807:Int)<(l.length:Int):=by omega
 change(Bind.bind (asInt (.int .i64 l.length)) _:Sem Value).run P w=_
 have hf:IntKind.i64.max=9223372036854775807:=rfl
 have hg:¬(l.length:Int)<0:=by omega
 simp[asInt,asIntOf,hf,hd,hg,hl,variablesAt,hh,elemOf,run_underlying hp,hb,hi]
def byteCells:List AV->Option (List UInt8)
 |[]=>some []
 |.lit (.int .u8 (.ofNat n))::l=>if n<256 then(match byteCells l with
  |some r=>some (UInt8.ofNat n::r)
  |none=>none)else none
 |_=>none
theorem vP:∀{l:List AV} {bs:List UInt8},byteCells l=some bs->aT ρ l=some (bs.map fun b=>Value.int .u8 b.toNat)
 |[],bs,h=>by simp[byteCells]at h;subst h;rfl
 |v::l,bs,h=>by
  unfold byteCells at h;split at h
  ·rename_i heq;cases heq
  ·rename_i n l' heq;injection heq with e1 e2;subst e1;subst e2
   split at h
   case isFalse=>cases h
   rename_i hn;split at h
   ·rename_i r hr;injection h with h;subst h
    refine aG.2 ⟨_,_,rfl,vP hr,?_⟩;have:(UInt8.ofNat n).toNat=n:=by simp;omega
    rw[aFB,this];rfl
   ·cases h
  ·cases h
theorem LO (w:World)(g o n k:Nat)(hk:k≠g):(w.freeze ⟨g,o,none⟩ n).heap[k]?=w.heap[k]?:=by
 unfold World.freeze;split
 ·rfl
 ·simp only[aGV];rw[aD4 (fun e=>hk e.symm)]
def wG (P:Program)(T:TypeId->Option cZ)(m:M)(argTypes:Array TypeId)(x n:AV):Option (AV×M):=
 match argTypes.toList,x,vO n with
 |[pt,_],.ptr b o,some k=>match T pt,m.H.get b with
  |some ip,some (.cells e cs _)=>match ip.desc,byteCells ((cs.drop o).take k),n with
   |.pointer e',some bs,.lit (.int .i64 _)=>if decide (e'=e)&&decide (P.cellsOf e=1)&&decide (o+k<=cs.length)&&decide (0<k)&&decide (k<=16777216)then some (.lit (.string ⟨bs.toArray⟩),iJ m b none)else none
   |_,_,_=>none
  |_,_=>none
 |[pt,_],.lit (.pointer none),some 0=>match n with
  |.lit (.int .i64 _)=>some (.lit (.string .empty),m)
  |_=>none
 |_,_,_=>none
theorem LP (hT:tA P T)(h:bK ρ m w){n:AV}(hs:wG P T m argTypes x n=some (r,m')){N:Value}(hx:aO ρ x=some X)(hn:aO ρ n=some N):
  bS P (Builtin.unsafeString_ argTypes ty #[X,N]) ρ m w r m':=by
 unfold wG at hs
 split at hs
 ·rename_i pt it b o k hat hk;obtain rfl:argTypes=#[pt,it]:=by rw[<-Array.toList_inj,hat]
  split at hs
  case h_2=>cases hs
  rename_i ip e cs tg hg hf;split at hs
  case h_2=>cases hs
  rename_i e' bs kk hd hh;split at hs
  case isFalse=>cases hs
  rename_i hc;simp only[aD3,aEP]at hc;obtain⟨⟨⟨⟨rfl,c1⟩,c2⟩,c3⟩,c4⟩:=hc;injection hs with hs;injection hs with e1 e2;subst e1;subst e2
  simp only[aO]at hn;injection hn with hn;subst hn
  obtain⟨k1,ha⟩:=jA (ρ:=ρ) hk rfl;injection ha with _ ha
  subst ha;have hu:=(hT pt ip hg).und;rw[hd]at hu;obtain⟨g,o0,z,arr,xs,q1,q2,q3,q4,q5,q6,q7,q8⟩:=wB h hf;obtain⟨g',oa,z',l',hq,rfl⟩:=iF hx;rw[q1]at hq;injection hq with hq;injection hq with e1 hq;injection hq with e2 hq;injection hq with e3 e4
  subst e1;subst e2;subst e3;obtain⟨ys,y1,y2,y3,y4,y5⟩:=kH (P:=P) h hf q1 o k c2;rw[vP hh]at y1;injection y1 with y1;subst y1
  rw[aFV]at y2;have hb:=vF (P:=P) w pt it ty e' hu c1 g (o0+o) arr.size (by simp[World.shape?,q2]) bs (by intro e;rw[e]at y2;simp at y2;omega) (by omega) (by omega) (fun j x hj=>y4 j _ (by rw[aFT,hj];rfl));rw[y2]at hb;refine⟨ρ,_,_,hb,rfl,aX.kill h hf q1 (fun k hk=>LO w g _ _ k hk) ?_ ?_ ?_ ?_⟩
  ·unfold World.freeze;split
   ·rfl
   ·simp
  ·unfold World.freeze;split<;>rfl
  ·unfold World.freeze;split<;>rfl
  ·unfold World.freeze;split<;>rfl
 ·rename_i pt it hat hk;obtain rfl:argTypes=#[pt,it]:=by rw[<-Array.toList_inj,hat]
  split at hs
  case h_2=>cases hs
  rename_i kk;injection hs with hs;injection hs with e1 e2;subst e1;subst e2
  simp only[aO]at hn hx;injection hn with hn;subst hn;injection hx with hx;subst hx
  obtain⟨k1,ha⟩:=jA (ρ:=ρ) hk rfl;injection ha with _ ha
  subst ha;exact bS.here h (Lib.run_unsafeString_none w pt it ty none) rfl
 ·cases hs
def isIface:TypeDesc->Bool
 |.interface _=>true
 |_=>false
def rV (T:TypeId->Option cZ)(t:TypeId)(x:AV):Option AV:=
 match T t with
 |some i=>if isIface i.desc then none else some (.ifc t x)
 |none=>none
theorem LQ (hT:tA P T)(h:bK ρ m w){t:TypeId}(hs:rV T t x=some r)(hx:aO ρ x=some X):bS P (Instr.makeInterface t X) ρ m w r m:=by
 unfold rV at hs;split at hs
 case h_2=>cases hs
 rename_i i hi;split at hs
 ·cases hs
 rename_i hd;injection hs with hs;subst hs
 have hu:=(hT t i hi).und;refine bS.here h (x:= .iface t X) ?_ (by unfold aO;rw[hx]);unfold Instr.makeInterface;simp only[Sem.run_bind,run_underlying hu,Result.andThen_ok]
 cases hdd:i.desc<;>first
  |(rw[hdd]at hd;exact absurd rfl hd)
  |rfl
def C6 (T:TypeId->Option cZ)(x:AV)(asserted:TypeId)(ok:Bool):Option AV:=
 match T asserted,x with
 |some i,.ifc t y=>if isIface i.desc then none else
  if t=asserted then some (if ok then .tup [y,.lit (.bool true)]else y)
  else if ok then some (.tup [.lit i.zv,.lit (.bool false)])else none
 |_,_=>none
theorem YF (hT:tA P T)(h:bK ρ m w){xt asserted:TypeId}{ok:Bool}(hs:C6 T x asserted ok=some r)(hx:aO ρ x=some X):bS P (Instr.typeAssert X xt asserted ok) ρ m w r m:=by
 unfold C6 at hs;split at hs
 case h_2=>cases hs
 rename_i i t y hi;split at hs
 ·cases hs
 rename_i hd;have hu:=(hT asserted i hi).und;unfold aO at hx;split at hx
 case h_2=>cases hx
 rename_i Y hY;injection hx with hx;subst hx
 have hz:(zeroValue asserted).run P w=.ok i.zv w:=by
  have:=(hT asserted i hi).zv
  cases ha:P.info? asserted with
  |none=>simp[ha]at this
  |some inf=>
   simp only[ha,aHA]at this
   simp[zeroValue,typeInfo,ha,this]
 split at hs
 ·rename_i ht;subst ht;injection hs with hs;subst hs
  refine bS.here h (x:=if ok then .tuple #[Y,.bool true]else Y) ?_ ?_
  ·unfold Instr.typeAssert;simp only[Sem.run_bind,run_underlying hu,Result.andThen_ok]
   cases hdd:i.desc<;>first
    |(rw[hdd]at hd;exact absurd rfl hd)
    |(simp)
  ·cases ok
   ·exact hY
   ·show aO ρ (.tup [y,.lit (.bool true)])=_;unfold aO;rw[aG.2 ⟨Y,[.bool true],hY,rfl,rfl⟩];rfl
 ·rename_i ht;split at hs
  case isFalse=>cases hs
  rename_i hb;subst hb;injection hs with hs;subst hs
  refine bS.here h (x:= .tuple #[i.zv,.bool false]) ?_ rfl;unfold Instr.typeAssert;simp only[Sem.run_bind,run_underlying hu,Result.andThen_ok]
  cases hdd:i.desc<;>first
   |(rw[hdd]at hd;exact absurd rfl hd)
   |(simp[ht,hz])
end
section
variable {r v x:AV}{a b k:ByteArray}{es:List (ByteArray×AV)}{X:Value}
variable {P:Program}{T:TypeId->Option cZ}{ρ:Env}{m m':M}{w:World}
theorem U2 (h:bK ρ m w){k:jR}(hm:qQ m k=some m')(o:Obj)(hk:gE (ρ.add m (w.heap.size,0,0,0) none) (w.alloc o) m.nb k):
  aX ρ m w (ρ.add m (w.heap.size,0,0,0) none) m' (w.alloc o):=by
 have:=aX.new h (w.heap.size,0,0,0) none hm (aD1 _) hk (fun g hg=>heap_alloc_old _ _ _ hg) (by simp) rfl rfl rfl
 rw[DY hm]at this
 exact this
theorem run_newObj (w:World)(o:Obj):(newObj o).run P w=.ok w.heap.size (w.alloc o):=rfl
def x7 (m:M)(ra:Option AV):Option (AV×M):=
 match ra with
 |some _=>none
 |none=>match qQ m (.map [])with
  |some m'=>some (.mp m.nb,m')
  |none=>none
theorem SD (h:bK ρ m w){t:TypeId}{rv:Option AV}(hs:x7 m rv=some (r,m')):bS P (Instr.makeMap t none) ρ m w r m':=by
 unfold x7 at hs;split at hs
 ·cases hs
 split at hs
 case h_2=>cases hs
 rename_i m1 hm;injection hs with hs;injection hs with e1 e2;subst e1;subst e2
 refine⟨_,_,.map (some w.heap.size),rfl,?_,U2 h hm (.map #[] 0) ⟨w.heap.size,#[],0,[],Env.add_new _ _ _ _,heap_alloc_new w _,rfl,by simp,by simp⟩⟩;unfold aO;rw[Env.add_new]
def nA (k:ByteArray):List (ByteArray×AV)->Option AV
 |[]=>none
 |e::es=>if e.1.data.toList=k.data.toList then some e.2 else nA k es
theorem jF (h:a.data.toList=b.data.toList):a=b:=by
 apply ByteArray.ext;exact Array.toList_inj.1 h
theorem D3 (k:ByteArray):(k ==k)=true:=by rw[beq_toListBytes];simp
theorem LR (h:¬a=b):(a ==b)=false:=by
 rw[beq_toListBytes];rw[aFS];intro hh;apply h;apply jF;rw[<-ByteArray.toList_eq,<-ByteArray.toList_eq];exact hh
theorem BT (k:ByteArray):∀(L:List MapEntry) (i:Nat),(∀e∈L,∃s,e.key=.string s)->
  (Instr.findNow .string (.string k) L i=some none/\∀e∈L,e.key≠ .string k)∨∃j e,Instr.findNow .string (.string k) L i=some (some (j,e.val))/\e∈L/\e.key=.string k
 |[],i,_=> .inl ⟨rfl,fun e he=>by cases he⟩
 |e::L,i,h=>by
  obtain⟨s,hs⟩:=h e (aEH);by_cases hk:k=s
  ·subst hk;refine .inr ⟨i,e,?_,aEH,hs⟩;simp[Instr.findNow,hs,Instr.sameNow,D3]
  ·have hb:(k ==s)=false:=LR hk;rcases BT k L (i+1) (fun e he=>h e (aEM _ he))with⟨h1,h2⟩|⟨j,e',h1,h2,h3⟩
   ·refine .inl ⟨by simp[Instr.findNow,hs,Instr.sameNow,hb,h1],fun e' ha=>?_⟩;rcases aER.1 ha with rfl|ha
    ·rw[hs];intro e;injection e with e;exact hk e.symm
    ·exact h2 e' ha
   ·exact .inr ⟨j,e',by simp[Instr.findNow,hs,Instr.sameNow,hb,h1],aEM _ h2,h3⟩
theorem aiS:∀{vs:List Value},aT ρ (es.map (·.2))=some vs->∀p∈((es.map fun e=>Value.string e.1).zip vs),∃e∈es,p.1=.string e.1/\aO ρ e.2=some p.2:=by
 induction es with
 |nil=>intro vs h p hp;simp at hp
 |cons e es ih=>
  intro vs h p hp
  obtain⟨v,q,h1,h2,rfl⟩:=aG.1 h
  rw[aFB,List.zip_cons_cons]at hp
  rcases aER.1 hp with rfl|hp
  ·exact⟨e,aEH,rfl,h1⟩
  ·obtain⟨e',a,b,c⟩:=ih h2 p hp;exact⟨e',aEM _ a,b,c⟩
theorem I6 (h:nA k es=some v):∃e∈es,e.1=k/\e.2=v:=by
 induction es with
 |nil=>cases h
 |cons e es ih=>
  unfold nA at h
  split at h
  ·rename_i he;injection h with h
   exact⟨e,aEH,jF he,h⟩
  ·obtain⟨e',a,b⟩:=ih h;exact⟨e',aEM _ a,b⟩
theorem wH (h:nA k es=none):∀e∈es,e.1≠k:=by
 induction es with
 |nil=>intro e he;cases he
 |cons e es ih=>
  unfold nA at h
  split at h
  ·cases h
  ·rename_i he;intro e' ha;rcases aER.1 ha with rfl|ha
   ·intro hh;exact he (by rw[hh])
   ·exact ih h e' ha
theorem YG (h:(es.map fun e=>Value.string e.1).Pairwise (·≠·)):∀e∈es,∀e'∈es,e.1=e'.1->e=e':=by
 induction es with
 |nil=>intro e he;cases he
 |cons x es ih=>
  rw[aFB,List.pairwise_cons]at h
  intro e he e' hb hk
  rcases aER.1 he with rfl|hc
  ·rcases aER.1 hb with rfl|ha
   ·rfl
   ·exact absurd (by rw[hk]) (h.1 (.string e'.1) (aEZ.2 ⟨e',ha,rfl⟩))
  ·rcases aER.1 hb with rfl|ha
   ·exact absurd (by rw[hk]) (h.1 (.string e.1) (aEZ.2 ⟨e,hc,rfl⟩))
   ·exact ih h.2 e hc e' ha hk
theorem acD {b:Nat}(h:aO ρ (.mp b)=some X):∃g o z l,ρ.blk b=some (g,o,z,l)/\X=.map (some g):=by
 unfold aO at h
 cases hq:ρ.blk b with
 |none=>simp[hq]at h
 |some q=>obtain⟨g,o,z,l⟩:=q;simp only[hq]at h;injection h with h;exact⟨g,o,z,l,rfl,h.symm⟩
theorem N1 (h:bK ρ m w){b:Nat}(hg:m.H.get b=some (.map es))(k:ByteArray):
  ∃g entries clock vs,ρ.blk b=some (g,0,0,0)/\w.heap[g]?=some (.map entries clock)/\aT ρ (es.map (·.2))=some vs/\(entries.toList.map (fun e=>(e.key,e.val))).Perm ((es.map fun e=>Value.string e.1).zip vs)/\(es.map fun e=>Value.string e.1).Pairwise (·≠·)/\
   ((nA k es=none/\Instr.findNow .string (.string k) entries.toList 0=some none)∨∃v j x,nA k es=some v/\Instr.findNow .string (.string k) entries.toList 0=some (some (j,x))/\aO ρ v=some x):=by
 obtain⟨g,entries,clock,vs,h1,h2,h3,h4,h5⟩:=h.live b _ hg
 refine⟨g,entries,clock,vs,h1,h2,h3,h4,h5,?_⟩
 have hb:∀e∈entries.toList,∃a∈es,e.key=.string a.1/\aO ρ a.2=some e.val:=by
  intro e he;have hp:(e.key,e.val)∈((es.map fun e=>Value.string e.1).zip vs):=h4.mem_iff.1 (aEZ.2 ⟨e,he,rfl⟩);obtain⟨a,ha,k1,k2⟩:=aiS h3 _ hp;exact⟨a,ha,k1,k2⟩
 have hc:∀a∈es,∃e∈entries.toList,e.key=.string a.1:=by
  intro a ha;obtain⟨i,hi,rfl⟩:=aGZ.1 ha;have hl:=bN h3;rw[aFV]at hl
  have hp:(Value.string es[i].1,vs[i])∈((es.map fun e=>Value.string e.1).zip vs):=by
   rw[aGZ];exact⟨i,by simp;omega,by simp⟩
  obtain⟨e,he,hh⟩:=aEZ.1 (h4.mem_iff.2 hp);injection hh with e1 e2
  exact⟨e,he,e1⟩
 rcases BT k entries.toList 0 (fun e he=>by obtain⟨a,_,ha,_⟩:=hb e he;exact⟨_,ha⟩)with⟨f1,f2⟩|⟨j,e,f1,f2,f3⟩
 ·refine .inl ⟨?_,f1⟩
  cases hf:nA k es with
  |none=>rfl
  |some v=>
   exfalso
   obtain⟨a,ha,rfl,_⟩:=I6 hf
   obtain⟨e,he,hk⟩:=hc a ha
   exact f2 e he hk
 ·obtain⟨a,ha,k1,k2⟩:=hb e f2;have hd:a.1=k:=by rw[f3]at k1;injection k1 with k1;exact k1.symm
  cases hf:nA k es with
  |none=>exact absurd hd (wH hf a ha)
  |some v=>
   obtain⟨a',hj,hn,hv⟩:=I6 hf
   have:=YG h5 a ha a' hj (by rw[hd,hn])
   subst this
   subst hv
   exact .inr ⟨_,j,e.val,rfl,f1,k2⟩
def C7 (T:TypeId->Option cZ)(m:M)(t:TypeId)(x i:AV)(ok:Bool):Option AV:=
 match T t,x,i with
 |some it,.mp b,.lit (.string k)=>match it.desc,m.H.get b with
  |.map key e,some (.map es)=>match T key,T e with
   |some ik,some ie=>match ik.desc with
    |.string=>match nA k es with
     |some v=>some (if ok then .tup [v,.lit (.bool true)]else v)
     |none=>some (if ok then .tup [.lit ie.zv,.lit (.bool false)]else .lit ie.zv)
    |_=>none
   |_,_=>none
  |_,_=>none
 |_,_,_=>none
theorem YH (hT:tA P T)(h:bK ρ m w){t:TypeId}{i:AV}{ok:Bool}(hs:C7 T m t x i ok=some r){I:Value}(hx:aO ρ x=some X)(hi:aO ρ i=some I):bS P (Instr.lookup t X I ok) ρ m w r m:=by
 unfold C7 at hs;split at hs
 case h_2=>cases hs
 rename_i it b k hit;split at hs
 case h_2=>cases hs
 rename_i key e es hd hj;split at hs
 case h_2=>cases hs
 rename_i ik ie hk hl;split at hs
 case h_2=>cases hs
 rename_i hn;have hu:=(hT t it hit).und;rw[hd]at hu;have hb:=(hT key ik hk).und;rw[hn]at hb;simp only[aO]at hi;injection hi with hi;subst hi
 obtain⟨g,entries,clock,vs,h1,h2,h3,h4,h5,hf⟩:=N1 h hj k;obtain⟨g',o',z',l',hq,rfl⟩:=acD hx;rw[h1]at hq;injection hq with hq;injection hq with e1 hq
 subst e1;have hg:(getObj g).run P w=.ok (.map entries clock) w:=by simp[getObj,Sem.run,h2]
 have hh:(Instr.checkKey entries.isEmpty 10000 key (.string k)).run P w=.ok () w:=MapKept.run_checkKey hb (k:= .string k) (show MapKept.IsKey .string (.string k)from trivial) _ 9999
 have hz:(zeroValue e).run P w=.ok ie.zv w:=by
  have:=(hT e ie hl).zv
  cases ha:P.info? e with
  |none=>simp[ha]at this
  |some inf=>
   simp only[ha,aHA]at this
   simp[zeroValue,typeInfo,ha,this]
 rcases hf with⟨f1,f2⟩|⟨v,j,y,f1,f2,f3⟩
 ·rw[f1]at hs;injection hs with hs;subst hs
  have hc:=MapKept.run_findKey (P:=P) (w:=w) hb f2;refine bS.here h (x:=if ok then .tuple #[ie.zv,.bool false]else ie.zv) ?_ (by cases ok<;>rfl);unfold Instr.lookup;simp only[Sem.run_bind,run_underlying hu,Result.andThen_ok,hg,hh,Sem.run_pure,hc,hz]
 ·rw[f1]at hs;injection hs with hs;subst hs
  have hc:=MapKept.run_findKey (P:=P) (w:=w) hb f2;refine bS.here h (x:=if ok then .tuple #[y,.bool true]else y) ?_ ?_
  ·unfold Instr.lookup;simp only[Sem.run_bind,run_underlying hu,Result.andThen_ok,hg,hh,Sem.run_pure,hc]
  ·cases ok
   ·exact f3
   ·show aO ρ (.tup [v,.lit (.bool true)])=_;unfold aO;rw[aG.2 ⟨y,[.bool true],f3,rfl,rfl⟩];rfl
def rY (T:TypeId->Option cZ)(m:M)(t:TypeId)(x k v:AV):Option M:=
 match T t,x,k with
 |some it,.mp b,.lit (.string k)=>match it.desc,m.H.get b with
  |.map key _,some (.map es)=>match T key with
   |some ik=>match ik.desc,nA k es with
    |.string,none=>some (iJ m b (some (.map (es++[(k,v)]))))
    |_,_=>none
   |_=>none
  |_,_=>none
 |_,_,_=>none
theorem I7 (hT:tA P T)(h:bK ρ m w){t:TypeId}{k:AV}(hs:rY T m t x k v=some m'){K V:Value}(hx:aO ρ x=some X)(hk:aO ρ k=some K)(hv:aO ρ v=some V):ab0 P (Instr.mapUpdate t X K V) ρ m w m':=by
 unfold rY at hs;split at hs
 case h_2=>cases hs
 rename_i it b k hit;split at hs
 case h_2=>cases hs
 rename_i key e es hd hn;split at hs
 case h_2=>cases hs
 rename_i ik ho;split at hs
 case h_2=>cases hs
 rename_i hp hi;injection hs with hs;subst hs
 have hu:=(hT t it hit).und;rw[hd]at hu;have hj:=(hT key ik ho).und;rw[hp]at hj;simp only[aO]at hk;injection hk with hk;subst hk
 obtain⟨g,entries,clock,vs,h1,h2,h3,h4,h5,hf⟩:=N1 h hn k;obtain⟨g',o',z',l',hq,rfl⟩:=acD hx;rw[h1]at hq;injection hq with hq;injection hq with e1 hq
 subst e1;have hg:(getObj g).run P w=.ok (.map entries clock) w:=by simp[getObj,Sem.run,h2]
 have hr:(Instr.checkKey false 10000 key (.string k)).run P w=.ok () w:=MapKept.run_checkKey hj (k:= .string k) (show MapKept.IsKey .string (.string k)from trivial) _ 9999;rcases hf with⟨f1,f2⟩|⟨v',j,y,f1,f2,f3⟩
 ·have ht:=MapKept.run_findKey (P:=P) (w:=w) hj f2;have hz:=MapKept.run_setObj_map (P:=P) (.map (entries.push {key:= .string k,val:=V,born:=clock}) (clock+1)) h2;have hA:g<w.heap.size:=(aD5.1 h2).1;refine⟨ρ,_,?_,aX.put h hn h1 (fun arr t ha=>by have hc:w.heap[g]?=_:=ha;rw[h2]at hc;injection hc with hc;cases hc) (w':={w with heap:=w.heap.setIfInBounds g (.map (entries.push {key:= .string k,val:=V,born:=clock}) (clock+1))}) ?_ ?_ (by simp) rfl rfl rfl⟩
  ·unfold Instr.mapUpdate;simp only[Sem.run_bind,run_underlying hu,Result.andThen_ok,hg,hr,ht];exact hz
  ·have hB:aT ρ ((es++[(k,v)]).map (·.2))=some (vs++[V]):=by
    rw[aGU];exact eC h3 (aG.2 ⟨V,[],hv,rfl,rfl⟩)
   have hl:=bN h3;rw[aFV]at hl;refine⟨g,entries.push {key:= .string k,val:=V,born:=clock},clock+1,vs++[V],h1,by simp[hA],hB,?_,?_⟩
   ·rw[Array.toList_push,aGU,aGU,List.zip_append (by simp[hl])];exact h4.append (List.Perm.refl _)
   ·rw[aGU,List.pairwise_append];refine⟨h5,by simp,?_⟩;intro a ha b hb;simp only[aFB,aGS,aGT]at hb;subst hb;obtain⟨e',hC,rfl⟩:=aEZ.1 ha;intro hh;injection hh with hh
    exact wH hi e' hC hh
  ·intro g' hD;simp only[aGA];rw[aD4 (fun e=>hD e.symm)]
 ·rw[f1]at hi;cases hi
def LS (T:TypeId->Option cZ)(m:M)(t:TypeId)(x:AV):Option (AV×M):=
 match T t,x with
 |some it,.lit (.string s)=>match it.desc,qQ m (.iter s 0)with
  |.string,some m'=>some (.ptr m.nb 0,m')
  |_,_=>none
 |_,_=>none
theorem acE (hT:tA P T)(h:bK ρ m w){t:TypeId}(hs:LS T m t x=some (r,m'))(hx:aO ρ x=some X):bS P (Instr.range t X) ρ m w r m':=by
 unfold LS at hs;split at hs
 case h_2=>cases hs
 rename_i it s hit;split at hs
 case h_2=>cases hs
 rename_i m1 hd hm;injection hs with hs;injection hs with e1 e2;subst e1;subst e2
 have hu:=(hT t it hit).und;rw[hd]at hu;simp only[aO]at hx;injection hx with hx;subst hx
 refine⟨_,_,.pointer (some ⟨w.heap.size,0,none⟩),?_,?_,U2 h hm (.stringIter s 0) ⟨w.heap.size,Env.add_new _ _ _ _,heap_alloc_new w _⟩⟩
 ·unfold Instr.range;simp only[Sem.run_bind,run_underlying hu,Result.andThen_ok,Sem.run_pure,run_newObj]
 ·exact U0 ρ m _ _ _
def U3 (m:M)(x:AV)(isString:Bool):Option (AV×M):=
 match x,isString with
 |.ptr b 0,true=>match m.H.get b with
  |some (.iter s pos)=>
   if pos<s.size then some (.tup [.lit (.bool true),.lit (goInt pos),.lit (.int .i32 (Utf8.decode s pos).1)],iJ m b (some (.iter s (pos+(Utf8.decode s pos).2))))
   else some (.tup [.lit (.bool false)],m)
  |_=>none
 |_,_=>none
theorem aiT (h:bK ρ m w){t:TypeId}{isString:Bool}(hs:U3 m x isString=some (r,m'))(hx:aO ρ x=some X):bS P (Instr.next X isString t) ρ m w r m':=by
 unfold U3 at hs;split at hs
 case h_2=>cases hs
 rename_i b;split at hs
 case h_2=>cases hs
 rename_i s pos hb;obtain⟨g,h1,h2⟩:=h.live b _ hb;obtain⟨g',o',z',l',hq,rfl⟩:=iF hx;rw[h1]at hq;injection hq with hq;injection hq with e1 hq;injection hq with e2 hq
 subst e1;subst e2;have hg:(getObj g).run P w=.ok (.stringIter s pos) w:=by simp[getObj,Sem.run,h2]
 have hd:g<w.heap.size:=(aD5.1 h2).1;split at hs
 ·rename_i hp;injection hs with hs;injection hs with e1 e2;subst e1;subst e2
  refine⟨ρ,_,.tuple #[.bool true,goInt pos,.int .i32 (Utf8.decode s pos).1],?_,rfl,aX.put h hb h1 (fun arr t ha=>by have hc:w.heap[g]?=_:=ha;rw[h2]at hc;injection hc with hc;cases hc) (w':={w with heap:=w.heap.setIfInBounds g (.stringIter s (pos+(Utf8.decode s pos).2))}) ⟨g,h1,by simp[hd]⟩ ?_ (by simp) rfl rfl rfl⟩
  ·have hf:(setObj g (.stringIter s (pos+(Utf8.decode s pos).2))).run P w=.ok () {w with heap:=w.heap.setIfInBounds g (.stringIter s (pos+(Utf8.decode s pos).2))}:=by simp[setObj,Sem.run,h2]
   unfold Instr.next;simp only[aE2,Sem.run_bind,hg,Result.andThen_ok];rw[aD6 hp];simp only[Sem.run_bind,hf,Result.andThen_ok,Sem.run_pure]
  ·intro g' hh;simp only[aGA];rw[aD4 (fun e=>hh e.symm)]
 ·rename_i hp;injection hs with hs;injection hs with e1 e2;subst e1;subst e2
  refine bS.here h (x:= .tuple #[.bool false]) ?_ rfl;unfold Instr.next;simp only[aE2,Sem.run_bind,hg,Result.andThen_ok];rw[aD4 hp];rfl
end
section
variable {v:AV}{args:List AV}{xs:Array Value}
structure Tb where
 bin:BinOp->AV->AV->Option AV
 un:UnOp->AV->Option AV
 mx:List AV->Option AV
 ln:Nat->Option AV
 el:Nat->Nat->Option AV:=fun _ _=>none
 mn:List AV->Option AV:=fun _=>none
def Has (B:aE)(ρ:Env):Prop:=∀i x,B.A i=some x->ρ.atom i=some x
structure kY (P:Program) (B:aE) (T:Tb):Prop where
 bin:∀op a b r,T.bin op a b=some r->∀ρ:Env,Has B ρ->∀x y,aO ρ a=some x->aO ρ b=some y->∃v,aO ρ r=some v/\∀t ox oy w,(do eqGuard op t ox oy x y;binOp op t x y).run P w=.ok v w
 un:∀op a r,T.un op a=some r->∀ρ:Env,Has B ρ->∀x,aO ρ a=some x->∃v,aO ρ r=some v/\∀w,(Op.unary op x).run P w=.ok v w
 mx:∀l r,T.mx l=some r->∀ρ:Env,Has B ρ->∀xs,aT ρ l=some xs->∃v,aO ρ r=some v/\∀ts ty w,(Builtin.max_ ts ty xs.toArray).run P w=.ok v w
 ln:∀k r,T.ln k=some r->∃xs:Array Value,B.A (gid k)=some (.agg xs)/\∀ρ:Env,Has B ρ->aO ρ r=some (.int .i64 xs.size)
 el:∀k j r,T.el k j=some r->∃(xs:Array Value) (v:Value),B.A (gid k)=some (.agg xs)/\xs.toList[j]?=some v/\∀ρ:Env,Has B ρ->aO ρ r=some v:=by intro _ _ _ h;cases h
 mn:∀l r,T.mn l=some r->∀ρ:Env,Has B ρ->∀xs,aT ρ l=some xs->∃v,aO ρ r=some v/\∀ts ty w,(Builtin.min_ ts ty xs.toArray).run P w=.ok v w:=by intro _ _ h;cases h
structure Cx where
 T:TypeId->Option cZ
 F:FuncId->Option Func
 Mth:TypeId->String->Option FuncId
 ext:FuncId->List AV->M->Option (AV×M)
 B:aE
 tb:Tb
def D4 (d:TypeDesc)(p:Bool):Bool:=
 match d,p with
 |.pointer _,true=>true
 |.pointer _,false=>false
 |_,false=>true
 |_,true=>false
structure kV (P:Program) (C:Cx):Prop where
 hT:tA P C.T
 hF:∀f fn,C.F f=some fn->P.funcs[f]?=some fn/\(fn.name == "runtime.NumGoroutine")=false
 hM:∀t name g,C.Mth t name=some g->∃inf mth p d,P.info? t=some inf/\inf.methods.find? (·.name ==name)=some mth/\mth.path=#[]/\mth.func=some (g,p)/\P.underlying t=some d/\D4 d p=true
 hE:∀f args m r m',C.ext f args m=some (r,m')->∀ρ w xs,bK ρ m w->aT ρ args=some xs->∃ρ' w' x,(callFunc f xs.toArray).run P w=.ok (.value x) w'/\aO ρ' r=some x/\aX ρ m w ρ' m' w'
 hQ:kY P C.B C.tb
variable {P:Program}{C:Cx}{ρ:Env}{m m':M}{w:World}
inductive fY where
 |val (v:AV) (m:M)
 |skip (m:M)
 |enter (f:FuncId) (args:List AV)
def N2 (ρ:Env)(ev:Operand->AV)(a:Act):Prop:=∀x,aO ρ (ev x)=some (a.eval x)
theorem zX {ev:Operand->AV}{a:Act}(h:N2 ρ ev a):∀l:List Operand,aT ρ (l.map ev)=some (l.map a.eval)
 |[]=>rfl
 |x::l=>aG.2 ⟨_,_,h x,zX h l,rfl⟩
def acF:AV->Option (Fn×List AV×List AV)
 |.fn f a b=>some (f,a,b)
 |.lit (.func f a b)=>some (f,a.toList.map .lit,b.toList.map .lit)
 |_=>none
theorem x8 {f:Fn}{a b:List AV}(h:acF v=some (f,a,b)){x:Value}(hx:aO ρ v=some x):∃xs ys,x=.func f xs ys/\aT ρ a=some xs.toList/\aT ρ b=some ys.toList:=by
 unfold acF at h;split at h
 ·injection h with h;injection h with e1 h;injection h with e2 e3;subst e1;subst e2;subst e3
  unfold aO at hx;split at hx
  ·rename_i p q hp hq;injection hx with hx
   exact⟨p.toArray,q.toArray,hx.symm,by simpa using hp,by simpa using hq⟩
  ·cases hx
 ·injection h with h;injection h with e1 h;injection h with e2 e3;subst e1;subst e2;subst e3
  simp only[aO]at hx;injection hx with hx
  exact⟨_,_,hx.symm,dA _,dA _⟩
 ·cases h
def goA (C:Cx)(m:M)(g:FuncId)(args:List AV):Option fY:=
 match C.F g with
 |none=>none
 |some fn=>if fn.body.isSome then some (.enter g args)else
  match C.ext g args m with
  |some (r,m')=>some (.val r m')
  |none=>none
def I8 (C:Cx)(m:M)(f:AV)(args:List AV):Option fY:=
 match acF f with
 |some (.func g,a,b)=>goA C m g (a++args++b)
 |some (.via t path g p,a,_)=>match path.toList,a++args,C.T t with
  |[],x::rest,some i=>if D4 i.desc p then goA C m g (x::rest)else none
  |_,_,_=>none
 |some (.method name,a,_)=>match a++args with
  |.ifc t x::rest=>match C.Mth t name with
   |some g=>goA C m g (x::rest)
   |none=>none
  |_=>none
 |_=>none
def lQ (P:Program)(s:Sem Next)(ρ:Env)(m:M)(w:World):fY->Prop
 |.val v m'=>∃ρ' w' x,s.run P w=.ok (.value x) w'/\aO ρ' v=some x/\aX ρ m w ρ' m' w'
 |.skip m'=>∃ρ' w',s.run P w=.ok .skip w'/\aX ρ m w ρ' m' w'
 |.enter f args=>∃xs:Array Value,s.run P w=.ok (.enter f xs) w/\aT ρ args=some xs.toList
theorem lQ.of_val {s:Sem Value}(h:bS P s ρ m w v m'):lQ P (do pure (.value (<-s))) ρ m w (.val v m'):=by
 obtain⟨ρ',w',x,h1,h2,h3⟩:=h;exact⟨ρ',w',x,by simp[h1],h2,h3⟩
theorem lQ.of_unit {s:Sem Unit}(h:ab0 P s ρ m w m'):lQ P (do s;pure .skip) ρ m w (.skip m'):=by
 obtain⟨ρ',w',h1,h2⟩:=h;exact⟨ρ',w',by simp[h1],h2⟩
theorem acG (hC:kV P C)(h:bK ρ m w){g:FuncId}{n:fY}(hs:goA C m g args=some n)(hx:aT ρ args=some xs.toList):lQ P (callFunc g xs) ρ m w n:=by
 unfold goA at hs;split at hs
 ·cases hs
 rename_i fn ha;obtain⟨h1,h2⟩:=hC.hF g fn ha;split at hs
 ·rename_i hb;injection hs with hs;subst hs
  refine⟨xs,?_,hx⟩;have hc:fn.body.isNone=false:=by cases hh:fn.body<;>simp_all
  unfold callFunc;simp only[Sem.run_bind,program,Sem.run,Result.andThen_ok];rw[h1];simp only[h2,hc];rfl
 ·split at hs
  case h_2=>cases hs
  rename_i r m1 he;injection hs with hs;subst hs
  obtain⟨ρ',w',x,e1,e2,e3⟩:=hC.hE g args m r m1 he ρ w _ h hx;exact⟨ρ',w',x,by simpa using e1,e2,e3⟩
theorem N3 {d:TypeDesc}{p:Bool}{t:TypeId}(hu:P.underlying t=some d)(hr:D4 d p=true)(X:Value)(nm:Option String)(w:World):(receiverAt t (.val X) p nm).run P w=.ok X w:=by
 unfold receiverAt;simp only[Sem.run_bind,run_underlying hu,Result.andThen_ok]
 cases p
 ·cases d<;>first
   |(simp[D4]at hr;done)
   |rfl
 ·cases d<;>first
   |(simp[D4]at hr;done)
   |rfl
theorem U4 (hC:kV P C)(h:bK ρ m w){f:AV}{n:fY}(hs:I8 C m f args=some n){X:Value}(hf:aO ρ f=some X)(hx:aT ρ args=some xs.toList):
  lQ P (do let d <-Deferred.ofValue X xs;invoke d.target d.args) ρ m w n:=by
 unfold I8 at hs
 split at hs
 ·rename_i g a b hg;obtain⟨A,B,rfl,hA,hB⟩:=x8 hg hf;have:=acG (P:=P) hC h hs (xs:=A++xs++B) (by rw[aGN,aGN];exact eC (eC hA hx) hB);simpa [Deferred.ofValue,invoke]using this
 ·rename_i t path g p a b hg;obtain⟨A,B,rfl,hA,hB⟩:=x8 hg hf;split at hs
  case h_2=>cases hs
  rename_i x rest i hh ha hi;split at hs
  case isFalse=>cases hs
  rename_i hr;have hb:=eC hA hx;rw[ha]at hb;obtain⟨y,ys,hy,hl,he⟩:=aG.1 hb;have hc:A++xs=(y::ys).toArray:=by rw[<-Array.toList_inj,aGN,he]
  have hj:=acG (P:=P) hC h hs (xs:=(y::ys).toArray) (by simpa using aG.2 ⟨y,ys,hy,hl,rfl⟩);have hu:=(hC.hT t i hi).und;have hp:path=#[]:=by rw[<-Array.toList_inj,hh]
  subst hp
  have hn:(receiverVia t y #[] p).run P w=.ok y w:=by
   unfold receiverVia;simp[follow,N3 hu hr]
  have hd:(do let d <-Deferred.ofValue (.func (.via t #[] g p) A B) xs;invoke d.target d.args).run P w=(callFunc g (y::ys).toArray).run P w:=by
   simp only[Deferred.ofValue,Sem.run_bind,Sem.run_pure,Result.andThen_ok,invoke];rw[hc];simp[hn]
  cases n<;>simp only[lQ]at hj⊢<;>rw[hd]<;>exact hj
 ·rename_i name a b hg;obtain⟨A,B,rfl,hA,hB⟩:=x8 hg hf;split at hs
  case h_2=>cases hs
  rename_i t x rest ha;split at hs
  case h_2=>cases hs
  rename_i g hm;obtain⟨inf,mth,p,d,m1,m2,m3,m4,m5,m6⟩:=hC.hM t name g hm;have hb:=eC hA hx;rw[ha]at hb;obtain⟨y,ys,hy,hl,he⟩:=aG.1 hb;have hc:A++xs=(y::ys).toArray:=by rw[<-Array.toList_inj,aGN,he]
  unfold aO at hy;split at hy
  case h_2=>cases hy
  rename_i v hv;injection hy with hy;subst hy
  have hj:=acG (P:=P) hC h hs (xs:=(v::ys).toArray) (by simpa using aG.2 ⟨v,ys,hv,hl,rfl⟩)
  have hk:(method (P.types.size+Made.depth) t v name).run P w=.ok (g,v) w:=by
   show(method ((P.types.size+99)+1) t v name).run P w=_;unfold method;have ho:(typeInfo t).run P w=.ok inf w:=by simp[typeInfo,m1]
   simp only[Sem.run_bind,ho,Result.andThen_ok,m2];simp[m3,follow,m4,N3 m5 m6]
  have hd:(do let d <-Deferred.ofValue (.func (.method name) A B) xs;invoke d.target d.args).run P w=(callFunc g (v::ys).toArray).run P w:=by
   simp only[Deferred.ofValue,Sem.run_bind,Sem.run_pure,Result.andThen_ok,invoke];rw[hc];simp[callMethod,program,Sem.run,hk]
  cases n<;>simp only[lQ]at hj⊢<;>rw[hd]<;>exact hj
 ·cases hs
end
section
variable {op:BinOp}{ox oy:Operand}{x y r:AV}{X Y:Value}{argTypes:Array TypeId}{ty:TypeId}{args:List AV}{xs:Array Value}{n k:Nat}{lo hi mx:Option AV}{L H K:Option Value}
variable {P:Program}{C:Cx}{ρ:Env}{m m':M}{w:World}
def SE (op:BinOp)(a b:ByteArray):Option Value:=
 match op with
 |.eql=>some (.bool (decide (a.data.toList=b.data.toList)))
 |.neq=>some (.bool !(decide (a.data.toList=b.data.toList)))
 |.add=>if a.size+b.size<=16777216 then some (.string ⟨(a.data.toList++b.data.toList).toArray⟩)else none
 |_=>none
theorem wI (a b:ByteArray):(a.toList ==b.toList)=decide (a.data.toList=b.data.toList):=by
 rw[ByteArray.toList_eq,ByteArray.toList_eq];by_cases h:a.data.toList=b.data.toList
 ·simp[h]
 ·rw[aEC h,aFS];exact h
theorem SG {a b:ByteArray}{v:Value}(h:SE op a b=some v)(t:TypeId)(x y:Operand)(w:World):(do eqGuard op t x y (.string a) (.string b);binOp op t (.string a) (.string b)).run P w=.ok v w:=by
 unfold SE at h;split at h
 ·injection h with h;subst h
  have:eqGuard .eql t x y (.string a) (.string b)=pure ():=rfl;rw[this,binOp_string_eql,wI];rfl
 ·injection h with h;subst h
  have:eqGuard .neq t x y (.string a) (.string b)=pure ():=rfl;rw[this,binOp_string_neq,wI];rfl
 ·split at h
  case isFalse=>cases h
  rename_i ha;injection h with h;subst h
  have:eqGuard .add t x y (.string a) (.string b)=pure ():=rfl
  have hb:binOp .add t (.string a) (.string b)=pure (.string (a++b)):=by
   have:¬(9223372036854775807<(a.size:Int)+b.size):=by omega
   simp[binOp,Op.stringOp,this]
  rw[this,hb]
  have:a++b=⟨(a.data.toList++b.data.toList).toArray⟩:=by
   apply jF;simp
  rw[this];rfl
 ·cases h
def orE (a b:Option AV):Option AV:=
 match a with
 |some v=>some v
 |none=>b
theorem an8 (hC:kV P C)(hA:Has C.B ρ)(h:bK ρ m w){t:TypeId}(hs:C.tb.bin op x y=some r)(hx:aO ρ x=some X)(hy:aO ρ y=some Y):
  bS P (do eqGuard op t ox oy X Y;binOp op t X Y) ρ m w r m:=by
 obtain⟨v,h1,h2⟩:=hC.hQ.bin op x y r hs ρ hA X Y hx hy
 exact bS.here h (h2 t ox oy w) h1
def unA (P:Program)(C:Cx)(op:UnOp)(x:AV):Option AV:=
 match fX x with
 |some a=>(cC P (Op.unary op a)).map .lit
 |none=>C.tb.un op x
theorem auH (hC:kV P C)(hA:Has C.B ρ)(h:bK ρ m w){op:UnOp}(hs:unA P C op x=some r)(hx:aO ρ x=some X):bS P (Op.unary op X) ρ m w r m:=by
 unfold unA at hs;split at hs
 ·rename_i a ha;rw[aE9]at hs;obtain⟨v,hv,rfl⟩:=hs;have e1:=iZ ρ x ha;rw[hx]at e1;injection e1 with e1;subst e1
  exact nH h hv
 ·obtain⟨v,h1,h2⟩:=hC.hQ.un op x r hs ρ hA X hx;exact bS.here h (h2 w) h1
def an9 (P:Program)(C:Cx)(argTypes:Array TypeId)(ty:TypeId)(args:List AV):Option AV:=
 match kF args with
 |some vs=>(cC P (Builtin.max_ argTypes ty vs.toArray)).map .lit
 |none=>C.tb.mx args
theorem aoA (hC:kV P C)(hA:Has C.B ρ)(h:bK ρ m w)(hs:an9 P C argTypes ty args=some r)(hx:aT ρ args=some xs.toList):
  bS P (Builtin.max_ argTypes ty xs) ρ m w r m:=by
 unfold an9 at hs
 split at hs
 ·rename_i vs ha;rw[aE9]at hs;obtain⟨v,hv,rfl⟩:=hs;have e1:=kG ρ args ha;rw[hx]at e1;injection e1 with e1;subst e1
  rw[aFP]at hv;exact nH h hv
 ·obtain⟨v,h1,h2⟩:=hC.hQ.mx args r hs ρ hA xs.toList hx;have:=h2 argTypes ty w;rw[aFP]at this;exact bS.here h this h1
def aoB (P:Program)(C:Cx)(argTypes:Array TypeId)(ty:TypeId)(args:List AV):Option AV:=
 match kF args with
 |some vs=>(cC P (Builtin.min_ argTypes ty vs.toArray)).map .lit
 |none=>C.tb.mn args
theorem aoC (hC:kV P C)(hA:Has C.B ρ)(h:bK ρ m w)(hs:aoB P C argTypes ty args=some r)(hx:aT ρ args=some xs.toList):
  bS P (Builtin.min_ argTypes ty xs) ρ m w r m:=by
 unfold aoB at hs
 split at hs
 ·rename_i vs ha;rw[aE9]at hs;obtain⟨v,hv,rfl⟩:=hs;have e1:=kG ρ args ha;rw[hx]at e1;injection e1 with e1;subst e1
  rw[aFP]at hv;exact nH h hv
 ·obtain⟨v,h1,h2⟩:=hC.hQ.mn args r hs ρ hA xs.toList hx;have:=h2 argTypes ty w;rw[aFP]at this;exact bS.here h this h1
def anE (C:Cx)(argTypes:Array TypeId):Bool:=
 match argTypes[0]? with
 |some t=>match C.T t with
  |some i=>match i.desc with
   |.slice _=>true
   |_=>false
  |none=>false
 |none=>false
def acH (P:Program)(C:Cx)(m:M)(argTypes:Array TypeId)(ty:TypeId)(x:AV):Option AV:=
 match x with
 |.lit v=>(cC P (Builtin.len_ argTypes ty #[v])).map .lit
 |.atom n=>if Nat.beq (n%2) 1&&anE C argTypes then C.tb.ln (keyOf n)else none
 |_=>SB C.T m argTypes x
theorem aiU (hC:kV P C)(hk:eM C.B ρ m w)(h:bK ρ m w)(hs:acH P C m argTypes ty x=some r)(hx:aO ρ x=some X):
  bS P (Builtin.len_ argTypes ty #[X]) ρ m w r m:=by
 unfold acH at hs
 split at hs
 ·rename_i v;rw[aE9]at hs;obtain⟨v',hv,rfl⟩:=hs;simp only[aO]at hx;injection hx with hx;subst hx
  exact nH h hv
 ·rename_i n;split at hs
  case isFalse=>cases hs
  rename_i hc;rw[aD3]at hc;obtain⟨h1,h2⟩:=hc;have h1:=aEA h1;unfold aO at hx
  cases hn:ρ.atom n with
  |none=>rw[hn]at hx;cases hx
  |some y=>
   rw[hn]at hx
   simp only at hx
   split at hx
   case isFalse=>cases hx
   injection hx with hx;subst hx
   obtain⟨_,gh,k1,k2⟩:=hk.rd n y hn h1
   obtain⟨xs,l1,l2⟩:=hC.hQ.ln _ r hs
   have:=hk.at_ _ _ l1
   rw[k1]at this;injection this with this;subst this
   obtain⟨A,c,rfl,_,_,_⟩:=k2
   have l3:=l2 ρ hk.at_
   unfold anE at h2
   split at h2
   case h_2=>cases h2
   rename_i t h0
   split at h2
   case h_2=>cases h2
   rename_i i hi
   split at h2
   case h_2=>cases h2
   rename_i e hd
   have hu:=(hC.hT t i hi).und
   rw[hd]at hu
   refine bS.here h (x:= .int .i64 xs.size) ?_ l3
   simp[Builtin.len_,h0,run_underlying hu,goInt]
 ·exact acA hC.hT h hs hx
def U5 (C:Cx)(t:TypeId)(x i:AV):Option AV:=match x with
 |.atom n=>match vO i,C.T t with
  |some k,some inf=>match inf.desc with
   |.slice e=>match C.T e with
    |some ie=>if Nat.beq (n%2) 1&&(decide (ie.size=1)&&(C.tb.el (keyOf n) k).isSome)then some (.elp n k)else none
    |none=>none
   |_=>none
  |_,_=>none
 |_=>wE C.T t x i
def LU (C:Cx)(t:TypeId)(n k:Nat):Option AV:=match C.T t with
 |some i=>if i.agg then none else if Nat.beq (n%2) 1 then C.tb.el (keyOf n) k else none
 |none=>none
theorem anF (hC:kV P C)(hk:eM C.B ρ m w)(h1:Nat.beq (n%2) 1=true)(he:C.tb.el (keyOf n) k=some r)(hx:aO ρ (.atom n)=some X):
  ∃b off L c v,X=.slice (some ⟨b,off,none⟩) L c/\ρ.atom n=some X/\k<L/\w.cell? ⟨b,off+k,none⟩=some v/\aO ρ r=some v:=by
 have h1:=aEA h1
 unfold aO at hx
 cases hn:ρ.atom n with
 |none=>rw[hn]at hx;cases hx
 |some y=>
  rw[hn]at hx
  simp only at hx
  split at hx
  case isFalse=>cases hx
  injection hx with hx;subst hx
  obtain⟨_,gh,k1,k2⟩:=hk.rd n y hn h1
  obtain⟨xs,v,l1,l2,l3⟩:=hC.hQ.el _ _ r he
  have:=hk.at_ _ _ l1
  rw[k1]at this;injection this with this;subst this
  obtain⟨A,c,rfl,_,_,h5⟩:=k2
  have hb:k<xs.toList.length:=(aED.1 l2).1
  obtain⟨b,off,rfl,_,ha⟩:=h5 (by omega)
  exact⟨b,off,_,c,v,rfl,rfl,hb,by rw[ha k hb,l2],l3 ρ hk.at_⟩
theorem aiV (hC:kV P C)(hk:eM C.B ρ m w)(h:bK ρ m w){t:TypeId}{i:AV}(hs:U5 C t x i=some r){I:Value}(hx:aO ρ x=some X)(hi:aO ρ i=some I):bS P (Instr.indexAt t X I) ρ m w r m:=by
 unfold U5 at hs;split at hs
 ·rename_i n;split at hs
  case h_2=>cases hs
  rename_i k inf hb ha;split at hs
  case h_2=>cases hs
  rename_i e hd;split at hs
  case h_2=>cases hs
  rename_i ie hf;split at hs
  case isFalse=>cases hs
  rename_i hc;simp only[aD3,aEP]at hc;obtain⟨c1,c2,c3⟩:=hc;injection hs with hs;subst hs
  obtain⟨kk,rfl⟩:=jA hb hi;obtain⟨el,hg⟩:=aFG.1 c3;obtain⟨b,off,L,c,v,rfl,hat,hh,_,_⟩:=anF hC hk c1 hg hx;have hu:=(hC.hT t inf ha).und;rw[hd]at hu;refine bS.here h (x:= .pointer (some ⟨b,off+k,none⟩)) ?_ ?_
  ·have hj:(0:Int)<=k/\(k:Int)<L:=by omega
   simp only[Instr.indexAt,asIntOf,Sem.run_bind,Sem.run_pure,Result.andThen_ok,run_underlying hu];rw[aD6 hj];simp[iK hC.hT hf,gF,c2]
  ·unfold aO;rw[hat];simp only;rw[aD6 hh,gF]
 ·exact LG hC.hT h hs hx hi
theorem acI (hC:kV P C)(hk:eM C.B ρ m w)(h:bK ρ m w){t:TypeId}{v:AV}(hl:LU C t n k=some v){p:Value}(hp:aO ρ (.elp n k)=some p):bS P (Instr.loadAt t p) ρ m w v m:=by
 unfold LU at hl;split at hl
 case h_2=>cases hl
 rename_i i hi;split at hl
 case isTrue=>cases hl
 rename_i ha;have hb:i.agg=false:=by simpa using ha
 split at hl
 case isFalse=>cases hl
 rename_i h1;have hp0:=hp;unfold aO at hp0;split at hp0
 case h_2=>cases hp0
 rename_i a l c hat;split at hp0
 case isFalse=>cases hp0
 injection hp0 with hp0;subst hp0
 have hx:aO ρ (.atom n)=some (.slice (some a) l c):=by
  unfold aO;rw[hat];rfl
 obtain⟨b,off,L,c',y,he,_,_,hc,hv⟩:=anF hC hk h1 hl hx;injection he with e1 e2 e3
 injection e1 with e1;subst e1
 rw[gF];refine bS.here h (x:=y) ?_ hv;simp[Instr.loadAt,Instr.sureAddr,loadVar,NW hC.hT hi,hb,run_load,hc]
def aiW (P:Program)(C:Cx)(op:BinOp)(t:TypeId)(ox oy:Operand)(x y:AV):Option AV:=
 match x,y with
 |.lit (.string a),.lit (.string b)=>match SE op a b with
  |some v=>some (.lit v)
  |none=>(cC P (do eqGuard op t ox oy (.string a) (.string b);binOp op t (.string a) (.string b))).map .lit
 |_,_=>match fX x,fX y with
  |some a,some b=>(cC P (do eqGuard op t ox oy a b;binOp op t a b)).map .lit
  |_,_=>orE (an6 C.T op t x y) (C.tb.bin op x y)
theorem aoD (hC:kV P C)(hA:Has C.B ρ)(h:bK ρ m w){t:TypeId}(hs:aiW P C op t ox oy x y=some r)(hx:aO ρ x=some X)(hy:aO ρ y=some Y):
  bS P (do eqGuard op t ox oy X Y;binOp op t X Y) ρ m w r m:=by
 have gen:∀a b,fX x=some a->fX y=some b->∀v,cC P (do eqGuard op t ox oy a b;binOp op t a b)=some v->bS P (do eqGuard op t ox oy X Y;binOp op t X Y) ρ m w (.lit v) m:=by
  intro a b ha hb v hv;have e1:=iZ ρ x ha;have e2:=iZ ρ y hb;rw[hx]at e1;injection e1 with e1;subst e1
  rw[hy]at e2;injection e2 with e2;subst e2
  exact nH h hv
 unfold aiW at hs
 split at hs
 ·rename_i a b;simp only[aO]at hx hy;injection hx with hx;subst hx;injection hy with hy;subst hy
  split at hs
  ·rename_i v hv;injection hs with hs;subst hs
   exact bS.here h (SG hv t ox oy w) rfl
  ·rw[aE9]at hs;obtain⟨v,hv,rfl⟩:=hs;exact gen _ _ rfl rfl v hv
 ·split at hs
  ·rename_i a b ha hb;rw[aE9]at hs;obtain⟨v,hv,rfl⟩:=hs;exact gen a b ha hb v hv
  ·unfold orE at hs;split at hs
   ·rename_i v hv;injection hs with hs;subst hs
    exact an7 hC.hT h hv hx hy
   ·exact an8 hC hA h hs hx hy
def U6 (P:Program)(C:Cx)(m:M)(s d:TypeId)(x:AV):Option AV:=
 match x with
 |.slc ..=>SC C.T m s d x
 |.ptr ..=>LK P C.T m s d x
 |.lit (.int k n)=>match C.T s,C.T d with
  |some _,some id=>match id.desc with
   |.int k'=>(cC P (Conv.intToInt k' n)).map .lit
   |_=>(cC P (convert s d (.int k n))).map .lit
  |_,_=>none
 |_=>match fX x with
  |some a=>(cC P (convert s d a)).map .lit
  |none=>none
theorem aiX (hC:kV P C)(h:bK ρ m w){s d:TypeId}(hs:U6 P C m s d x=some r)(hx:aO ρ x=some X):bS P (convert s d X) ρ m w r m:=by
 unfold U6 at hs;split at hs
 ·exact acC hC.hT h hs hx
 ·exact YE hC.hT h hs hx
 ·rename_i k n;simp only[aO]at hx;injection hx with hx;subst hx
  split at hs
  case h_2=>cases hs
  rename_i is id hb hid;split at hs
  ·rename_i k' hd;rw[aE9]at hs;obtain⟨v,hv,rfl⟩:=hs;have u1:=(hC.hT s is hb).und;have u2:=(hC.hT d id hid).und;rw[hd]at u2;refine bS.here h (x:=v) ?_ rfl;unfold convert;simp only[Sem.run_bind,run_underlying u1,run_underlying u2,Result.andThen_ok];exact gJ hv w
  ·rw[aE9]at hs;obtain⟨v,hv,rfl⟩:=hs;exact nH h hv
 ·split at hs
  ·rename_i a ha;rw[aE9]at hs;obtain⟨v,hv,rfl⟩:=hs;have e1:=iZ ρ x ha;rw[hx]at e1;injection e1 with e1;subst e1
   exact nH h hv
  ·cases hs
def zY (T:TypeId->Option cZ)(t:TypeId)(x:AV)(lo hi mx:Option AV):Option AV:=
 match x,T t,wD lo,wD hi,mx with
 |.lit (.string s),some i,some l,some k,none=>match i.desc with
  |.string=>if decide (l.getD 0<=k.getD s.size)&&decide (k.getD s.size<=s.size)then some (.lit (.string ⟨((s.data.toList.take (k.getD s.size)).drop (l.getD 0)).toArray⟩))else none
  |_=>none
 |_,_,_,_,_=>none
theorem N4 (hT:tA P C.T)(h:bK ρ m w){t:TypeId}(hs:zY C.T t x lo hi mx=some r)(hx:aO ρ x=some X)(hl:CR ρ L lo)(hh:CR ρ H hi)(hk:CR ρ K mx):bS P (Instr.sliceAt t X L H K) ρ m w r m:=by
 unfold zY at hs;split at hs
 case h_2=>cases hs
 rename_i s i l k hb hf hg;split at hs
 case h_2=>cases hs
 rename_i hd;split at hs
 case isFalse=>cases hs
 rename_i hc;simp only[aD3,aEP]at hc;injection hs with hs;subst hs
 simp only[aO]at hx;injection hx with hx;subst hx
 have bl:=oG hf hl;have bh:=oG hg hh;obtain rfl:K=none:=hk;have hu:=(hT t i hb).und;rw[hd]at hu;have ha:=kI (P:=P) w false s.size s.size bl bh (show D0 none none from rfl) (by simp) (aD1 _) hc.2 hc.1;refine bS.here h (x:= .string (s.extract (l.getD 0) (k.getD s.size))) ?_ ?_
 ·simp only[Instr.sliceAt,Instr.slice,Sem.run_bind,run_underlying hu,Result.andThen_ok];simp[ha]
 ·have:s.extract (l.getD 0) (k.getD s.size)=⟨((s.data.toList.take (k.getD s.size)).drop (l.getD 0)).toArray⟩:=by
   apply jF;simp[ByteArray.data_extract,List.drop_take]
  rw[this];rfl
def LV (ev:Operand->AV):Option Operand->Option AV
 |none=>none
 |some x=>some (ev x)
theorem D5 {ev:Operand->AV}{a:Act}(h:N2 ρ ev a)(x:Option Operand):CR ρ (x.map a.eval) (LV ev x):=by
 cases x with
 |none=>rfl
 |some x=>exact⟨_,h x,rfl⟩
def D6:Option AV->Option (Option Value)
 |none=>some none
 |some v=>match fX v with
  |some x=>some (some x)
  |none=>none
theorem wJ {v:Option AV}{x X:Option Value}(h:D6 v=some x)(hx:CR ρ X v):X=x:=by
 unfold D6 at h
 cases v with
 |none=>simp only at h;injection h with h;subst h;exact hx
 |some v=>
  obtain⟨y,hy,rfl⟩:=hx
  cases hv:fX v with
  |none=>simp[hv]at h
  |some z=>
   simp only[hv]at h
   injection h with h;subst h
   have:=iZ ρ v hv
   rw[hy]at this;exact this
def uK (P:Program)(C:Cx)(m:M)(t:TypeId)(x:AV)(lo hi mx:Option AV):Option AV:=
 match x with
 |.lit (.string _)=>zY C.T t x lo hi mx
 |.lit v=>match D6 lo,D6 hi,D6 mx with
  |some l,some h,some k=>(cC P (Instr.sliceAt t v l h k)).map .lit
  |_,_,_=>none
 |_=>R8 C.T m t x lo hi mx
theorem N5 (hC:kV P C)(h:bK ρ m w){t:TypeId}(hs:uK P C m t x lo hi mx=some r)(hx:aO ρ x=some X)(hl:CR ρ L lo)(hh:CR ρ H hi)(hk:CR ρ K mx):bS P (Instr.sliceAt t X L H K) ρ m w r m:=by
 unfold uK at hs;split at hs
 ·exact N4 hC.hT h hs hx hl hh hk
 ·split at hs
  ·rename_i l k kk h1 h2 h3;rw[aE9]at hs;obtain⟨v,hv,rfl⟩:=hs;simp only[aO]at hx;injection hx with hx;subst hx
   rw[wJ h1 hl,wJ h2 hh,wJ h3 hk];exact nH h hv
  ·cases hs
 ·exact ab4 hC.hT h hs hx hl hh hk
def zZ:AV->Bool
 |.ptr _ _=>true
 |.lit (.pointer (some _))=>true
 |.fn (.func _) _ _=>true
 |.fn (.via ..) _ _=>true
 |.lit (.func (.func _) _ _)=>true
 |_=>false
def tE (P:Program)(C:Cx)(m:M)(b:Builtin)(argTypes:Array TypeId)(ty:TypeId)(args:List AV):Option (AV×M):=
 match b,args with
 |.append,[s,x]=>LI C.T m argTypes s x
 |.copy,[d,x]=>ab8 C.T m argTypes d x
 |.clear,[d]=>match SA C.T m argTypes d with
  |some m'=>some (.lit (.tuple #[]),m')
  |none=>none
 |.len,[x]=>match acH P C m argTypes ty x with
  |some r=>some (r,m)
  |none=>none
 |.cap,[x]=>match an4 C.T argTypes x with
  |some r=>some (r,m)
  |none=>none
 |.min,_=>match aoB P C argTypes ty args with
  |some r=>some (r,m)
  |none=>none
 |.max,_=>match an9 P C argTypes ty args with
  |some r=>some (r,m)
  |none=>none
 |.unsafeSliceData,[x]=>match wF x with
  |some r=>some (r,m)
  |none=>none
 |.unsafeString,[x,n]=>wG P C.T m argTypes x n
 |_,_=>none
def N6 (b:Builtin)(argTypes:Array TypeId)(ty:TypeId)(args:Array Value):Sem Value:=
 match b with
 |.append=>Builtin.append_ argTypes ty args
 |.copy=>Builtin.copy_ argTypes ty args
 |.clear=>Builtin.clear_ argTypes ty args
 |.len=>Builtin.len_ argTypes ty args
 |.cap=>Builtin.cap_ argTypes ty args
 |.min=>Builtin.min_ argTypes ty args
 |.max=>Builtin.max_ argTypes ty args
 |.unsafeSliceData=>Builtin.unsafeSliceData_ argTypes ty args
 |.unsafeString=>Builtin.unsafeString_ argTypes ty args
 |_=>stuck ""
theorem SH (hC:kV P C)(hk:eM C.B ρ m w)(h:bK ρ m w){b:Builtin}(hs:tE P C m b argTypes ty args=some (r,m'))(hx:aT ρ args=some xs.toList):
  bS P (N6 b argTypes ty xs) ρ m w r m'/\∀cs,builtin b argTypes ty cs xs=(do pure (.value (<-N6 b argTypes ty xs))):=by
 have oa:∀x,args=[x]->∃X,xs=#[X]/\aO ρ x=some X:=by
  rintro x rfl;obtain⟨p,q,h1,h2,h3⟩:=aG.1 hx;rw[aT]at h2;injection h2 with h2;subst h2
  exact⟨p,by rw[<-Array.toList_inj,h3],h1⟩
 have two:∀x y,args=[x,y]->∃X Y,xs=#[X,Y]/\aO ρ x=some X/\aO ρ y=some Y:=by
  rintro x y rfl;obtain⟨p,q,h1,h2,h3⟩:=aG.1 hx;obtain⟨p2,q2,k1,k2,rfl⟩:=aG.1 h2;rw[aT]at k2;injection k2 with k2;subst k2
  exact⟨p,p2,by rw[<-Array.toList_inj,h3],h1,k1⟩
 unfold tE at hs
 split at hs
 ·obtain⟨X,Y,rfl,h1,h2⟩:=two _ _ rfl;exact⟨YD (ty:=ty) hC.hT h hs h1 h2,fun _=>rfl⟩
 ·obtain⟨X,Y,rfl,h1,h2⟩:=two _ _ rfl;exact⟨aiR (ty:=ty) hC.hT h hs h1 h2,fun _=>rfl⟩
 ·obtain⟨X,rfl,h1⟩:=oa _ rfl;split at hs
  case h_2=>cases hs
  rename_i m1 hm;injection hs with hs;injection hs with e1 e2;subst e1;subst e2
  exact⟨ab9 (ty:=ty) hC.hT h hm h1,fun _=>rfl⟩
 ·obtain⟨X,rfl,h1⟩:=oa _ rfl;split at hs
  case h_2=>cases hs
  rename_i r' hr;injection hs with hs;injection hs with e1 e2;subst e1;subst e2
  exact⟨aiU hC hk h hr h1,fun _=>rfl⟩
 ·obtain⟨X,rfl,h1⟩:=oa _ rfl;split at hs
  case h_2=>cases hs
  rename_i r' hr;injection hs with hs;injection hs with e1 e2;subst e1;subst e2
  exact⟨an5 (ty:=ty) hC.hT h hr h1,fun _=>rfl⟩
 ·split at hs
  case h_2=>cases hs
  rename_i r' hr;injection hs with hs;injection hs with e1 e2;subst e1;subst e2
  exact⟨aoC hC hk.at_ h hr hx,fun _=>rfl⟩
 ·split at hs
  case h_2=>cases hs
  rename_i r' hr;injection hs with hs;injection hs with e1 e2;subst e1;subst e2
  exact⟨aoA hC hk.at_ h hr hx,fun _=>rfl⟩
 ·obtain⟨X,rfl,h1⟩:=oa _ rfl;split at hs
  case h_2=>cases hs
  rename_i r' hr;injection hs with hs;injection hs with e1 e2;subst e1;subst e2
  exact⟨LN (ty:=ty) (argTypes:=argTypes) h hr h1,fun _=>rfl⟩
 ·obtain⟨X,Y,rfl,h1,h2⟩:=two _ _ rfl;exact⟨LP (ty:=ty) hC.hT h hs h1 h2,fun _=>rfl⟩
 ·cases hs
end
section
variable {n:fY}{ev:Operand->AV}{a:Act}
variable {P:Program}{C:Cx}{ρ:Env}{m m':M}{w:World}
def gX (m:M):Option AV->Option fY
 |some v=>some (.val v m)
 |none=>none
def mD:Option (AV×M)->Option fY
 |some (v,m)=>some (.val v m)
 |none=>none
def I9:Option M->Option fY
 |some m=>some (.skip m)
 |none=>none
theorem bR {o:Option AV}(h:gX m o=some n):∃v,o=some v/\n=.val v m:=by
 cases o with
 |none=>cases h
 |some v=>injection h with h;exact⟨v,rfl,h.symm⟩
theorem gO {o:Option (AV×M)}(h:mD o=some n):∃v m',o=some (v,m')/\n=.val v m':=by
 cases o with
 |none=>cases h
 |some v=>injection h with h;exact⟨v.1,v.2,rfl,h.symm⟩
theorem wK {o:Option M}(h:I9 o=some n):∃m',o=some m'/\n=.skip m':=by
 cases o with
 |none=>cases h
 |some v=>injection h with h;exact⟨v,rfl,h.symm⟩
def U7 (P:Program)(C:Cx)(ev:Operand->AV)(o:Oper)(m:M):Option fY:=
 match o.op with
 |.move x|.assign x=>some (.val (ev x) m)
 |.pick c a b=>match ev c with
  |.lit (.bool t)=>some (.val (if t then ev a else ev b) m)
  |_=>none
 |.alloc t=>mD (LA C.T m t)
 |.box t x=>mD (aiN m t (ev x))
 |.build t parts=>gX m (LB C.T t (parts.toList.map fun p=>(p.1,ev p.2)))
 |.buildSlice t len parts=>mD (pM C.T m t len (parts.toList.map fun p=>(p.1,ev p.2)))
 |.load t a=>match ev a with
  |.ptr b o=>gX m (IV C.T m t b o)
  |.elp n k=>gX m (LU C t n k)
  |_=>none
 |.store t a x=>match ev a with
  |.ptr b o=>I9 (K9 C.T m t b o (ev x))
  |_=>none
 |.nilCheck x=>if zZ (ev x)then some (.val (ev x) m)else none
 |.binOp op t x y _=>gX m (aiW P C op t x y (ev x) (ev y))
 |.unOp op _ x=>gX m (unA P C op (ev x))
 |.convert s d x=>gX m (U6 P C m s d (ev x))
 |.makeInterface t x=>gX m (rV C.T t (ev x))
 |.makeFunc f a b=>some (.val (.fn f (a.toList.map ev) (b.toList.map ev)) m)
 |.makeMap _ r=>mD (x7 m (LV ev r))
 |.makeSlice t l c=>mD (rS C.T m t (ev l) (ev c))
 |.slice t x lo hi mx=>gX m (uK P C m t (ev x) (LV ev lo) (LV ev hi) (LV ev mx))
 |.fieldAddr s x f=>gX m (rT C.T s (ev x) f)
 |.field t x f=>gX m (LH C.T t (ev x) f)
 |.indexAddr t x i=>gX m (U5 C t (ev x) (ev i))
 |.index t x i=>match fX (ev x),fX (ev i)with
  |some a,some k=>match cC P (Instr.index t a k)with
   |some v=>some (.val (.lit v) m)
   |none=>none
  |_,_=>none
 |.lookup t x i ok=>gX m (C7 C.T m t (ev x) (ev i) ok)
 |.mapUpdate t mp k x|.insert t mp k x=>I9 (rY C.T m t (ev mp) (ev k) (ev x))
 |.range t x=>mD (LS C.T m t (ev x))
 |.next it s=>mD (U3 m (ev it) s)
 |.typeAssert x _ asserted ok=>gX m (C6 C.T (ev x) asserted ok)
 |.extract x i=>gX m (xZ (ev x) i)
 |.call c=>match c.callee with
  |.builtin b=>mD (tE P C m b c.argTypes o.type (c.args.toList.map ev))
  |.value f=>I8 C m (ev f) (c.args.toList.map ev)
  |.invoke r name=>I8 C m (.fn (.method name) [] []) (ev r::c.args.toList.map ev)
 |_=>none
theorem JA (parts:Array (Nat×Operand))(f:Operand->Value)(g:Operand->AV):(parts.map fun(i,x)=>(i,f x)).toList.map (·.1)=(parts.toList.map fun p=>(p.1,g p.2)).map (·.1):=by
 simp[Function.comp_def]
theorem JB (h:N2 ρ ev a)(parts:Array (Nat×Operand)):aT ρ ((parts.toList.map fun p=>(p.1,ev p.2)).map (·.2))=some ((parts.map fun(i,x)=>(i,a.eval x)).toList.map (·.2)):=by
 have:=zX h (parts.toList.map (·.2));simpa [Function.comp_def]using this
theorem qS (h:N2 ρ ev a)(l:Array Operand):aT ρ (l.toList.map ev)=some (l.map a.eval).toList:=by
 rw[Array.toList_map];exact zX h l.toList
theorem U8 (hC:kV P C)(hk:eM C.B ρ m w)(h:bK ρ m w)(ht:N2 ρ ev a){o:Oper}(hs:U7 P C ev o m=some n):lQ P (execOp a.eval o) ρ m w n:=by
 have ea:=ht;unfold U7 at hs;split at hs<;>rename_i ha
 ·injection hs with hs;subst hs
  unfold execOp;rw[ha];exact⟨ρ,w,_,rfl,ea _,.refl h⟩
 ·injection hs with hs;subst hs
  unfold execOp;rw[ha];exact⟨ρ,w,_,rfl,ea _,.refl h⟩
 ·rename_i c x y;split at hs
  case h_2=>cases hs
  rename_i t hd;injection hs with hs;subst hs
  have hc:=ea c;rw[hd]at hc;simp only[aO]at hc;injection hc with hc
  unfold execOp;rw[ha];refine⟨ρ,w,(if t then a.eval x else a.eval y),?_,?_,.refl h⟩
  ·simp[<-hc,asBool]
  ·cases t
   ·exact ea y
   ·exact ea x
 ·obtain⟨v,m1,h1,rfl⟩:=gO hs;unfold execOp;rw[ha];exact .of_val (ab2 hC.hT h h1)
 ·obtain⟨v,m1,h1,rfl⟩:=gO hs;unfold execOp;rw[ha];exact .of_val (an1 h h1 (ea _))
 ·obtain⟨v,h1,rfl⟩:=bR hs;unfold execOp;rw[ha];exact .of_val (ab3 hC.hT h h1 (JA _ _ _) (JB ht _))
 ·obtain⟨v,m1,h1,rfl⟩:=gO hs;unfold execOp;rw[ha];exact .of_val (ID hC.hT h h1 (JA _ _ _) (JB ht _))
 ·rename_i t x;split at hs
  case h_3=>cases hs
  ·rename_i b off hx;obtain⟨v,h1,rfl⟩:=bR hs;unfold execOp;rw[ha];have:=ea x;rw[hx]at this;exact .of_val (aiM hC.hT h h1 this)
  ·rename_i b off hx;obtain⟨v,h1,rfl⟩:=bR hs;unfold execOp;rw[ha];have:=ea x;rw[hx]at this;exact .of_val (acI hC hk h h1 this)
 ·rename_i t x y;split at hs
  case h_2=>cases hs
  rename_i b off hx;obtain⟨m1,h1,rfl⟩:=wK hs;unfold execOp;rw[ha];have:=ea x;rw[hx]at this;exact .of_unit (ab1 hC.hT h h1 this (ea y))
 ·rename_i x;split at hs
  case isFalse=>cases hs
  rename_i hn;injection hs with hs;subst hs
  unfold execOp;rw[ha];refine⟨ρ,w,a.eval x,?_,ea x,.refl h⟩;have hx:=ea x;unfold zZ at hn;split at hn
  ·rename_i b off he;rw[he]at hx;obtain⟨g,o0,z,l,_,hf⟩:=iF hx;simp only[hf];rfl
  ·rename_i p he;rw[he]at hx;simp only[aO]at hx;injection hx with hx
   simp only[<-hx];rfl
  ·rename_i f p q he;rw[he]at hx;unfold aO at hx;split at hx
   case h_2=>cases hx
   injection hx with hx
   simp only[<-hx];rfl
  ·rename_i f p q r s he;rw[he]at hx;unfold aO at hx;split at hx
   case h_2=>cases hx
   injection hx with hx
   simp only[<-hx];rfl
  ·rename_i f p q he;rw[he]at hx;simp only[aO]at hx;injection hx with hx
   simp only[<-hx];rfl
  ·cases hn
 ·obtain⟨v,h1,rfl⟩:=bR hs;unfold execOp;rw[ha];exact .of_val (aoD hC hk.at_ h h1 (ea _) (ea _))
 ·obtain⟨v,h1,rfl⟩:=bR hs;unfold execOp;rw[ha];exact .of_val (auH hC hk.at_ h h1 (ea _))
 ·obtain⟨v,h1,rfl⟩:=bR hs;unfold execOp;rw[ha];exact .of_val (aiX hC h h1 (ea _))
 ·obtain⟨v,h1,rfl⟩:=bR hs;unfold execOp;rw[ha];exact .of_val (LQ hC.hT h h1 (ea _))
 ·rename_i f x y;injection hs with hs;subst hs
  unfold execOp;rw[ha];refine⟨ρ,w,.func f (x.map a.eval) (y.map a.eval),rfl,?_,.refl h⟩;unfold aO;rw[qS ht x,qS ht y]
 ·rename_i t r;obtain⟨v,m1,h1,rfl⟩:=gO hs
  have hr:r=none:=by
   cases r with
   |none=>rfl
   |some r=>cases h1
  subst hr;unfold execOp;rw[ha];exact .of_val (SD h h1)
 ·obtain⟨v,m1,h1,rfl⟩:=gO hs;unfold execOp;rw[ha];exact .of_val (LD hC.hT h h1 (ea _) (ea _))
 ·obtain⟨v,h1,rfl⟩:=bR hs;unfold execOp;rw[ha];exact .of_val (N5 hC h h1 (ea _) (D5 ht _) (D5 ht _) (D5 ht _))
 ·obtain⟨v,h1,rfl⟩:=bR hs;unfold execOp;rw[ha];exact .of_val (LF hC.hT h h1 (ea _))
 ·obtain⟨v,h1,rfl⟩:=bR hs;unfold execOp;rw[ha];exact .of_val (ab5 hC.hT h h1 (ea _))
 ·obtain⟨v,h1,rfl⟩:=bR hs;unfold execOp;rw[ha];exact .of_val (aiV hC hk h h1 (ea _) (ea _))
 ·rename_i t x y;split at hs
  case h_2=>cases hs
  rename_i p q hp hq;split at hs
  case h_2=>cases hs
  rename_i v hv;injection hs with hs;subst hs
  unfold execOp;rw[ha];have h1:=iZ ρ _ hp;have h2:=iZ ρ _ hq;rw[ea x]at h1;injection h1 with h1
  rw[ea y]at h2;injection h2 with h2
  rw[<-h1,<-h2]at hv;exact .of_val (nH h hv)
 ·obtain⟨v,h1,rfl⟩:=bR hs;unfold execOp;rw[ha];exact .of_val (YH hC.hT h h1 (ea _) (ea _))
 ·obtain⟨m1,h1,rfl⟩:=wK hs;unfold execOp;rw[ha];exact .of_unit (I7 hC.hT h h1 (ea _) (ea _) (ea _))
 ·obtain⟨m1,h1,rfl⟩:=wK hs;unfold execOp;rw[ha];exact .of_unit (I7 hC.hT h h1 (ea _) (ea _) (ea _))
 ·obtain⟨v,m1,h1,rfl⟩:=gO hs;unfold execOp;rw[ha];exact .of_val (acE hC.hT h h1 (ea _))
 ·obtain⟨v,m1,h1,rfl⟩:=gO hs;unfold execOp;rw[ha];exact .of_val (aiT h h1 (ea _))
 ·obtain⟨v,h1,rfl⟩:=bR hs;unfold execOp;rw[ha];exact .of_val (YF hC.hT h h1 (ea _))
 ·obtain⟨v,h1,rfl⟩:=bR hs;unfold execOp;rw[ha];exact .of_val (R9 h h1 (ea _))
 ·rename_i c;unfold execOp;rw[ha];split at hs<;>rename_i hb
  ·rename_i b;obtain⟨v,m1,h1,rfl⟩:=gO hs;obtain⟨k1,k2⟩:=SH hC hk h h1 (qS ht c.args);have:=lQ.of_val k1
   have hr:(do let d <-resolve a.eval c o.type;invoke d.target d.args)=builtin b c.argTypes o.type (c.args.map fun|.const _=>true|_=>false) (c.args.map a.eval):=by
    simp[resolve,hb,invoke];rfl
   show lQ P (do let d <-resolve a.eval c o.type;invoke d.target d.args) ρ m w _;rw[hr,k2];exact this
  ·rename_i f;have:=U4 hC h hs (ea f) (qS ht c.args)
   have hr:resolve a.eval c o.type=Deferred.ofValue (a.eval f) (c.args.map a.eval):=by
    simp[resolve,hb]
   show lQ P (do let d <-resolve a.eval c o.type;invoke d.target d.args) ρ m w _;rw[hr];exact this
  ·rename_i r name
   have hx:aT ρ (ev r::c.args.toList.map ev)=some (#[a.eval r]++c.args.map a.eval).toList:=by
    refine aG.2 ⟨_,_,ea r,qS ht c.args,by simp⟩
   have:=U4 (P:=P) hC h hs (X:= .func (.method name) #[] #[]) rfl hx
   have hr:resolve a.eval c o.type=Deferred.ofValue (.func (.method name) #[] #[]) (#[a.eval r]++c.args.map a.eval):=by
    simp[resolve,hb,Deferred.ofValue]
   show lQ P (do let d <-resolve a.eval c o.type;invoke d.target d.args) ρ m w _;rw[hr];exact this
 ·cases hs
end
section
variable {ρ ρ':Env}{tmps:Array Value}{v:AV}{y:Value}{a:Act}{ts:Tr AV}{o:Oper}{Q:Exit->Act->World->Prop}{c:Code}{w:World}
variable {P:Program}{C:Cx}{ρ:Env}{m m':M}{w:World}
noncomputable def gA (t:Tr AV):Nat->Option AV:=
 Tr.rec (motive:=fun _=>Nat->Option AV) (fun _=>none) (fun _ v _ ia ib n=>Bool.rec (motive:=fun _=>Option AV) (Bool.rec (motive:=fun _=>Option AV) (ib (Nat.sub (Nat.div n 2) 1)) (ia (Nat.div n 2)) (Nat.beq (Nat.mod n 2) 1)) v (Nat.beq n 0)) t
noncomputable def AA (x:AV)(t:Tr AV):Nat->Tr AV:=
 Tr.rec (motive:=fun _=>Nat->Tr AV) (fun _=> .nil) (fun l v r ia ib n=>Bool.rec (motive:=fun _=>Tr AV) (Bool.rec (motive:=fun _=>Tr AV) (.node l v (ib (Nat.sub (Nat.div n 2) 1))) (.node (ia (Nat.div n 2)) v r) (Nat.beq (Nat.mod n 2) 1)) (.node l (Option.rec none (fun _=>some x) v) r) (Nat.beq n 0)) t
theorem beq_false {a b:Nat}(h:¬a=b):Nat.beq a b=false:=by
 cases hb:Nat.beq a b with
 |false=>rfl
 |true=>exact absurd (aEA hb) h
theorem tF (n:Nat):gA .nil n=none:=rfl
theorem fJ (l r:Tr AV)(v:Option AV)(n:Nat):gA (.node l v r) n=if n=0 then v else if n%2=1 then gA l (n/2)else gA r (n/2-1):=by
 show Bool.rec (motive:=fun _=>Option AV) (Bool.rec (motive:=fun _=>Option AV) (gA r (n/2-1)) (gA l (n/2)) (Nat.beq (n%2) 1)) v (Nat.beq n 0)=_;by_cases h0:n=0
 ·subst h0;rfl
 ·have e0:Nat.beq n 0=false:=beq_false h0;rw[e0,aD4 h0];by_cases h1:n%2=1
  ·have e1:Nat.beq (n%2) 1=true:=by simpa using h1
   rw[e1,aD6 h1]
  ·have e1:Nat.beq (n%2) 1=false:=beq_false h1;rw[e1,aD4 h1]
theorem acJ (x:AV)(n:Nat):AA x .nil n=.nil:=rfl
theorem YI (x:AV)(l r:Tr AV)(v:Option AV)(n:Nat):AA x (.node l v r) n=if n=0 then .node l (v.map fun _=>x) r else if n%2=1 then .node (AA x l (n/2)) v r else .node l v (AA x r (n/2-1)):=by
 show Bool.rec (motive:=fun _=>Tr AV) (Bool.rec (motive:=fun _=>Tr AV) (Tr.node l v (AA x r (n/2-1))) (Tr.node (AA x l (n/2)) v r) (Nat.beq (n%2) 1)) (Tr.node l (Option.rec none (fun _=>some x) v) r) (Nat.beq n 0)=_;by_cases h0:n=0
 ·subst h0;cases v<;>rfl
 ·have e0:Nat.beq n 0=false:=beq_false h0;rw[e0,aD4 h0];by_cases h1:n%2=1
  ·have e1:Nat.beq (n%2) 1=true:=by simpa using h1
   rw[e1,aD6 h1]
  ·have e1:Nat.beq (n%2) 1=false:=beq_false h1;rw[e1,aD4 h1]
theorem nT (x:AV):∀(t:Tr AV) (i j:Nat),gA (AA x t i) j=if j=i then(gA t i).map (fun _=>x)else gA t j
 |.nil,i,j=>by rw[acJ,tF,tF];split<;>rfl
 |.node l v r,i,j=>by
  rw[YI];by_cases i0:i=0
  ·rw[aD6 i0,fJ,fJ,fJ,aD6 i0];by_cases j0:j=0
   ·rw[aD6 j0,aD6 (by omega)]
   ·have ha:¬j=i:=by omega
    rw[aD4 j0,aD4 ha,aD4 j0]
  ·rw[aD4 i0];by_cases i1:i%2=1
   ·rw[aD6 i1,fJ,nT x l,fJ,fJ,aD4 i0,aD6 i1];by_cases hj:j=i
    ·subst hj;rw[aD4 i0,aD6 i1,aD6 rfl,aD6 rfl]
    ·rw[aD4 hj];by_cases j0:j=0
     ·rw[aD6 j0,aD6 j0]
     ·rw[aD4 j0,aD4 j0];by_cases j1:j%2=1
      ·rw[aD6 j1,aD6 j1,aD4 (by omega)]
      ·rw[aD4 j1,aD4 j1]
   ·rw[aD4 i1,fJ,nT x r,fJ,fJ,aD4 i0,aD4 i1];by_cases hj:j=i
    ·subst hj;rw[aD4 i0,aD4 i1,aD6 rfl,aD6 rfl]
    ·rw[aD4 hj];by_cases j0:j=0
     ·rw[aD6 j0,aD6 j0]
     ·rw[aD4 j0,aD4 j0];by_cases j1:j%2=1
      ·rw[aD6 j1,aD6 j1]
      ·rw[aD4 j1,aD4 j1,aD4 (by omega)]
def D7:Nat->Nat->Tr AV
 |0,_=> .nil
 |f+1,c=>if c=0 then .nil else .node (D7 f (c/2)) (some (.lit undef)) (D7 f ((c-1)/2))
theorem wL:∀(f c i:Nat),c<2^f->gA (D7 f c) i=if i<c then some (.lit undef)else none
 |0,c,i,h=>by
  have:c=0:=by simpa using h
  subst this;rw[aD4 (by omega)];rfl
 |f+1,c,i,h=>by
  rw[aGC]at h;unfold D7;by_cases c0:c=0
  ·rw[aD6 c0,aD4 (by omega)];rfl
  ·rw[aD4 c0,fJ];by_cases i0:i=0
   ·rw[aD6 i0,aD6 (by omega)]
   ·rw[aD4 i0];by_cases i1:i%2=1
    ·rw[aD6 i1,wL f _ _ (by omega)];by_cases h2:i<c
     ·rw[aD6 h2,aD6 (by omega)]
     ·rw[aD4 h2,aD4 (by omega)]
    ·rw[aD4 i1,wL f _ _ (by omega)];by_cases h2:i<c
     ·rw[aD6 h2,aD6 (by omega)]
     ·rw[aD4 h2,aD4 (by omega)]
noncomputable def acK:Tr AV->Nat->List AV->Tr AV
 |t,_,[]=>t
 |t,k,v::l=>acK (AA v t k) (k+1) l
theorem N7:∀(l:List AV) (t:Tr AV) (k i:Nat),gA (acK t k l) i=if k<=i/\i<k+l.length then(gA t i).bind (fun _=>l[i-k]?)else gA t i
 |[],t,k,i=>by rw[acK,aD4 (by simp only[aEW];omega)]
 |v::l,t,k,i=>by
  rw[acK,N7 l];simp only[aEN];by_cases h:k+1<=i/\i<k+1+l.length
  ·rw[aD6 h,aD6 (by omega),nT,aD4 (by omega)];rw[show i-k=(i-(k+1))+1 by omega,List.getElem?_cons_succ]
  ·rw[aD4 h,nT];by_cases hi:i=k
   ·subst hi;rw[aD6 rfl,aD6 (by omega)]
    cases gA t i<;>simp
   ·rw[aD4 hi,aD4 (by omega)]
noncomputable def N8 (n:Nat)(args:List AV):Tr AV:=acK (D7 20 n) 0 args
def fL (ρ:Env)(t:Tr AV)(tmps:Array Value):Prop:=∀i,match gA t i with
 |some v=>∃y,tmps[i]?=some y/\aO ρ v=some y
 |none=>tmps[i]?=none
theorem fL.at_ {t:Tr AV}(h:fL ρ t tmps){i:Nat}(hv:gA t i=some v):∃y,tmps[i]?=some y/\aO ρ v=some y:=by
 have:=h i;rw[hv]at this;exact this
theorem fL.no {t:Tr AV}(h:fL ρ t tmps){i:Nat}(hv:gA t i=none):tmps[i]?=none:=by
 have:=h i;rw[hv]at this;exact this
theorem fL.mono (hl:ρ.le ρ'){t:Tr AV}(h:fL ρ t tmps):fL ρ' t tmps:=by
 intro i;have:=h i;split
 ·rename_i v hv;rw[hv]at this;obtain⟨y,h1,h2⟩:=this;exact⟨y,h1,jS hl _ h2⟩
 ·rename_i hv;rw[hv]at this;exact this
theorem fL.set {t:Tr AV}(h:fL ρ t tmps)(d:Nat)(hv:aO ρ v=some y):fL ρ (AA v t d) (tmps.setIfInBounds d y):=by
 intro i;rw[nT];by_cases hi:i=d
 ·subst hi;rw[aD6 rfl]
  cases hg:gA t i with
  |none=>
   have:=h.no hg
   show(tmps.setIfInBounds i y)[i]?=none
   rw[aFL]at this⊢
   simpa using this
  |some u=>
   obtain⟨z,hz,_⟩:=h.at_ hg
   have hb:=(aD5.1 hz).1
   exact⟨y,by simp[hb],hv⟩
 ·rw[aD4 hi]
  have ha:(tmps.setIfInBounds d y)[i]?=tmps[i]?:=by
   rw[aGA,aD4 (fun e=>hi e.symm)]
  have:=h i;split
  ·rename_i u hu;rw[hu]at this;rw[ha];exact this
  ·rename_i hu;rw[hu]at this;rw[ha];exact this
theorem YJ {n:Nat}{args:List AV}{xs:Array Value}(h:aT ρ args=some xs.toList)(hn:args.length<=n)(ha:n<1048576):fL ρ (N8 n args) (xs++Array.replicate (n-xs.size) undef):=by
 have hl:=bN h;rw[aFE]at hl;intro i;unfold N8;rw[N7,wL _ _ _ (by simpa using ha)];by_cases hi:i<args.length
 ·rw[aD6 (by omega),aD6 (by omega)];simp only[aHA,Nat.sub_zero];rw[aEB hi];obtain⟨y,h1,h2⟩:=oE h (aEB hi);refine⟨y,?_,h2⟩;rw[Array.getElem?_append_left (by omega)];simpa using h1
 ·rw[aD4 (by omega)];by_cases hb:i<n
  ·rw[aD6 hb];refine⟨undef,?_,rfl⟩;rw[Array.getElem?_append_right (by omega),Array.getElem?_replicate,aD6 (by omega)]
  ·rw[aD4 hb];show(xs++Array.replicate (n-xs.size) undef)[i]?=none;rw[aFL];simp;omega
noncomputable def x9 (t:Tr AV):Operand->AV
 |.tmp i=>match gA t i with
  |some v=>v
  |none=> .lit undef
 |.const v=> .lit v
 |.global g=> .lit (.pointer (some ⟨g,0,none⟩))
 |.func f=> .lit (.func (.func f) #[] #[])
theorem fL.ev {t:Tr AV}(h:fL ρ t a.tmps):N2 ρ (x9 t) a:=by
 intro x
 cases x with
 |tmp i=>
  unfold x9 Act.eval
  cases hg:gA t i with
  |none=>simp only[hg];rw[aFZ,h.no hg];rfl
  |some v=>
   obtain⟨y,h1,h2⟩:=h.at_ hg
   simp only[hg];rw[aFZ,h1];exact h2
 |const v=>rfl
 |global g=>rfl
 |func f=>rfl
structure St where
 ts:Tr AV
 ds:List (FuncId×List AV×List AV)
 m:M
def aoE (ρ:Env)(d:FuncId×List AV×List AV)(x:Deferred):Prop:=
 ∃A B:Array Value,x={target:= .fn (.func d.1) B,args:=A}/\aT ρ d.2.1=some A.toList/\aT ρ d.2.2=some B.toList
inductive rZ (ρ:Env):List (FuncId×List AV×List AV)->List Deferred->Prop
 |nil:rZ ρ [] []
 |cons {d x ds xs} (h:aoE ρ d x) (t:rZ ρ ds xs):rZ ρ (d::ds) (x::xs)
theorem rZ.mono (hl:ρ.le ρ'):∀{ds:List (FuncId×List AV×List AV)} {xs:List Deferred},rZ ρ ds xs->rZ ρ' ds xs
 |_,_,.nil=> .nil
 |_,_,.cons ⟨A,B,h1,h2,h3⟩ t=> .cons ⟨A,B,h1,dN hl _ h2,dN hl _ h3⟩ (t.mono hl)
structure nL (ρ:Env) (s:St) (a:Act):Prop where
 ts:fL ρ s.ts a.tmps
 ds:rZ ρ s.ds a.defers
theorem nL.mono (hl:ρ.le ρ'){s:St}(h:nL ρ s a):nL ρ' s a:=⟨h.ts.mono hl,h.ds.mono hl⟩
noncomputable def r7 (ts:Tr AV)(d:Option Tmp)(v:AV):Tr AV:=
 match d with
 |some d=>AA v ts d
 |none=>ts
theorem U9 (h:fL ρ ts a.tmps)(d:Option Tmp)(hv:aO ρ v=some y):fL ρ (r7 ts d v) (a.put d y).tmps:=by
 cases d with
 |none=>exact h
 |some d=>exact h.set d hv
theorem tG (a:Act)(d:Option Tmp)(y:Value):(a.put d y).defers=a.defers:=by cases d<;>rfl
theorem nL.put {s:St}(h:nL ρ s a)(d:Option Tmp)(hv:aO ρ v=some y)(m':M):nL ρ {s with ts:=r7 s.ts d v,m:=m'} (a.put d y):=
 ⟨U9 h.ts d hv,by rw[tG];exact h.ds⟩
noncomputable def nM (ops:Array Oper)(ts:Tr AV)(o:Oper):Option Bool:=
 match o.guard with
 |none=>some true
 |some (j,want)=>match (ops[j]?).bind (·.dst)with
  |none=>some false
  |some d=>match gA ts d with
   |some (.lit (.bool b))=>some (b ==want)
   |some (.lit (.tuple _))=>some false
   |none=>some false
   |_=>none
theorem uL {ops:Array Oper}(h:fL ρ ts a.tmps){b:Bool}(hs:nM ops ts o=some b):Region.wanted o (yielded ops a.tmps)=b:=by
 unfold nM at hs;unfold Region.wanted;split at hs
 ·rename_i hg;rw[hg];injection hs with hs
 ·rename_i j want hg;rw[hg];simp only;unfold yielded;split at hs
  ·rename_i hd;injection hs with hs
   rw[hd];simp only[Option.bind_none];rw[<-hs];rfl
  ·rename_i d hd;rw[hd];simp only[aHA];split at hs
   ·rename_i c hc;injection hs with hs
    obtain⟨y,hy,hg⟩:=h.at_ hc;simp only[aO]at hg;injection hg with hg;subst hg
    rw[hy];rw[<-hs]
    cases c<;>cases want<;>rfl
   ·rename_i c hc;injection hs with hs
    obtain⟨y,hy,hg⟩:=h.at_ hc;simp only[aO]at hg;injection hg with hg;subst hg
    rw[hy];rw[<-hs];rfl
   ·rename_i hc;injection hs with hs
    rw[h.no hc];rw[<-hs];rfl
   ·cases hs
abbrev bM:=FuncId->List AV->M->Option (AV×M)
def cH (B:aE)(P:Program)(call:bM):Prop:=
 ∀f args m r m',call f args m=some (r,m')->∀ρ w (xs:Array Value),bK ρ m w->eM B ρ m w->aT ρ args=some xs.toList->Calls P f xs w fun e w'=>∃ρ' x,e=.returned x/\aO ρ' r=some x/\aX ρ m w ρ' m' w'
noncomputable def JC (P:Program)(C:Cx)(call:bM)(o:Oper)(s:St):Option St:=
 match o.op with
 |.defer c=>match c.callee with
  |.value f=>match acF (x9 s.ts f)with
   |some (.func g,a,b)=>some {s with ts:=r7 s.ts o.dst (.lit undef),ds:=(g,a++c.args.toList.map (x9 s.ts),b)::s.ds}
   |_=>none
  |_=>none
 |_=>match U7 P C (x9 s.ts) o s.m with
  |some (.val v m')=>some {s with ts:=r7 s.ts o.dst v,m:=m'}
  |some (.skip m')=>some {s with ts:=r7 s.ts o.dst (.lit undef),m:=m'}
  |some (.enter f args)=>match call f args s.m with
   |some (v,m')=>some {s with ts:=r7 s.ts o.dst v,m:=m'}
   |none=>none
  |none=>none
theorem aiY (hC:kV P C){call:bM}(hb:cH C.B P call){s s':St}(hs:JC P C call o s=some s')(h:bK ρ s.m w)(hk:eM C.B ρ s.m w)(ht:nL ρ s a){K:Act->World->Prop}(hK:∀ρ' a' w',aX ρ s.m w ρ' s'.m w'->nL ρ' s' a'->K a' w'):o.wp P a w K Q:=by
 unfold JC at hs;unfold Oper.wp;split at hs
 ·rename_i c ha;split at hs
  case h_2=>cases hs
  rename_i f hc;split at hs
  case h_2=>cases hs
  rename_i g p q hf;injection hs with hs;subst hs
  obtain⟨A,B,hx,hA,hB⟩:=x8 hf (ht.ts.ev f)
  have hd:(execOp a.eval o).run P w=.ok (.defer {target:= .fn (.func g) B,args:=A++c.args.map a.eval}) w:=by
   unfold execOp;rw[ha];simp[resolve,hc,hx,Deferred.ofValue]
  rw[hd];refine hK ρ _ w (.refl h) ⟨?_,?_⟩
  ·exact U9 (a:={a with defers:=_::a.defers}) ht.ts o.dst (v:= .lit undef) rfl
  ·rw[tG];refine .cons ⟨A++c.args.map a.eval,B,rfl,?_,hB⟩ ht.ds;rw[aGN];exact eC hA (qS ht.ts.ev c.args)
 ·split at hs
  ·rename_i v m1 ha;injection hs with hs;subst hs
   obtain⟨ρ',w',x,h1,h2,h3⟩:=U8 hC hk h ht.ts.ev ha;rw[h1];exact hK ρ' _ w' h3 ((ht.mono h3.le).put o.dst h2 m1)
  ·rename_i m1 ha;injection hs with hs;subst hs
   obtain⟨ρ',w',h1,h3⟩:=U8 hC hk h ht.ts.ev ha;rw[h1];exact hK ρ' _ w' h3 ((ht.mono h3.le).put o.dst (v:= .lit undef) rfl m1)
  ·rename_i f args ha;split at hs
   case h_2=>cases hs
   rename_i v m1 hg;injection hs with hs;subst hs
   obtain⟨xs,h1,h2⟩:=U8 hC hk h ht.ts.ev ha;rw[h1];refine(hb f args s.m v m1 hg ρ w xs h hk h2).mono ?_;rintro e w' ⟨ρ',x,rfl,g1,g2⟩;exact hK ρ' _ w' g2 ((ht.mono g2.le).put o.dst g1 m1)
  ·cases hs
noncomputable def r8 (P:Program)(C:Cx)(call:bM)(ops:Array Oper):List Oper->St->Option St
 |[],s=>some s
 |o::rest,s=>match nM ops s.ts o with
  |some true=>match JC P C call o s with
   |some s'=>r8 P C call ops rest s'
   |none=>none
  |some false=>r8 P C call ops rest {s with ts:=r7 s.ts o.dst (.lit undef)}
  |none=>none
theorem SJ (hC:kV P C){call:bM}(ha:cH C.B P call){ops:Array Oper}{Q:Exit->Act->World->Prop}:∀(rest:List Oper) {s s':St},r8 P C call ops rest s=some s'->∀{ρ:Env} {w:World} {a:Act},bK ρ s.m w->eM C.B ρ s.m w->nL ρ s a->
  (∀ρ' a' w',aX ρ s.m w ρ' s'.m w'->nL ρ' s' a'->Q .normal a' w')->wpList P ops Q rest a w
 |[],s,s',hs,ρ,w,a,h,hk,ht,hQ=>by
  injection hs with hs;subst hs
  exact hQ ρ a w (.refl h) ht
 |o::rest,s,s',hs,ρ,w,a,h,hk,ht,hQ=>by
  unfold r8 at hs;unfold wpList;split at hs
  ·rename_i hw;rw[aD6 (uL ht.ts hw)];split at hs
   case h_2=>cases hs
   rename_i s1 h1;refine .inl (aiY hC ha h1 h hk ht fun ρ' a' w' hb hc=>?_);exact SJ hC ha rest hs hb.rel (hb.ctx hk) hc fun ρ2 a2 w2 h2 hd=>hQ ρ2 a2 w2 (hb.trans h2) hd
  ·rename_i hw;rw[aD4 (by rw[uL ht.ts hw];simp)];exact SJ hC ha rest hs (s:={s with ts:=r7 s.ts o.dst (.lit undef)}) h hk (ht.put o.dst (v:= .lit undef) rfl s.m) hQ
  ·cases hs
def D8 (P:Program)(c:Code)(Q:Exit->Act->World->Prop)(a:Act)(w:World):Prop:=
 ∀(b:Frame) (k:List Item) (cs:List Frame),∃e a' w',Q e a' w'/\Arrives P (lone (b.at a (.code c:: .inLoop c::k)) cs w) b k cs e a' w'
theorem aiZ (h:D8 P c Q a w):(Code.loop c).wp P Q a w:=by
 intro b k cs;obtain⟨e,a',w',hq,ha⟩:=h b k cs;exact⟨e,a',w',hq,.of_steps (.one step_loop) ha⟩
theorem D9 (h:c.wp P (Exit.then (fun a' w'=>D8 P c Q a' w') Q) a w):D8 P c Q a w:=by
 intro b k cs;obtain⟨e,a₁,w₁,hq,ha⟩:=h b (.inLoop c::k) cs
 cases e with
 |normal=>
  obtain⟨e₂,a₂,w₂,hc,hb⟩:=hq b k cs
  exact⟨e₂,a₂,w₂,hc,.of_steps (Steps.trans ha (.one step_inLoop)) hb⟩
 |exit id=>exact⟨_,a₁,w₁,hq,.pass (x:= .inLoop c) rfl (fun _ _=> .inl (by simp)) ha⟩
 |goto l=>exact⟨_,a₁,w₁,hq,.pass (x:= .inLoop c) rfl (fun _ _=> .inl (by simp)) ha⟩
 |ret=>exact⟨_,a₁,w₁,hq,.pass (x:= .inLoop c) rfl (fun _ _=> .inl (by simp)) ha⟩
 |panic ch=>exact⟨_,a₁,w₁,hq,.pass (x:= .inLoop c) rfl (fun _ _=> .inl (by simp)) ha⟩
 |outgrown=>exact⟨_,a₁,w₁,hq,.pass (x:= .inLoop c) rfl (fun _ _=> .inl (by simp)) ha⟩
inductive fM where
 |normal
 |exit (id:Nat)
 |ret
def fM.of:fM->Exit
 |.normal=> .normal
 |.exit i=> .exit i
 |.ret=> .ret
abbrev nB:=Array Oper->St->Option St
def tH (B:aE)(P:Program)(draw:nB):Prop:=
 ∀ops s s',draw ops s=some s'->∀id ρ w a (Q:Exit->Act->World->Prop),bK ρ s.m w->eM B ρ s.m w->nL ρ s a->(∀ρ' a' w',aX ρ s.m w ρ' s'.m w'->nL ρ' s' a'->Q .normal a' w')->(Code.region id ops true).wp P Q a w
noncomputable def pN (P:Program)(C:Cx)(call:bM)(draw:nB):Nat->Code->St->Option (fM×St)
 |0,_,_=>none
 |n+1,c,s=>
  match c with
  |.skip|.label _=>some (.normal,s)
  |.region _ ops d=>match (if d then draw ops s else r8 P C call ops ops.toList s)with
   |some s'=>some (.normal,s')
   |none=>none
  |.seq a b=>match pN P C call draw n a s with
   |some (.normal,s')=>pN P C call draw n b s'
   |r=>r
  |.cond c a b=>match x9 s.ts c with
   |.lit (.bool t)=>pN P C call draw n (if t then a else b) s
   |_=>none
  |.block id b=>match pN P C call draw n b s with
   |some (.exit i,s')=>some (if i=id then .normal else .exit i,s')
   |r=>r
  |.loop b=>match pN P C call draw n b s with
   |some (.normal,s')=>pN P C call draw n (.loop b) s'
   |r=>r
  |.scope b=>pN P C call draw n b s
  |.exit i=>some (.exit i,s)
  |.ret=>some (.ret,s)
  |_=>none
def aoF (B:aE)(P:Program)(c:Code)(s:St)(e:fM)(s':St):Prop:=
 ∀(ρ:Env) (w:World) (a:Act) (Q:Exit->Act->World->Prop),bK ρ s.m w->eM B ρ s.m w->nL ρ s a->(∀ρ' a' w',aX ρ s.m w ρ' s'.m w'->nL ρ' s' a'->Q e.of a' w')->c.wp P Q a w
theorem jG (hC:kV P C){call:bM}(ha:cH C.B P call){draw:nB}(hdraw:tH C.B P draw):∀(n:Nat) (c:Code) (s:St) (e:fM) (s':St),pN P C call draw n c s=some (e,s')->
  aoF C.B P c s e s'/\∀b,c=.loop b->∀(ρ:Env) (w:World) (a:Act) (Q:Exit->Act->World->Prop),bK ρ s.m w->eM C.B ρ s.m w->nL ρ s a->(∀ρ' a' w',aX ρ s.m w ρ' s'.m w'->nL ρ' s' a'->Q e.of a' w')->D8 P b Q a w
 |0,_,_,_,_,h=>by cases h
 |n+1,c,s,e,s',hs=>by
  unfold pN at hs;split at hs
  ·injection hs with hs;injection hs with e1 e2;subst e1;subst e2
   exact⟨fun ρ w a Q h hk ht hQ=>wp_skip (hQ ρ a w (.refl h) ht),fun b hb=>by cases hb⟩
  ·injection hs with hs;injection hs with e1 e2;subst e1;subst e2
   exact⟨fun ρ w a Q h hk ht hQ=>wp_label (hQ ρ a w (.refl h) ht),fun b hb=>by cases hb⟩
  ·rename_i id ops d;split at hs
   case h_2=>cases hs
   rename_i s1 h1;injection hs with hs;injection hs with e1 e2;subst e1;subst e2
   refine⟨fun ρ w a Q h hk ht hQ=>?_,fun b hb=>by cases hb⟩
   cases d with
   |true=>exact hdraw ops s s1 h1 id ρ w a Q h hk ht hQ
   |false=>exact wp_region_list (SJ hC ha _ h1 h hk ht hQ)
  ·rename_i x y;refine⟨fun ρ w a Q h hk ht hQ=>?_,fun b hb=>by cases hb⟩;split at hs
   ·rename_i s1 h1;refine wp_seq ((jG hC ha hdraw n x s _ s1 h1).1 ρ w a _ h hk ht fun ρ1 a1 w1 g1 g2=>?_);exact(jG hC ha hdraw n y s1 e s' hs).1 ρ1 w1 a1 Q g1.rel (g1.ctx hk) g2 fun ρ2 a2 w2 g3 g4=>hQ ρ2 a2 w2 (g1.trans g3) g4
   ·rename_i r hr;have hd:e≠ .normal:=by rintro rfl;exact hr s' (by rw[hs])
    refine wp_seq ((jG hC ha hdraw n x s e s' hs).1 ρ w a _ h hk ht fun ρ1 a1 w1 g1 g2=>?_)
    cases e with
    |normal=>exact absurd rfl hd
    |exit i=>exact hQ ρ1 a1 w1 g1 g2
    |ret=>exact hQ ρ1 a1 w1 g1 g2
  ·rename_i c x y;split at hs
   case h_2=>cases hs
   rename_i t hc;refine⟨fun ρ w a Q h hk ht hQ=>?_,fun b hb=>by cases hb⟩;have:=ht.ts.ev c;rw[hc]at this;simp only[aO]at this;injection this with this
   exact wp_cond this.symm ((jG hC ha hdraw n _ s e s' hs).1 ρ w a Q h hk ht hQ)
  ·rename_i id b;refine⟨fun ρ w a Q h hk ht hQ=>?_,fun b hb=>by cases hb⟩;split at hs
   ·rename_i i s1 h1;injection hs with hs;injection hs with e1 e2;subst e1;subst e2
    refine wp_block ((jG hC ha hdraw n b s _ s1 h1).1 ρ w a _ h hk ht fun ρ1 a1 w1 g1 g2=>?_);have:=hQ ρ1 a1 w1 g1 g2;show(if i=id then Q .normal a1 w1 else Q (.exit i) a1 w1);by_cases hi:i=id
    ·rw[aD6 hi]at this⊢;exact this
    ·rw[aD4 hi]at this⊢;exact this
   ·rename_i r hr;refine wp_block ((jG hC ha hdraw n b s e s' hs).1 ρ w a _ h hk ht fun ρ1 a1 w1 g1 g2=>?_)
    cases e with
    |normal=>exact hQ ρ1 a1 w1 g1 g2
    |exit i=>exact absurd hs (hr i s')
    |ret=>exact hQ ρ1 a1 w1 g1 g2
  ·rename_i b
   have key:∀(ρ:Env) (w:World) (a:Act) (Q:Exit->Act->World->Prop),bK ρ s.m w->eM C.B ρ s.m w->nL ρ s a->(∀ρ' a' w',aX ρ s.m w ρ' s'.m w'->nL ρ' s' a'->Q e.of a' w')->D8 P b Q a w:=by
    intro ρ w a Q h hk ht hQ;split at hs
    ·rename_i s1 h1;refine D9 ((jG hC ha hdraw n b s _ s1 h1).1 ρ w a _ h hk ht fun ρ1 a1 w1 g1 g2=>?_);exact(jG hC ha hdraw n (.loop b) s1 e s' hs).2 b rfl ρ1 w1 a1 Q g1.rel (g1.ctx hk) g2 fun ρ2 a2 w2 g3 g4=>hQ ρ2 a2 w2 (g1.trans g3) g4
    ·rename_i r hr;have hd:e≠ .normal:=by rintro rfl;exact hr s' (by rw[hs])
     refine D9 ((jG hC ha hdraw n b s e s' hs).1 ρ w a _ h hk ht fun ρ1 a1 w1 g1 g2=>?_)
     cases e with
     |normal=>exact absurd rfl hd
     |exit i=>exact hQ ρ1 a1 w1 g1 g2
     |ret=>exact hQ ρ1 a1 w1 g1 g2
   exact⟨fun ρ w a Q h hk ht hQ=>aiZ (key ρ w a Q h hk ht hQ),fun b' hb=>by injection hb with hb;subst hb;exact key⟩
  ·rename_i b;refine⟨fun ρ w a Q h hk ht hQ=>?_,fun b hb=>by cases hb⟩;refine wp_scope_straight ((jG hC ha hdraw n b s e s' hs).1 ρ w a _ h hk ht fun ρ1 a1 w1 g1 g2=>?_)
   cases e with
   |normal=>exact hQ ρ1 a1 w1 g1 g2
   |exit i=>exact hQ ρ1 a1 w1 g1 g2
   |ret=>exact hQ ρ1 a1 w1 g1 g2
  ·injection hs with hs;injection hs with e1 e2;subst e1;subst e2
   exact⟨fun ρ w a Q h hk ht hQ=>wp_exit (hQ ρ a w (.refl h) ht),fun b hb=>by cases hb⟩
  ·injection hs with hs;injection hs with e1 e2;subst e1;subst e2
   exact⟨fun ρ w a Q h hk ht hQ=>wp_ret (hQ ρ a w (.refl h) ht),fun b hb=>by cases hb⟩
  ·cases hs
end
section
variable {w':World}
variable {P:Program}{C:Cx}{ρ:Env}{m m':M}{w:World}
theorem bK.of_heap (h:bK ρ m w)(hh:w'.heap=w.heap):bK ρ m w':=
 ⟨h.nb,h.nc,fun b k hb=>(h.live b k hb).mono (.refl _) (fun _ _=>by rw[hh]),h.inj,h.small⟩
theorem aX.of_heap (h:bK ρ m w)(hh:w'.heap=w.heap)(os:w'.os=w.os)(tape:w'.tape=w.tape)(output:w'.output=w.output):aX ρ m w ρ m w':=
 ⟨.refl _,h.of_heap hh,fun _ _ _=>by rw[hh],fun _ hg=> .inr hg,by rw[hh];exact aD1 _,os,tape,output,aD1 _,fun _ _=>rfl,fun _ k hb=> .inl ⟨k,hb⟩,aD1 _,fun _ _ h=> .inl h,fun _ _ _ _ _ _ _=> .same (by rw[hh])⟩
def auI (P:Program)(dq:FuncId->Bool):Prop:=
 ∀g,dq g=true->∀(A:Array Value) (w:World),(∃fn,P.funcs[g]?=some fn/\fn.body.isSome=true/\(fn.name == "runtime.NumGoroutine")=false)/\
  CallsD P g A .returning w fun e u' w'=>u'=.returning/\(∃v,e=.returned v)/\w'.heap=w.heap/\w'.os=w.os/\w'.tape=w.tape/\w'.output=w.output
def LW (T:TypeId->Option cZ)(m:M)(ev:Operand->AV):List ResultVar->Option (List AV)
 |[]=>some []
 |.tmp t::r=>match LW T m ev r with
  |some l=>some (ev (.tmp t)::l)
  |none=>none
 |.cell a t::r=>match ev (.tmp a)with
  |.ptr b o=>match IV T m t b o,LW T m ev r with
   |some v,some l=>some (v::l)
   |_,_=>none
  |_=>none
def EA (tmps:Array Value)(r:ResultVar):Sem Value:=
 match r with
 |.tmp t=>pure (tmps.getD t undef)
 |.cell a' t=>do loadVar t (<-asAddr (tmps.getD a' undef))
theorem EB (hT:tA P C.T)(h:bK ρ m w){ev:Operand->AV}{a:Act}(ht:N2 ρ ev a):∀{rs:List ResultVar} {l:List AV},LW C.T m ev rs=some l->
  ∃ys,aT ρ l=some ys/\(rs.mapM (EA a.tmps)).run P w=.ok ys w
 |[],l,hs=>by
  injection hs with hs;subst hs
  exact⟨[],rfl,rfl⟩
 |.tmp t::r,l,hs=>by
  unfold LW at hs;split at hs
  case h_2=>cases hs
  rename_i l' hl;injection hs with hs;subst hs
  obtain⟨ys,h1,h2⟩:=EB hT h ht hl;refine⟨a.tmps.getD t undef::ys,aG.2 ⟨_,_,ht (.tmp t),h1,rfl⟩,?_⟩;have h0:(EA a.tmps (.tmp t)).run P w=.ok (a.tmps.getD t undef) w:=rfl;simp only[List.mapM_cons,Sem.run_bind,Sem.run_pure,Result.andThen_ok,h0,h2]
 |.cell x t::r,l,hs=>by
  unfold LW at hs;split at hs
  case h_2=>cases hs
  rename_i b o hx;split at hs
  case h_2=>cases hs
  rename_i v l' hv hl;injection hs with hs;subst hs
  obtain⟨ys,h1,h2⟩:=EB hT h ht hl;have he:=ht (.tmp x);rw[hx]at he;obtain⟨y',k1,e2⟩:=IW (P:=P) hT h hv he;obtain⟨g,o0,z,ll,hq,hp⟩:=iF he;have hb:a.tmps.getD x undef=.pointer (some ⟨g,o0+o,none⟩):=hp
  have e1:(loadVar t ⟨g,o0+o,none⟩).run P w=.ok y' w:=by
   rw[hp]at k1;simpa [Instr.loadAt,Instr.sureAddr]using k1
  refine⟨y'::ys,aG.2 ⟨_,_,e2,h1,rfl⟩,?_⟩;have ha:(asAddr (a.tmps.getD x undef)).run P w=.ok ⟨g,o0+o,none⟩ w:=by rw[hb];rfl
  have h0:(EA a.tmps (.cell x t)).run P w=.ok y' w:=by
   unfold EA;simp only[Sem.run_bind,ha,Result.andThen_ok,e1]
  simp only[List.mapM_cons,Sem.run_bind,h0,Sem.run_pure,Result.andThen_ok,h2]
def acL:List AV->AV
 |[v]=>v
 |l=> .tup l
theorem BU (hT:tA P C.T)(h:bK ρ m w){ev:Operand->AV}{a:Act}(ht:N2 ρ ev a){fn:Func}{l:List AV}(hs:LW C.T m ev fn.results.toList=some l):
  ∃v,(results fn a.tmps).run P w=.ok v w/\aO ρ (acL l)=some v:=by
 obtain⟨ys,h1,h2⟩:=EB hT h ht hs
 refine⟨if hh:ys.toArray.size=1 then ys.toArray[0]else .tuple ys.toArray,?_,?_⟩
 ·have hr:results fn a.tmps=(do let vs <-fn.results.mapM (EA a.tmps);pure (if h:vs.size=1 then vs[0]else .tuple vs)):=rfl;rw[hr,Array.mapM_eq_mapM_toList];simp only[Sem.run_bind,map_eq_pure_bind,Sem.run_pure,Result.andThen_ok,h2]
 ·have hl:=bN h1;unfold acL;split
  ·rename_i v;obtain⟨p,q,k1,k2,rfl⟩:=aG.1 h1;rw[aT]at k2;injection k2 with k2;subst k2
   simpa using k1
  ·rename_i ha
   have:¬ys.toArray.size=1:=by
    intro hh;rw[aEX,hl]at hh;obtain⟨v,rfl⟩:=List.length_eq_one_iff.1 hh;exact ha v rfl
   rw[dif_neg this];unfold aO;rw[h1]
def ai0 (dq:FuncId->Bool):List (FuncId×List AV×List AV)->Bool
 |[]=>true
 |[d]=>dq d.1
 |_=>false
noncomputable def EC (P:Program)(C:Cx)(dq:FuncId->Bool)(draw:bM->nB)(orc:bM):Nat->bM
 |0,_,_,_=>none
 |n+1,f,args,m=>
  match orc f args m with
  |some r=>some r
  |none=>match C.F f with
   |none=>none
   |some fn=>match fn.body with
    |none=>none
    |some c=>
     match (if args.length<=fn.ntmps/\fn.ntmps<1048576 then pN P C (EC P C dq draw orc n) (draw (EC P C dq draw orc n)) 1000000 c {ts:=N8 fn.ntmps args,ds:=[],m:=m}else none)with
     |some (e,s)=>
      match e with
      |.exit _=>none
      |_=>
       if ai0 dq s.ds then
        match LW C.T s.m (x9 s.ts) fn.results.toList with
        |some l=>some (acL l,s.m)
        |none=>none
       else none
     |none=>none
theorem OA (hC:kV P C){dq:FuncId->Bool}(hj:auI P dq){draw:bM->nB}(hdraw:∀call,cH C.B P call->tH C.B P (draw call)){orc:bM}(hg:cH C.B P orc):∀n,cH C.B P (EC P C dq draw orc n)
 |0=>fun f args m r m' h=>by cases h
 |n+1=>by
  intro f args m r m' hs ρ w xs h hk hx;unfold EC at hs;split at hs
  ·rename_i q hq;injection hs with hs;subst hs
   exact hg f args m r m' hq ρ w xs h hk hx
  split at hs
  ·cases hs
  rename_i fn hp;split at hs
  ·cases hs
  rename_i c hc;split at hs
  case h_2=>cases hs
  rename_i e s hex;split at hex
  case isFalse=>cases hex
  rename_i ha;obtain⟨hr,hI⟩:=hC.hF f fn hp;have ih:=OA hC hj hdraw hg n;have ht:=(jG hC ih (hdraw _ ih) _ _ _ _ _ hex).1;have hv:nL ρ {ts:=N8 fn.ntmps args,ds:=[],m:=m} {tmps:=xs++Array.replicate (fn.ntmps-xs.size) undef,defers:=[]}:=⟨YJ hx ha.1 ha.2,.nil⟩
  have main:∀l,LW C.T s.m (x9 s.ts) fn.results.toList=some l->ai0 dq s.ds=true->∀ρ' a' w',aX ρ m w ρ' s.m w'->nL ρ' s a'->
    Leaves P fn a'.tmps (fun e w'=>∃ρ' x,e=.returned x/\aO ρ' (acL l)=some x/\aX ρ m w ρ' s.m w') a'.defers .returning w':=by
   intro l hl hb ρ' a' w' g1 g2
   obtain⟨v,r1,r2⟩:=BU (P:=P) (a:=a') hC.hT g1.rel g2.ts.ev hl
   have hi:=g2.ds
   have hn:=g2.ts
   obtain⟨ta,da⟩:=a'
   simp only at r1 hi hn⊢
   unfold ai0 at hb
   split at hb
   ·rename_i hd;rw[hd]at hi
    cases hi;exact⟨v,r1,ρ',v,rfl,r2,g1⟩
   ·rename_i d hd;rw[hd]at hi
    cases hi with
    |cons hz hD=>
     cases hD
     obtain⟨A,B,rfl,hA,hB⟩:=hz
     obtain⟨⟨fd,d1,d2,d3⟩,d4⟩:=hj d.1 hb (A++B) w'
     refine⟨by simp,.func d.1,B,d.1,A++B,rfl,?_,?_⟩
     ·have hE:fd.body.isNone=false:=by cases hh:fd.body<;>simp_all
      show(callFunc d.1 (A++B)).run P w'=_;unfold callFunc;simp only[Sem.run_bind,program,Sem.run,Result.andThen_ok];rw[d1];simp only[d3,hE];rfl
     ·intro c0 ca hu;obtain⟨e,u',w'',fr,⟨rfl,⟨v0,rfl⟩,q1,q2,q3,q4⟩,hf,hk,hG⟩:=d4 c0 ca hu;refine⟨_,_,_,fr,?_,hf,hk,hG⟩;have ho:=aX.of_heap g1.rel q1 q2 q3 q4;obtain⟨v2,r3,r4⟩:=BU (P:=P) (a:=⟨ta,[]⟩) hC.hT ho.rel (fL.ev (a:=⟨ta,[]⟩) hn) hl;exact⟨v2,r3,ρ',v2,rfl,r4,g1.trans ho⟩
   ·cases hb
  split at hs
  ·cases hs
  ·rename_i hH;split at hs
   case isFalse=>cases hs
   rename_i hb;split at hs
   case h_2=>cases hs
   rename_i l hl;injection hs with hs;injection hs with e1 e2;subst e1;subst e2
   refine calls_of_wp_defers hr hc (ht ρ w _ _ h hk hv fun ρ' a' w' g1 g2=>?_)
   cases e with
   |normal=>exact main l hl hb ρ' a' w' g1 g2
   |exit i=>exact absurd rfl (hH i)
   |ret=>exact main l hl hb ρ' a' w' g1 g2
end
section
variable {P:Program}{C:Cx}
section
variable (P C)(ev:Operand->AV)(m:M)
noncomputable def anG (x:Operand):Option fY:=some (.val (ev x) m)
noncomputable def auJ (c a b:Operand):Option fY:=match ev c with
 |.lit (.bool t)=>some (.val (if t then ev a else ev b) m)
 |_=>none
noncomputable def auK (t:TypeId)(a:Operand):Option fY:=match ev a with
 |.ptr b o=>gX m (IV C.T m t b o)
 |.elp n k=>gX m (LU C t n k)
 |_=>none
noncomputable def aoG (t:TypeId)(a x:Operand):Option fY:=match ev a with
 |.ptr b o=>I9 (K9 C.T m t b o (ev x))
 |_=>none
noncomputable def aAR (x:Operand):Option fY:=if zZ (ev x)then some (.val (ev x) m)else none
noncomputable def aoH (t:TypeId)(parts:Array (Nat×Operand)):Option fY:=gX m (LB C.T t (parts.toList.map fun p=>(p.1,ev p.2)))
noncomputable def OB (t:TypeId)(len:Nat)(parts:Array (Nat×Operand)):Option fY:=mD (pM C.T m t len (parts.toList.map fun p=>(p.1,ev p.2)))
noncomputable def aAS (op:BinOp)(t:TypeId)(x y:Operand):Option fY:=gX m (aiW P C op t x y (ev x) (ev y))
noncomputable def kUn (op:UnOp)(x:Operand):Option fY:=gX m (unA P C op (ev x))
noncomputable def auL (s d:TypeId)(x:Operand):Option fY:=gX m (U6 P C m s d (ev x))
noncomputable def auM (f:Fn)(a b:Array Operand):Option fY:=some (.val (.fn f (a.toList.map ev) (b.toList.map ev)) m)
noncomputable def aoI (t:TypeId)(x:Operand)(lo hi mx:Option Operand):Option fY:=gX m (uK P C m t (ev x) (LV ev lo) (LV ev hi) (LV ev mx))
noncomputable def aoJ (t:TypeId)(x i:Operand):Option fY:=match fX (ev x),fX (ev i)with
 |some a,some k=>match cC P (Instr.index t a k)with
  |some v=>some (.val (.lit v) m)
  |none=>none
 |_,_=>none
noncomputable def auN (ty:TypeId)(c:Call):Option fY:=match c.callee with
 |.builtin b=>mD (tE P C m b c.argTypes ty (c.args.toList.map ev))
 |.value f=>I8 C m (ev f) (c.args.toList.map ev)
 |.invoke r name=>I8 C m (.fn (.method name) [] []) (ev r::c.args.toList.map ev)
noncomputable def opK (o:Oper):Option fY:=
 match o.op with
 |.move x=>anG ev m x
 |.assign x=>anG ev m x
 |.pick c a b=>auJ ev m c a b
 |.alloc t=>mD (LA C.T m t)
 |.box t x=>mD (aiN m t (ev x))
 |.build t parts=>aoH C ev m t parts
 |.buildSlice t len parts=>OB C ev m t len parts
 |.load t a=>auK C ev m t a
 |.store t a x=>aoG C ev m t a x
 |.nilCheck x=>aAR ev m x
 |.binOp op t x y _=>aAS P C ev m op t x y
 |.unOp op _ x=>kUn P C ev m op x
 |.convert s d x=>auL P C ev m s d x
 |.makeInterface t x=>gX m (rV C.T t (ev x))
 |.makeFunc f a b=>auM ev m f a b
 |.makeMap _ r=>mD (x7 m (LV ev r))
 |.makeSlice t l c=>mD (rS C.T m t (ev l) (ev c))
 |.slice t x lo hi mx=>aoI P C ev m t x lo hi mx
 |.fieldAddr s x f=>gX m (rT C.T s (ev x) f)
 |.field t x f=>gX m (LH C.T t (ev x) f)
 |.indexAddr t x i=>gX m (U5 C t (ev x) (ev i))
 |.index t x i=>aoJ P ev m t x i
 |.lookup t x i ok=>gX m (C7 C.T m t (ev x) (ev i) ok)
 |.mapUpdate t mp k x=>I9 (rY C.T m t (ev mp) (ev k) (ev x))
 |.insert t mp k x=>I9 (rY C.T m t (ev mp) (ev k) (ev x))
 |.range t x=>mD (LS C.T m t (ev x))
 |.next it s=>mD (U3 m (ev it) s)
 |.typeAssert x _ asserted ok=>gX m (C6 C.T (ev x) asserted ok)
 |.extract x i=>gX m (xZ (ev x) i)
 |.call c=>auN P C ev m o.type c
 |_=>none
theorem ED (o:Oper):opK P C ev m o=U7 P C ev o m:=by
 unfold opK U7
 cases o.op<;>rfl
end
noncomputable def aoK (call:bM)(d:Option Tmp)(s:St)(n:Option fY):Option St:=
 match n with
 |some (.val v m')=>some {s with ts:=r7 s.ts d v,m:=m'}
 |some (.skip m')=>some {s with ts:=r7 s.ts d (.lit undef),m:=m'}
 |some (.enter f args)=>match call f args s.m with
  |some (v,m')=>some {s with ts:=r7 s.ts d v,m:=m'}
  |none=>none
 |none=>none
noncomputable def aoL (o:Oper)(c:Call)(s:St):Option St:=
 match c.callee with
 |.value f=>match acF (x9 s.ts f)with
  |some (.func g,a,b)=>some {s with ts:=r7 s.ts o.dst (.lit undef),ds:=(g,a++c.args.toList.map (x9 s.ts),b)::s.ds}
  |_=>none
 |_=>none
noncomputable def VA (P:Program)(C:Cx)(call:bM)(o:Oper)(s:St):Option St:=
 match o.op with
 |.defer c=>aoL o c s
 |_=>aoK call o.dst s (opK P C (x9 s.ts) s.m o)
theorem acM (call:bM)(o:Oper)(s:St):VA P C call o s=JC P C call o s:=by
 unfold VA JC;rw[ED]
 cases hop:o.op<;>rfl
noncomputable def tI (P:Program)(C:Cx)(call:bM)(ops:Array Oper)(l:List Oper):St->Option St:=
 List.rec (motive:=fun _=>St->Option St) (fun s=>some s)
  (fun o _ ih s=>Option.rec (motive:=fun _=>Option St) none (fun b=>Bool.rec (motive:=fun _=>Option St) (ih {s with ts:=r7 s.ts o.dst (.lit undef)}) (Option.rec (motive:=fun _=>Option St) none ih (VA P C call o s)) b) (nM ops s.ts o)) l
theorem tJ (call:bM)(ops:Array Oper):∀(l:List Oper) (s:St),tI P C call ops l s=r8 P C call ops l s
 |[],s=>rfl
 |o::l,s=>by
  unfold r8;show(Option.rec (motive:=fun _=>Option St) none (fun b=>Bool.rec (motive:=fun _=>Option St) (tI P C call ops l {s with ts:=r7 s.ts o.dst (.lit undef)}) (Option.rec (motive:=fun _=>Option St) none (tI P C call ops l) (VA P C call o s)) b) (nM ops s.ts o))=_;rw[acM]
  cases nM ops s.ts o with
  |none=>rfl
  |some b=>
   cases b with
   |false=>exact tJ call ops l _
   |true=>
    simp only
    cases JC P C call o s with
    |none=>rfl
    |some s'=>exact tJ call ops l s'
noncomputable def auO (r:Option (fM×St))(f:St->Option (fM×St)):Option (fM×St):=
 match r with
 |some (.normal,s')=>f s'
 |r=>r
noncomputable def aoM (id:Nat)(r:Option (fM×St)):Option (fM×St):=
 match r with
 |some (.exit i,s')=>some (if i=id then .normal else .exit i,s')
 |r=>r
noncomputable def auP (f:Code->St->Option (fM×St))(c:AV)(a b:Code)(s:St):Option (fM×St):=
 match c with
 |.lit (.bool t)=>f (if t then a else b) s
 |_=>none
noncomputable def auQ (r:Option St):Option (fM×St):=
 match r with
 |some s'=>some (.normal,s')
 |none=>none
noncomputable def ai1 (P:Program)(C:Cx)(call:bM)(draw:nB)(ops:Array Oper)(d:Bool)(s:St):Option (fM×St):=
 auQ (Bool.rec (motive:=fun _=>Option St) (tI P C call ops ops.toList s) (draw ops s) d)
noncomputable def acN (P:Program)(C:Cx)(call:bM)(draw:nB)(f:Code->St->Option (fM×St))(c:Code)(s:St):Option (fM×St):=
 match c with
 |.skip=>some (.normal,s)
 |.label _=>some (.normal,s)
 |.region _ ops d=>ai1 P C call draw ops d s
 |.seq a b=>auO (f a s) (f b)
 |.cond c a b=>auP f (x9 s.ts c) a b s
 |.block id b=>aoM id (f b s)
 |.loop b=>auO (f b s) (f (.loop b))
 |.scope b=>f b s
 |.exit i=>some (.exit i,s)
 |.ret=>some (.ret,s)
 |_=>none
noncomputable def wM (P:Program)(C:Cx)(call:bM)(draw:nB)(n:Nat):Code->St->Option (fM×St):=
 Nat.rec (motive:=fun _=>Code->St->Option (fM×St)) (fun _ _=>none) (fun _ ih=>acN P C call draw ih) n
theorem uM (call:bM)(draw:nB):∀(n:Nat) (c:Code) (s:St),wM P C call draw n c s=pN P C call draw n c s
 |0,_,_=>rfl
 |n+1,c,s=>by
  have ih:=uM call draw n;show acN P C call draw (wM P C call draw n) c s=_;have hf:wM P C call draw n=pN P C call draw n:=by funext c s;exact ih c s
  rw[hf]
  conv=>rhs;unfold pN
  generalize pN P C call draw n=f;unfold acN
  cases c with
  |region id ops d=>
   cases d with
   |true=>rfl
   |false=>
    show auQ (tI P C call ops ops.toList s)=_
    rw[tJ]
    rfl
  |_=>rfl
noncomputable def aAT (C:Cx)(dq:FuncId->Bool)(fn:Func)(r:Option (fM×St)):Option (AV×M):=
 match r with
 |some (e,s)=>
  match e with
  |.exit _=>none
  |_=>
   if ai0 dq s.ds then
    match LW C.T s.m (x9 s.ts) fn.results.toList with
    |some l=>some (acL l,s.m)
    |none=>none
   else none
 |none=>none
noncomputable def acO (P:Program)(C:Cx)(dq:FuncId->Bool)(draw:bM->nB)(call:bM)(fn:Func)(args:List AV)(m:M):Option (AV×M):=
 match fn.body with
 |none=>none
 |some c=>aAT C dq fn (if args.length<=fn.ntmps/\fn.ntmps<1048576 then wM P C call (draw call) 1000000 c {ts:=N8 fn.ntmps args,ds:=[],m:=m}else none)
noncomputable def kGo (P:Program)(C:Cx)(dq:FuncId->Bool)(draw:bM->nB)(orc:bM)(call:bM):bM:=fun f args m=>
 Option.rec (motive:=fun _=>Option (AV×M)) (Option.rec (motive:=fun _=>Option (AV×M)) none (fun fn=>acO P C dq draw call fn args m) (C.F f)) some (orc f args m)
noncomputable def acP (P:Program)(C:Cx)(dq:FuncId->Bool)(draw:bM->nB)(orc:bM)(n:Nat):bM:=
 Nat.rec (motive:=fun _=>bM) (fun _ _ _=>none) (fun _ ih=>kGo P C dq draw orc ih) n
theorem OC (dq:FuncId->Bool)(draw:bM->nB)(orc:bM):∀(n:Nat),acP P C dq draw orc n=EC P C dq draw orc n
 |0=>rfl
 |n+1=>by
  have ih:=OC dq draw orc n;show kGo P C dq draw orc (acP P C dq draw orc n)=_;rw[ih]
  funext f args m;unfold kGo EC
  cases orc f args m with
  |some r=>rfl
  |none=>
   simp only
   cases C.F f with
   |none=>rfl
   |some fn=>
    show acO P C dq draw (EC P C dq draw orc n) fn args m=_
    unfold acO
    cases hb:fn.body with
    |none=>simp only[hb]
    |some c=>
     simp only[hb]
     rw[uM]
     rfl
end
end Go.Sym
