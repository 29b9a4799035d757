/- The claim TopSteps, part 2 of 46: SymU, SymV, SymAC, SymW, SymY, SymZ, SymAA, SymAB, SymAD, SymAE, SymAF, SymAG, ECx, EAlO -/
import Derived.Test.YteiomfgehlojeaaGreatDoorK01
import Derived.Lib.Bytealg
import Derived.Laws.Externs
import Derived.Test.YteiomfgehlojeaaGreatDoorProg
import Derived.KernelRfl
import Derived.Recover
set_option linter.unusedVariables false
set_option linter.unusedSimpArgs false
section
namespace Go.Sym
open Go
variable {P:Program} {C:Cx}
def reach (ops:Array Oper):Nat→Oper→Nat→Bool
  | 0,_,_=>false
  | f + 1,o,j=>(afterOf o).contains j || (afterOf o).any fun m=>match ops[m]? with
    | some om=>reach ops f om j
    | none=>false
theorem reach_listed {ops:Array Oper} {L:Array Bool} (hc:∀ (i:Nat) (o:Oper),ops[i]? = some o→L.getD i false = true→∀ j ∈ afterOf o,L.getD j false = true):∀ (f:Nat) (o:Oper) (j:Nat),reach ops f o j = true→(∀ m ∈ afterOf o,L.getD m false = true)→L.getD j false = true
  | 0,_,_,h,_=>by cases h
  | f + 1,o,j,h,hr=>by
    unfold reach at h
    rw [Bool.or_eq_true] at h
    rcases h with h | h
    · exact hr j (by simpa using h)
    · obtain ⟨m,hm,h⟩:=List.any_eq_true.1 h
      cases ho:ops[m]? with
      | none=>rw [ho] at h; cases h
      | some om =>
        rw [ho] at h
        exact reach_listed hc f om j h (hc m om ho (hr m hm))
def winK (ops:Array Oper) (i:Nat) (o:Oper) (k:Nat):Bool :=
  allC (fun j c' o'=>stillOp o'.op || ((!(reach ops 8 o j) || decide (c' < k)) && (!(afterOf o').contains i || decide (k ≤ c')))) ops.toList 0 0
def winsGo (ops:Array Oper) (K:Nat):List Oper→Nat→Nat→List (Nat × Nat)
  | [],_,_=>[]
  | o :: l,i,c =>
    if stillOp o.op then
      (if indepOp o.op || isFl o.op then [] else ((List.range (K + 1)).filter (fun k=>!(Nat.beq k c) && winK ops i o k)).map (fun k=>(i,k))) ++ winsGo ops K l (i + 1) c
    else winsGo ops K l (i + 1) (c + 1)
theorem winsGo_mem {ops:Array Oper} {K:Nat}:∀ {l:List Oper} {i c j:Nat} {o:Oper},l[j]? = some o→stillOp o.op = true→(indepOp o.op || isFl o.op) = false→∀ {k:Nat},k ≤ K→k ≠ c + cntL (l.take j)→winK ops (i + j) o k = true→(i + j,k) ∈ winsGo ops K l i c
  | [],i,c,j,o,h,_,_,k,_,_,_=>by simp at h
  | x :: l,i,c,0,o,h,hq,hi,k,hk,hc,hw=>by
    simp at h; subst h
    unfold winsGo
    rw [if_pos hq,if_neg (by rw [hi]; simp)]
    refine List.mem_append_left _ (List.mem_map.2 ⟨k,List.mem_filter.2 ⟨List.mem_range.2 (by omega),?_⟩,rfl⟩)
    have hb:Nat.beq k c = false:=beq_false (by simpa [cntL] using hc)
    rw [hb,Bool.and_eq_true]
    exact ⟨rfl,hw⟩
  | x :: l,i,c,j + 1,o,h,hq,hi,k,hk,hc,hw=>by
    unfold winsGo
    rw [List.take_succ_cons,cntL] at hc
    have h':l[j]? = some o:=by simpa using h
    rw [show i + (j + 1) = i + 1 + j by omega] at hw ⊢
    split
    · rename_i hx
      rw [if_pos hx] at hc
      exact List.mem_append_right _ (winsGo_mem h' hq hi hk hc hw)
    · rename_i hx
      rw [if_neg hx] at hc
      exact winsGo_mem h' hq hi hk (by omega) hw
def wins (ops:Array Oper):List (Nat × Nat):=winsGo ops (cntL ops.toList) ops.toList 0 0
noncomputable def chkA (P:Program) (C:Cx) (call:CallT) (ops:Array Oper) (t0:Tr AV) (pl:List (Option Tmp × AV)) (Ms:List M) (q:Nat × Nat):Bool :=
  match ops[q.1]?,Ms[q.2]?,pl[q.1]? with
  | some o,some mk,some p=>match oneA P C call ops t0 pl o mk with
    | some (v,_)=>avEq v p.2
    | none=>false
  | _,_,_=>false
noncomputable def finT:List (Option Tmp × AV)→Tr AV→Tr AV
  | [],t=>t
  | p :: l,t=>finT l (putT t p.1 p.2)
theorem finT_get:∀ (l:List (Option Tmp × AV)) (t:Tr AV) (d:Nat),
    (∃ (j:Nat) (v:AV),l[j]? = some (some d,v)∧getR (finT l t) d = (getR t d).map (fun _=>v))∨((∀ (j:Nat) (v:AV),l[j]? ≠ some (some d,v))∧getR (finT l t) d = getR t d)
  | [],t,d => .inr ⟨(fun j v=>by simp),rfl⟩
  | p :: l,t,d=>by
    unfold finT
    rcases finT_get l (putT t p.1 p.2) d with ⟨j,v,h1,h2⟩ | ⟨h1,h2⟩
    · refine .inl ⟨j + 1,v,by simpa using h1,?_⟩
      rw [h2,get_putT]
      split
      · cases getR t d <;> rfl
      · rfl
    · rw [get_putT] at h2
      by_cases hd:p.1 = some d
      · rw [if_pos hd] at h2
        exact .inl ⟨0,p.2,by rw [← hd]; rfl,h2⟩
      · rw [if_neg hd] at h2
        refine .inr ⟨fun j v=>?_,h2⟩
        cases j with
        | zero=>simp; intro e; rw [e] at hd; exact absurd rfl hd
        | succ j=>simpa using h1 j v
def fsOf (FT:List Flt) (L:Array Bool) (k:Nat):List (Nat × Blk):=(FT.filter fun f=>L.getD f.op false && decide (k ≤ f.stage)).map fun f=>(f.id,f.blk L)
theorem fsOf_mem {FT:List Flt} {L:Array Bool} {k b:Nat} {x:Blk}:(b,x) ∈ fsOf FT L k↔∃ f ∈ FT,L.getD f.op false = true∧k ≤ f.stage∧f.id = b∧f.blk L = x:=by
  unfold fsOf
  rw [List.mem_map]
  constructor
  · rintro ⟨f,hf,he⟩
    obtain ⟨h1,h2⟩:=List.mem_filter.1 hf
    simp only [Bool.and_eq_true,decide_eq_true_eq] at h2
    injection he with e1 e2
    exact ⟨f,h1,h2.1,h2.2,e1,e2⟩
  · rintro ⟨f,h1,h2,h3,e1,e2⟩
    exact ⟨f,List.mem_filter.2 ⟨h1,by rw [h2,decide_eq_true h3]; rfl⟩,by rw [e1,e2]⟩
theorem absF_mem {FT:List Flt} {c b:Nat} {x:Blk}:(b,x) ∈ absF FT c↔∃ f ∈ FT,f.stage = c∧f.id = b∧f.blk #[] = x:=by
  unfold absF
  rw [List.mem_map]
  constructor
  · rintro ⟨f,hf,he⟩
    obtain ⟨h1,h2⟩:=List.mem_filter.1 hf
    injection he with e1 e2
    exact ⟨f,h1,Nat.eq_of_beq_eq_true h2,e1,e2⟩
  · rintro ⟨f,h1,h2,e1,e2⟩
    exact ⟨f,List.mem_filter.2 ⟨h1,by rw [h2]; exact Nat.beq_refl _⟩,by rw [e1,e2]⟩
noncomputable def entOf (T:TypeId→Option TInf) (ops:Array Oper) (t0:Tr AV) (pl:List (Option Tmp × AV)) (id i:Nat):Option (ByteArray × AV) :=
  match ops[i]? with
  | some o=>match insOf T (evT (tsRef pl (afterOf o) t0)) o with
    | some q=>if Nat.beq q.1 id then some q.2 else none
    | none=>none
  | none=>none
noncomputable def ents (T:TypeId→Option TInf) (ops:Array Oper) (t0:Tr AV) (pl:List (Option Tmp × AV)) (id:Nat) (p:Nat→Bool) (n:Nat):List (ByteArray × AV) :=
  (List.range n).filterMap fun i=>if p i then entOf T ops t0 pl id i else none
noncomputable def fillF (T:TypeId→Option TInf) (ops:Array Oper) (t0:Tr AV) (pl:List (Option Tmp × AV)) (f:Flt):Flt :=
  if Nat.beq f.stage (cntL ops.toList + 1) then { f with blk:=fun L => .map (ents T ops t0 pl f.id (fun i=>L.getD i false) ops.size) } else f
def keysOK:List (ByteArray × AV)→Bool
  | []=>true
  | e :: es=>(findS e.1 es).isNone && keysOK es
theorem keysOK_nodup:∀ {es:List (ByteArray × AV)},keysOK es = true→(es.map (·.1)).Nodup
  | [],_=>List.nodup_nil
  | e :: es,h=>by
    unfold keysOK at h
    rw [Bool.and_eq_true] at h
    rw [List.map_cons,List.nodup_cons]
    refine ⟨fun hm=>?_,keysOK_nodup h.2⟩
    obtain ⟨a,ha,hk⟩:=List.mem_map.1 hm
    have hn:findS e.1 es = none:=by simpa using h.1
    exact findS_none hn a ha hk
theorem findS_none_of {k:ByteArray}:∀ {es:List (ByteArray × AV)},k ∉ es.map (·.1)→findS k es = none
  | [],_=>rfl
  | e :: es,h=>by
    rw [List.map_cons,List.mem_cons,not_or] at h
    unfold findS
    rw [if_neg (fun hh=>h.1 (bytes_ext hh).symm)]
    exact findS_none_of h.2
noncomputable def insOK (T:TypeId→Option TInf) (ops:Array Oper) (t0:Tr AV) (pl:List (Option Tmp × AV)) (FT:List Flt) (i:Nat):Bool :=
  match ops[i]? with
  | some o=>!isIns o.op || (match insOf T (evT (tsRef pl (afterOf o) t0)) o with
    | some q=>FT.any fun f=>Nat.beq f.id q.1 && (Nat.beq f.stage (cntL ops.toList + 1) && (afterOf o).contains f.op)
    | none=>false)
  | none=>true
noncomputable def mapsOK (T:TypeId→Option TInf) (ops:Array Oper) (t0:Tr AV) (pl:List (Option Tmp × AV)) (FT:List Flt):Bool :=
  (List.range ops.size).all (insOK T ops t0 pl FT) && FT.all fun f=>!Nat.beq f.stage (cntL ops.toList + 1) || keysOK (ents T ops t0 pl f.id (fun _=>true) ops.size)
noncomputable def mapsF (T:TypeId→Option TInf) (ops:Array Oper) (t0:Tr AV) (pl:List (Option Tmp × AV)) (FT:List Flt):List (Nat × Blk) :=
  (FT.filter fun f=>Nat.beq f.stage (cntL ops.toList + 1)).map fun f=>(f.id, .map (ents T ops t0 pl f.id (fun _=>true) ops.size))
noncomputable def drawEnd (P:Program) (C:Cx) (call:CallT) (ops:Array Oper) (FT:List Flt) (s:St) (r:Option (List (Option Tmp × AV) × List M)):Option St :=
  match r with
  | some (pl,Ms)=>if (wins ops).all (chkA P C call ops s.ts pl Ms) && mapsOK C.T ops s.ts pl FT then
      match Ms[cntL ops.toList]? with
      | some mK=>some { s with ts:=finT pl s.ts,m:=addF mK (absF FT (cntL ops.toList) ++ mapsF C.T ops s.ts pl FT) }
      | none=>none
    else none
  | none=>none
def isCells:Blk→Bool
  | .cells ..=>true
  | _=>false
noncomputable def drawGo (P:Program) (C:Cx) (call:CallT) (ops:Array Oper) (FT:List Flt) (s:St):Option St :=
  if s.m.nb + FT.length ≤ 1000000∧FT.all (fun f=>Nat.beq f.stage (cntL ops.toList + 1) || isCells (f.blk #[])) = true then
    drawEnd P C call ops FT s (planGo P C call ops s.ts FT ops.toList 0 0 [] [{ s.m with nb:=s.m.nb + FT.length }] { s.m with nb:=s.m.nb + FT.length })
  else none
noncomputable def drawA (P:Program) (C:Cx) (call:CallT):DrawT:=fun ops s =>
  if staticOK ops then drawGo P C call ops (fltsGo C.T ops.toList ops.toList 0 s.m.nb) s else none
structure Inv (ops:Array Oper) (FT:List Flt) (pl:List (Option Tmp × AV)) (Ms:List M) (ρ0:Env) (m0:M) (a0:Act) (w0:World) (L:Array Bool) (a:Act) (w:World) (ρ:Env) (k:Nat) (mk:M):Prop where
  size:L.size = ops.size
  closed:∀ (i:Nat) (o:Oper),ops[i]? = some o→L.getD i false = true→∀ j ∈ afterOf o,L.getD j false = true
  eff:∀ (i:Nat) (o:Oper),ops[i]? = some o→stillOp o.op = false→(L.getD i false = true↔cnt ops i < k)
  stage:Ms[k]? = some mk
  step:StepR ρ0 m0 w0 ρ (addF mk (fsOf FT L k)) w
  un:∀ f ∈ FT,L.getD f.op false = false→ρ.blk f.id = none
  free:∀ f ∈ FT,k ≤ f.stage→mk.H.get f.id = none
  bnd:∀ f ∈ FT,f.id < mk.nb
  old:∀ d:Nat,(∀ (i:Nat) (o:Oper),ops[i]? = some o→L.getD i false = true→o.dst ≠ some d)→a.tmps[d]? = a0.tmps[d]?
  new:∀ (i:Nat) (o:Oper) (d:Nat) v,ops[i]? = some o→L.getD i false = true→o.dst = some d→pl[i]? = some (some d,v)→d < a0.tmps.size→∃ y,a.tmps[d]? = some y∧gam ρ v = some y
  tsz:a.tmps.size = a0.tmps.size
  defs:a.defers = a0.defers
structure FTok (C:Cx) (ops:Array Oper) (t0:Tr AV) (pl:List (Option Tmp × AV)) (m0:M) (FT:List Flt):Prop where
  ge:∀ f ∈ FT,m0.nb ≤ f.id
  le:∀ f ∈ FT,f.id ≤ 1000000
  uid:∀ f ∈ FT,∀ g ∈ FT,f.id = g.id→f = g
  uop:∀ f ∈ FT,∀ g ∈ FT,f.op = g.op→f = g
  op:∀ f ∈ FT,(∃ o t i,ops[f.op]? = some o∧o.op = .alloc t∧C.T t = some i∧f.stage ≤ cntL ops.toList∧∀ L,f.blk L = .cells t (i.zero.map .lit) true) ∨
    (∃ o t,ops[f.op]? = some o∧o.op = .makeMap t none∧f.stage = cntL ops.toList + 1∧∀ L,f.blk L = .map (ents C.T ops t0 pl f.id (fun i=>L.getD i false) ops.size))
  stage:∀ f ∈ FT,∀ (j:Nat) (o:Oper),ops[j]? = some o→stillOp o.op = false→cnt ops j = f.stage→f.op ∈ afterOf o
  ins:∀ (i:Nat) (o:Oper),ops[i]? = some o→∀ q,insOf C.T (evT (tsRef pl (afterOf o) t0)) o = some q→∃ f ∈ FT,f.id = q.1∧f.stage = cntL ops.toList + 1∧f.op ∈ afterOf o
  keys:∀ f ∈ FT,f.stage = cntL ops.toList + 1→keysOK (ents C.T ops t0 pl f.id (fun _=>true) ops.size) = true
theorem filterMap_same {α β:Type} {f g:α→Option β}:∀ {l:List α},(∀ x ∈ l,f x = g x)→l.filterMap f = l.filterMap g
  | [],_=>rfl
  | x :: l,h=>by
    rw [List.filterMap_cons,List.filterMap_cons,h x List.mem_cons_self,filterMap_same (fun y hy=>h y (List.mem_cons_of_mem _ hy))]
theorem ents_add {T:TypeId→Option TInf} {ops:Array Oper} {t0:Tr AV} {pl:List (Option Tmp × AV)} {id i:Nat} {p p':Nat→Bool} (hi:p' i = true) (hn:p i = false) (ho:∀ j,j ≠ i→p' j = p j) {e:ByteArray × AV} (he:entOf T ops t0 pl id i = some e) :
    ∀ n,i < n→(ents T ops t0 pl id p n ++ [e]).Perm (ents T ops t0 pl id p' n)
  | 0,h=>by omega
  | n + 1,h=>by
    unfold ents
    rw [List.range_succ,List.filterMap_append,List.filterMap_append]
    by_cases hin:i = n
    · subst hin
      have hsame:∀ (l:List Nat),(∀ j ∈ l,j < i)→l.filterMap (fun j=>if p j then entOf T ops t0 pl id j else none) = l.filterMap (fun j=>if p' j then entOf T ops t0 pl id j else none):=by
        intro l hl
        refine filterMap_same fun j hj=>?_
        have:=hl j hj
        rw [ho j (by omega)]
      rw [hsame _ (fun j hj=>List.mem_range.1 hj)]
      simp [hi,hn,he]
    · have ih:=ents_add (T:=T) (ops:=ops) (t0:=t0) (pl:=pl) (id:=id) hi hn ho he n (by omega)
      unfold ents at ih
      have hone:List.filterMap (fun i=>if p' i = true then entOf T ops t0 pl id i else none) [n] = List.filterMap (fun i=>if p i = true then entOf T ops t0 pl id i else none) [n]:=by
        refine filterMap_same fun x hx=>?_
        rw [List.mem_singleton.1 hx,ho n (fun e=>hin e.symm)]
      rw [hone]
      refine List.Perm.trans ?_ (ih.append_right _)
      rw [List.append_assoc,List.append_assoc]
      exact List.Perm.append_left _ List.perm_append_comm
theorem ents_same {T:TypeId→Option TInf} {ops:Array Oper} {t0:Tr AV} {pl:List (Option Tmp × AV)} {id i:Nat} {p p':Nat→Bool} (ho:∀ j,j ≠ i→p' j = p j) (he:entOf T ops t0 pl id i = none) (n:Nat):ents T ops t0 pl id p n = ents T ops t0 pl id p' n:=by
  unfold ents
  refine filterMap_same fun j hj=>?_
  by_cases hji:j = i
  · subst hji; rw [he]; simp
  · rw [ho j hji]
theorem ents_nil {T:TypeId→Option TInf} {ops:Array Oper} {t0:Tr AV} {pl:List (Option Tmp × AV)} {id:Nat} {p:Nat→Bool} (he:∀ j,p j = true→entOf T ops t0 pl id j = none) (n:Nat):ents T ops t0 pl id p n = []:=by
  unfold ents
  rw [List.filterMap_eq_nil_iff]
  intro j _
  split
  · rename_i hj; exact he j hj
  · rfl
theorem ents_all {T:TypeId→Option TInf} {ops:Array Oper} {t0:Tr AV} {pl:List (Option Tmp × AV)} {id n:Nat} {p:Nat→Bool} (hp:∀ j,j < n→p j = true):ents T ops t0 pl id p n = ents T ops t0 pl id (fun _=>true) n:=by
  unfold ents
  refine filterMap_same fun j hj=>?_
  rw [hp j (List.mem_range.1 hj)]
theorem ents_sub {T:TypeId→Option TInf} {ops:Array Oper} {t0:Tr AV} {pl:List (Option Tmp × AV)} {id:Nat} {p:Nat→Bool}:∀ n,(ents T ops t0 pl id p n).Sublist (ents T ops t0 pl id (fun _=>true) n)
  | 0=>List.Sublist.refl _
  | n + 1=>by
    have ih:=ents_sub (T:=T) (ops:=ops) (t0:=t0) (pl:=pl) (id:=id) (p:=p) n
    unfold ents at ih ⊢
    rw [List.range_succ,List.filterMap_append,List.filterMap_append]
    refine List.Sublist.append ih ?_
    by_cases hn:p n = true
    · have hone:List.filterMap (fun i=>if p i = true then entOf T ops t0 pl id i else none) [n] = List.filterMap (fun i=>if (fun _=>true) i = true then entOf T ops t0 pl id i else none) [n]:=by
        refine filterMap_same fun x hx=>?_
        rw [List.mem_singleton.1 hx,hn]
      rw [hone]
      exact List.Sublist.refl _
    · have:p n = false:=by simpa using hn
      simp [this]
theorem entOf_some {T:TypeId→Option TInf} {ops:Array Oper} {t0:Tr AV} {pl:List (Option Tmp × AV)} {id i:Nat} {e:ByteArray × AV} (h:entOf T ops t0 pl id i = some e) :
    ∃ o,ops[i]? = some o∧insOf T (evT (tsRef pl (afterOf o) t0)) o = some (id,e):=by
  unfold entOf at h
  cases ho:ops[i]? with
  | none=>rw [ho] at h; cases h
  | some o =>
    rw [ho] at h
    simp only at h
    cases hq:insOf T (evT (tsRef pl (afterOf o) t0)) o with
    | none=>rw [hq] at h; cases h
    | some q =>
      rw [hq] at h
      simp only at h
      split at h
      · rename_i hb
        injection h with h
        refine ⟨o,rfl,?_⟩
        rw [hq,← h,← Nat.eq_of_beq_eq_true hb]
      · cases h
theorem cntL_take_succ:∀ {l:List Oper} {i:Nat} {o:Oper},l[i]? = some o→cntL (l.take (i + 1)) = cntL (l.take i) + (if stillOp o.op then 0 else 1)
  | [],i,o,h=>by simp at h
  | x :: l,0,o,h=>by
    simp at h; subst h
    simp only [List.take_succ_cons,List.take_zero,cntL]
    split <;> rfl
  | x :: l,i + 1,o,h=>by
    have ih:=cntL_take_succ (l:=l) (i:=i) (o:=o) (by simpa using h)
    rw [List.take_succ_cons,List.take_succ_cons,cntL,cntL,ih]
    split <;> omega
theorem cntL_take_le:∀ (l:List Oper) (i:Nat),cntL (l.take i) ≤ cntL l
  | [],i=>by simp
  | x :: l,0=>by simp [cntL]
  | x :: l,i + 1=>by
    have:=cntL_take_le l i
    rw [List.take_succ_cons,cntL,cntL]
    split <;> omega
theorem cntL_mono (l:List Oper):∀ {i j:Nat},i ≤ j→cntL (l.take i) ≤ cntL (l.take j):=by
  intro i j h
  have:=cntL_take_le (l.take j) i
  rw [List.take_take,Nat.min_eq_left h] at this
  exact this
theorem cnt_hit:∀ (l:List Oper) (c:Nat),c < cntL l→∃ j o,l[j]? = some o∧stillOp o.op = false∧cntL (l.take j) = c
  | [],c,h=>by simp [cntL] at h
  | x :: l,c,h=>by
    unfold cntL at h
    split at h
    · rename_i hq
      obtain ⟨j,o,h1,h2,h3⟩:=cnt_hit l c h
      exact ⟨j + 1,o,by simpa using h1,h2,by rw [List.take_succ_cons,cntL,if_pos hq]; exact h3⟩
    · rename_i hq
      cases c with
      | zero=>exact ⟨0,x,rfl,by simpa using hq,rfl⟩
      | succ c =>
        obtain ⟨j,o,h1,h2,h3⟩:=cnt_hit l c (by omega)
        exact ⟨j + 1,o,by simpa using h1,h2,by rw [List.take_succ_cons,cntL,if_neg hq]; omega⟩
theorem getD_same {L:Array Bool} {i:Nat} (h:i < L.size):L.getD i true = L.getD i false:=by
  simp [h]
end Go.Sym
end
section
namespace Go.Sym
open Go
variable {P:Program} {C:Cx}
section
variable {call:CallT} {ops:Array Oper} {t0:Tr AV} {FT:List Flt} {pl:List (Option Tmp × AV)} {Ms:List M} {ρ0:Env} {m0:M} {a0:Act} {w0:World} {L:Array Bool} {a:Act} {w:World} {ρ:Env} {k:Nat} {mk:M}
def inAf (pl:List (Option Tmp × AV)) (af:List Nat) (d:Nat):Bool:=af.any fun j=>match pl[j]? with
  | some p=>p.1 == some d
  | none=>false
theorem inAf_iff {af:List Nat} {d:Nat}:inAf pl af d = true↔∃ j ∈ af,∃ v,pl[j]? = some (some d,v):=by
  unfold inAf
  rw [List.any_eq_true]
  constructor
  · rintro ⟨j,hj,h⟩
    cases hp:pl[j]? with
    | none=>rw [hp] at h; cases h
    | some p =>
      rw [hp] at h
      simp only [beq_iff_eq] at h
      exact ⟨j,hj,p.2,by rw [hp,← h]⟩
  · rintro ⟨j,hj,v,h⟩
    exact ⟨j,hj,by rw [h]; simp⟩
def seen (pl:List (Option Tmp × AV)) (af:List Nat) (a0 a:Act):Array Value:=a0.tmps.mapIdx fun d v=>if inAf pl af d then a.tmps.getD d v else v
theorem seen_get {af:List Nat} {d:Nat} (hs:a.tmps.size = a0.tmps.size):(seen pl af a0 a)[d]? = if inAf pl af d then a.tmps[d]? else a0.tmps[d]?:=by
  unfold seen
  rw [Array.getElem?_mapIdx]
  cases h0:a0.tmps[d]? with
  | none =>
    have:a.tmps[d]? = none:=by rw [Array.getElem?_eq_none_iff] at h0 ⊢; omega
    rw [this]
    split <;> rfl
  | some v =>
    have hlt:d < a.tmps.size:=by have:=(Array.getElem?_eq_some_iff.1 h0).1; omega
    simp only [Option.map_some]
    split
    · simp [hlt]
    · rfl
theorem Inv.wait (hst:Static ops) (I:Inv ops FT pl Ms ρ0 m0 a0 w0 L a w ρ k mk) {i:Nat} {o:Oper} (hi:ops[i]? = some o) (hL:L.getD i false = false) (hr:∀ j ∈ afterOf o,L.getD j false = true)
    (hpl:∀ (j:Nat) (o':Oper),ops[j]? = some o'→∃ v,pl[j]? = some (o'.dst,v)) (hpo:∀ (j:Nat) p,pl[j]? = some p→∃ o',ops[j]? = some o') :
    ∀ d ∈ o.looksAt ops,a.tmps[d]? = (seen pl (afterOf o) a0 a)[d]?:=by
  intro d hd
  rw [seen_get I.tsz]
  by_cases hD:inAf pl (afterOf o) d = true
  · rw [if_pos hD]
  · rw [if_neg hD]
    refine I.old d fun j o' hj hLj hdst=>?_
    have hne:j ≠ i:=by rintro rfl; rw [hL] at hLj; cases hLj
    rcases hst.looks i o j o' hi hj hne d hdst hd with h | h
    · obtain ⟨v,hv⟩:=hpl j o' hj
      exact hD (inAf_iff.2 ⟨j,h,v,by rw [hv,hdst]⟩)
    · have:=I.closed j o' hj hLj i h
      rw [hL] at this; cases this
theorem Inv.seenRel (I:Inv ops FT pl Ms ρ0 m0 a0 w0 L a w ρ k mk) {o:Oper} (hr:∀ j ∈ afterOf o,L.getD j false = true) (h0:TsRel ρ0 t0 a0.tmps)
    (hpo:∀ (j:Nat) p,pl[j]? = some p→∃ o',ops[j]? = some o'∧p.1 = o'.dst):TsRel ρ (tsRef pl (afterOf o) t0) (seen pl (afterOf o) a0 a):=by
  intro d
  rw [seen_get I.tsz]
  rcases tsRef_get (pl:=pl) (afterOf o) t0 d with ⟨j,hj,v,h1,h2⟩ | ⟨h1,h2⟩
  · have hD:inAf pl (afterOf o) d = true:=inAf_iff.2 ⟨j,hj,v,h1⟩
    rw [if_pos hD,h2]
    cases ht:getR t0 d with
    | none =>
      show a.tmps[d]? = none
      have:=h0.no ht
      rw [Array.getElem?_eq_none_iff] at this ⊢
      rw [I.tsz]; exact this
    | some u =>
      obtain ⟨y0,hy0,_⟩:=h0.at_ ht
      have hlt:=(Array.getElem?_eq_some_iff.1 hy0).1
      obtain ⟨o',ho',hdo⟩:=hpo j _ h1
      exact I.new j o' d v ho' (hr j hj) hdo.symm h1 hlt
  · have hD:¬ inAf pl (afterOf o) d = true:=by
      intro h
      obtain ⟨j,hj,v,hv⟩:=inAf_iff.1 h
      exact h1 j hj v hv
    rw [if_neg hD,h2]
    exact (h0.mono I.step.le) d
theorem Inv.next (hst:Static ops) (I:Inv ops FT pl Ms ρ0 m0 a0 w0 L a w ρ k mk) {i:Nat} {o:Oper} (hi:ops[i]? = some o) (hL:L.getD i false = false) (hr:∀ j ∈ afterOf o,L.getD j false = true)
    {v:AV} (hv:pl[i]? = some (o.dst,v)) {ρ':Env} {w':World} {x:Value} {m2:M} (hx:gam ρ' v = some x) (hle:ρ.le ρ') {k':Nat} (hk:k' = if stillOp o.op then k else k + 1) (he:stillOp o.op = false→cnt ops i = k) (hstage:Ms[k']? = some m2)
    (S:StepR ρ0 m0 w0 ρ' (addF m2 (fsOf FT (L.setIfInBounds i true) k')) w') (un':∀ f ∈ FT,(L.setIfInBounds i true).getD f.op false = false→ρ'.blk f.id = none) (free':∀ f ∈ FT,k' ≤ f.stage→m2.H.get f.id = none) (bnd':∀ f ∈ FT,f.id < m2.nb) :
    Inv ops FT pl Ms ρ0 m0 a0 w0 (L.setIfInBounds i true) (a.put o.dst x) w' ρ' k' m2:=by
  have hlt:i < L.size:=by rw [I.size]; exact (Array.getElem?_eq_some_iff.1 hi).1
  have hself:(L.setIfInBounds i true).getD i false = true:=by simp [hlt]
  have hother:∀ j,j ≠ i→(L.setIfInBounds i true).getD j false = L.getD j false:=fun j hj=>getD_set_ne false (fun e=>hj e.symm)
  have hkeep:∀ j,L.getD j false = true→(L.setIfInBounds i true).getD j false = true:=fun j hj=>getD_set_true hj
  have hput:∀ d,o.dst ≠ some d→(a.put o.dst x).tmps[d]? = a.tmps[d]?:=by
    intro d hd
    cases hdst:o.dst with
    | none=>rfl
    | some d' =>
      show (a.tmps.setIfInBounds d' x)[d]? = a.tmps[d]?
      rw [Array.getElem?_setIfInBounds,if_neg (fun e=>hd (by rw [hdst,e]))]
  refine ⟨by simpa using I.size,fun j o' hj hLj=>?_,fun j o' hj hqj=>?_,hstage,S,un',free',bnd',fun d hd=>?_,fun j o' d u hj hLj hdst hpj hsz=>?_,?_,?_⟩
  · by_cases hji:j = i
    · subst hji
      rw [hi] at hj; injection hj with hj; subst hj
      intro j' hj'
      exact hkeep j' (hr j' hj')
    · rw [hother j hji] at hLj
      intro j' hj'
      exact hkeep j' (I.closed j o' hj hLj j' hj')
  · subst hk
    by_cases hji:j = i
    · subst hji
      rw [hi] at hj; injection hj with hj; subst hj
      rw [hself,if_neg (by rw [hqj]; simp)]
      have:=he hqj
      simp; omega
    · rw [hother j hji,I.eff j o' hj hqj]
      by_cases hqo:stillOp o.op = true
      · rw [if_pos hqo]
      · rw [if_neg hqo]
        have hqo':stillOp o.op = false:=by simpa using hqo
        have hc:=he hqo'
        constructor
        · intro h; omega
        · intro h
          rcases Nat.lt_or_ge (cnt ops j) k with h1 | h1
          · exact h1
          · exfalso
            have heq:cnt ops j = cnt ops i:=by omega
            have hs1:=cntL_take_succ (l:=ops.toList) (i:=i) (o:=o) (by simpa using hi)
            have hs2:=cntL_take_succ (l:=ops.toList) (i:=j) (o:=o') (by simpa using hj)
            rw [hqo'] at hs1; rw [hqj] at hs2
            unfold cnt at heq
            rcases Nat.lt_or_ge i j with h2 | h2
            · have:=cntL_mono ops.toList (show i + 1 ≤ j by omega)
              simp at hs1; omega
            · have:=cntL_mono ops.toList (show j + 1 ≤ i by omega)
              simp at hs2; omega
  · have h1:o.dst ≠ some d:=hd i o hi hself
    rw [hput d h1]
    exact I.old d fun j o' hj hLj=>hd j o' hj (hkeep j hLj)
  · by_cases hji:j = i
    · subst hji
      rw [hi] at hj; injection hj with hj; subst hj
      rw [hv] at hpj; injection hpj with hpj
      have e2:v = u:=by injection hpj
      subst e2
      refine ⟨x,?_,hx⟩
      rw [hdst]
      show (a.tmps.setIfInBounds d x)[d]? = some x
      rw [← I.tsz] at hsz
      simp [hsz]
    · rw [hother j hji] at hLj
      obtain ⟨y,h1,h2⟩:=I.new j o' d u hj hLj hdst hpj hsz
      exact ⟨y,by rw [hput d (hst.dst i o j o' hi hj hji d hdst)]; exact h1,gam_mono hle _ h2⟩
  · cases hdst:o.dst with
    | none=>exact I.tsz
    | some d=>show (a.tmps.setIfInBounds d x).size = _; simpa using I.tsz
  · rw [put_defers']; exact I.defs
end
end Go.Sym
end
section
namespace Go.Sym
open Go
variable {ρ:Env} {m:M} {w:World}
theorem gams_perm {es es':List (ByteArray × AV)} (hp:es.Perm es'):∀ {vs:List Value},gams ρ (es.map (·.2)) = some vs →
    ∃ vs',gams ρ (es'.map (·.2)) = some vs'∧((es.map fun e=>Value.string e.1).zip vs).Perm ((es'.map fun e=>Value.string e.1).zip vs'):=by
  induction hp with
  | nil=>intro vs h; exact ⟨vs,h,List.Perm.refl _⟩
  | cons x _ ih =>
    intro vs h
    obtain ⟨p,q,h1,h2,rfl⟩:=gams_cons.1 h
    obtain ⟨vs',k1,k2⟩:=ih h2
    exact ⟨p :: vs',gams_cons.2 ⟨p,vs',h1,k1,rfl⟩,by simpa using k2⟩
  | swap x y l =>
    intro vs h
    obtain ⟨p,q,h1,h2,rfl⟩:=gams_cons.1 h
    obtain ⟨p2,q2,k1,k2,rfl⟩:=gams_cons.1 h2
    exact ⟨p2 :: p :: q2,gams_cons.2 ⟨p2,p :: q2,k1,gams_cons.2 ⟨p,q2,h1,k2,rfl⟩,rfl⟩,by simpa using List.Perm.swap _ _ _⟩
  | trans _ _ ih1 ih2 =>
    intro vs h
    obtain ⟨vs1,h1,h2⟩:=ih1 h
    obtain ⟨vs2,k1,k2⟩:=ih2 h1
    exact ⟨vs2,k1,h2.trans k2⟩
theorem BlkRel.perm {b:Nat} {es es':List (ByteArray × AV)} (hp:es.Perm es') (h:BlkRel ρ w b (.map es)):BlkRel ρ w b (.map es'):=by
  obtain ⟨g,entries,clock,vs,h1,h2,h3,h4,h5⟩:=h
  obtain ⟨vs',k1,k2⟩:=gams_perm hp h3
  exact ⟨g,entries,clock,vs',h1,h2,k1,h4.trans k2,(hp.map _).pairwise h5 (fun h=>Ne.symm h)⟩
theorem StepR.reblk {ρ0:Env} {m0:M} {w0:World} {b:Nat} {k k':Blk} (S:StepR ρ0 m0 w0 ρ m w) (hb:m.H.get b = some k) (hk:BlkRel ρ w b k→BlkRel ρ w b k'):StepR ρ0 m0 w0 ρ (putB m b (some k')) w:=by
  have hlt:=S.rel.lt hb
  have hsm:=S.rel.small
  have hself:(putB m b (some k')).H.get b = some k':=get_putB (by omega)
  have hget:∀ c kk,(putB m b (some k')).H.get c = some kk→∃ k0,m.H.get c = some k0:=by
    intro c kk hc
    by_cases hcb:c = b
    · subst hcb; exact ⟨k,hb⟩
    · rw [get_putB_ne hcb] at hc; exact ⟨kk,hc⟩
  refine ⟨S.le,⟨S.rel.nb,S.rel.nc,fun c kk hc=>?_,fun c c' kk kk' q q' hc hc' hq hq' hne=>?_,hsm⟩,S.keep,fun g hg=>?_,S.size,S.os,S.tape,S.output,S.nbm,S.fix,fun c kk hc=>?_,S.ncm,fun n v hn=>?_⟩
  · by_cases hcb:c = b
    · subst hcb
      rw [hself] at hc; injection hc with hc; subst hc
      exact hk (S.rel.live c k hb)
    · rw [get_putB_ne hcb] at hc
      exact S.rel.live c kk hc
  · obtain ⟨a,ha⟩:=hget c kk hc
    obtain ⟨a',ha'⟩:=hget c' kk' hc'
    exact S.rel.inj c c' a a' q q' ha ha' hq hq' hne
  · obtain ⟨c,kk,q,hc,hq,he⟩:=hg
    obtain ⟨k0,hk0⟩:=hget c kk hc
    exact S.fresh g ⟨c,k0,q,hk0,hq,he⟩
  · obtain ⟨k0,hk0⟩:=hget c kk hc
    exact S.ids c k0 hk0
  · rcases S.ats n v hn with hx | ⟨h1,h2,h3,gh,h4,h5⟩
    · exact .inl hx
    · refine .inr ⟨h1,h2,h3,gh,h4,h5.mono fun g hg _=>⟨rfl,hg.1,?_⟩⟩
      rintro ⟨c,kk,q,hc,hq,he⟩
      obtain ⟨k0,hk0⟩:=hget c kk hc
      exact hg.2 ⟨c,k0,q,hk0,hq,he⟩
end Go.Sym
end
section
namespace Go.Sym
open Go
variable {P:Program} {C:Cx}
theorem allC_of {f:Nat→Nat→Oper→Bool}:∀ {l:List Oper} {i c:Nat},(∀ k o,l[k]? = some o→f (i + k) (c + cntL (l.take k)) o = true)→allC f l i c = true
  | [],_,_,_=>rfl
  | x :: l,i,c,h=>by
    unfold allC
    rw [Bool.and_eq_true]
    refine ⟨h 0 x rfl,allC_of fun k o hk=>?_⟩
    have:=h (k + 1) o (by simpa using hk)
    rw [List.take_succ_cons,cntL] at this
    split
    · rename_i hq
      rw [if_pos hq,show i + (k + 1) = i + 1 + k by omega] at this; exact this
    · rename_i hq
      rw [if_neg hq,show i + (k + 1) = i + 1 + k by omega,show c + (cntL (l.take k) + 1) = c + 1 + cntL (l.take k) by omega] at this; exact this
section
variable {call:CallT} {ops:Array Oper} {t0:Tr AV} {FT:List Flt} {pl:List (Option Tmp × AV)} {Ms:List M} {ρ0:Env} {m0:M} {a0:Act} {w0:World} {L:Array Bool} {a:Act} {w:World} {ρ:Env} {k:Nat} {mk:M}
theorem one_quiet {o:Oper} {m m':M} {v:AV} (hq:quietOp o.op = true) (h:oneA P C call ops t0 pl o m = some (v,m')):m' = m:=by
  unfold oneA at h
  split at h
  · cases h
  · injection h with h; injection h with e1 e2; exact e2.symm
  · rw [opK_eq] at h
    cases hop:opA P C (evT (tsRef pl (afterOf o) t0)) o m with
    | none=>rw [hop] at h; cases h
    | some n =>
      obtain ⟨u,rfl⟩:=quiet_val hq hop
      rw [hop] at h
      injection h with h; injection h with e1 e2; exact e2.symm
theorem one_indep {o:Oper} {m m' m2:M} {v:AV} (hq:indepOp o.op = true) (h:oneA P C call ops t0 pl o m = some (v,m')):oneA P C call ops t0 pl o m2 = some (v,m2):=by
  unfold oneA at h ⊢
  split at h
  · cases h
  · injection h with h; injection h with e1 e2; subst e1; rfl
  · rw [opK_eq] at h ⊢
    cases hop:opA P C (evT (tsRef pl (afterOf o) t0)) o m with
    | none=>rw [hop] at h; cases h
    | some n =>
      obtain ⟨u,rfl,h2⟩:=indep_any hq hop
      rw [hop] at h
      injection h with h; injection h with e1 e2; subst e1
      simp only [h2 m2]
      rfl
theorem lookF_not {b:Nat}:∀ {fs:List (Nat × Blk)},lookF b fs = none→∀ x,(b,x) ∉ fs
  | [],_,x,h=>by cases h
  | p :: fs,h,x,hx=>by
    unfold lookF at h
    split at h
    · cases h
    · rename_i hb
      rcases List.mem_cons.1 hx with rfl | hx
      · exact hb rfl
      · exact lookF_not h x hx
theorem fs_uniq {m:M} (hF:FTok C ops t0 pl m FT) {L:Array Bool} {k b:Nat} {x y:Blk} (h1:(b,x) ∈ fsOf FT L k) (h2:(b,y) ∈ fsOf FT L k):y = x:=by
  obtain ⟨f,f1,_,_,f2,f3⟩:=fsOf_mem.1 h1
  obtain ⟨g,g1,_,_,g2,g3⟩:=fsOf_mem.1 h2
  have:=hF.uid f f1 g g1 (by rw [f2,g2])
  subst this
  rw [← f3,← g3]
theorem ab_uniq {m:M} (hF:FTok C ops t0 pl m FT) {c b:Nat} {x y:Blk} (h1:(b,x) ∈ absF FT c) (h2:(b,y) ∈ absF FT c):y = x:=by
  obtain ⟨f,f1,_,f2,f3⟩:=absF_mem.1 h1
  obtain ⟨g,g1,_,g2,g3⟩:=absF_mem.1 h2
  have:=hF.uid f f1 g g1 (by rw [f2,g2])
  subst this
  rw [← f3,← g3]
theorem fs_small {m:M} (hF:FTok C ops t0 pl m FT) {L:Array Bool} {k:Nat}:∀ p ∈ fsOf FT L k,p.1 ≤ 1000000:=by
  intro p hp
  obtain ⟨f,f1,_,_,f2,_⟩:=fsOf_mem.1 (show (p.1,p.2) ∈ fsOf FT L k from hp)
  rw [← f2]; exact hF.le f f1
theorem ab_small {m:M} (hF:FTok C ops t0 pl m FT) {c:Nat}:∀ p ∈ absF FT c,p.1 ≤ 1000000:=by
  intro p hp
  obtain ⟨f,f1,_,f2,_⟩:=absF_mem.1 (show (p.1,p.2) ∈ absF FT c from hp)
  rw [← f2]; exact hF.le f f1
theorem Inv.late (hF:FTok C ops t0 pl m0 FT) (I:Inv ops FT pl Ms ρ0 m0 a0 w0 L a w ρ k mk) (hK:Ms.length = cntL ops.toList + 1) {f:Flt} (hf:f ∈ FT) (hL:L.getD f.op false = false):k ≤ f.stage:=by
  rcases Nat.lt_or_ge f.stage k with h | h
  · exfalso
    have hkl:k < Ms.length:=(List.getElem?_eq_some_iff.1 I.stage).1
    obtain ⟨j,o,g1,g2,g3⟩:=cnt_hit ops.toList f.stage (by omega)
    have hj:ops[j]? = some o:=by simpa using g1
    have hc:cnt ops j = f.stage:=g3
    have hl:=(I.eff j o hj g2).2 (by omega)
    have:=I.closed j o hj hl _ (hF.stage f hf j o hj g2 hc)
    rw [hL] at this; cases this
  · exact h
theorem Inv.now (hst:Static ops) (I:Inv ops FT pl Ms ρ0 m0 a0 w0 L a w ρ k mk) {i:Nat} {o:Oper} (hi:ops[i]? = some o) (hf:Fact P C call ops t0 FT pl Ms i (cnt ops i) o) (hL:L.getD i false = false) (hr:∀ j ∈ afterOf o,L.getD j false = true)
    (hwin:(wins ops).all (chkA P C call ops t0 pl Ms) = true) (hK:Ms.length = cntL ops.toList + 1) :
    ∃ v,pl[i]? = some (o.dst,v)∧((isAlloc o.op = true∧∃ f ∈ FT,f.op = i∧v = .ptr f.id 0)∨(isMk o.op = true∧∃ f ∈ FT,f.op = i∧v = .mp f.id)∨(isIns o.op = true∧v = .lit undef∧∃ q,insOf C.T (evT (tsRef pl (afterOf o) t0)) o = some q)∨(isFl o.op = false∧quietOp o.op = true∧oneA P C call ops t0 pl o mk = some (v,mk)) ∨
      (stillOp o.op = false∧cnt ops i = k∧∃ m2,oneA P C call ops t0 pl o (addF mk (absF FT k)) = some (v,m2)∧Ms[k + 1]? = some m2)):=by
  obtain ⟨v,f2,fa,fm,fi,fq,fe⟩:=hf
  have hkl:k < Ms.length:=(List.getElem?_eq_some_iff.1 I.stage).1
  by_cases haa:isAlloc o.op = true
  · exact ⟨v,f2, .inl ⟨haa,fa haa⟩⟩
  by_cases hmm:isMk o.op = true
  · exact ⟨v,f2, .inr (.inl ⟨hmm,fm hmm⟩)⟩
  by_cases hii:isIns o.op = true
  · exact ⟨v,f2, .inr (.inr (.inl ⟨hii,fi hii⟩))⟩
  have ha':isFl o.op = false:=by
    cases hfl:isFl o.op with
    | false=>rfl
    | true=>rcases isFl_cases hfl with h | h | h <;> contradiction
  by_cases hq:quietOp o.op = true
  · obtain ⟨mi,m',f1,f3⟩:=fq ha' hq
    have hstill:stillOp o.op = true:=by unfold stillOp; rw [hq]; rfl
    by_cases hk:k = cnt ops i
    · have:mi = mk:=by
        have:=I.stage
        rw [hk,f1] at this; injection this
      subst this
      have:=one_quiet hq f3
      subst this
      exact ⟨v,f2, .inr (.inr (.inr (.inl ⟨ha',hq,f3⟩)))⟩
    · by_cases hd:indepOp o.op = true
      · exact ⟨v,f2, .inr (.inr (.inr (.inl ⟨ha',hq,one_indep hd f3⟩)))⟩
      · have hd':(indepOp o.op || isFl o.op) = false:=by rw [ha']; simpa using hd
        have hw:winK ops i o k = true:=by
          refine allC_of fun j o' hj=>?_
          have hj':ops[j]? = some o':=by simpa using hj
          by_cases hqj:stillOp o'.op = true
          · rw [hqj]; rfl
          · have hqj':stillOp o'.op = false:=by simpa using hqj
            rw [hqj']
            simp only [Nat.zero_add,Bool.false_or,Bool.and_eq_true,Bool.or_eq_true,Bool.not_eq_true',decide_eq_true_eq]
            refine ⟨?_,?_⟩
            · by_cases hc:reach ops 8 o j = true
              · have:=(I.eff j o' hj' hqj').1 (reach_listed I.closed 8 o j hc hr)
                exact .inr this
              · exact .inl (by simpa using hc)
            · by_cases hc:(afterOf o').contains i = true
              · refine .inr ?_
                rcases Nat.lt_or_ge (cnt ops j) k with h1 | h1
                · have:=I.closed j o' hj' ((I.eff j o' hj' hqj').2 h1) i (by simpa using hc)
                  rw [hL] at this; cases this
                · exact h1
              · exact .inl (by simpa using hc)
        have hmem:(i,k) ∈ wins ops:=by
          have:=winsGo_mem (ops:=ops) (K:=cntL ops.toList) (l:=ops.toList) (i:=0) (c:=0) (j:=i) (o:=o) (by simpa using hi) hstill hd' (k:=k) (by omega) (by simpa [cnt] using hk) (by simpa using hw)
          unfold wins
          simpa using this
        have hchk:=List.all_eq_true.1 hwin _ hmem
        unfold chkA at hchk
        simp only [hi,I.stage,f2] at hchk
        split at hchk
        · rename_i v' m2 hone
          have:=avEq_eq hchk
          subst this
          have:=one_quiet hq hone
          subst this
          exact ⟨v',f2, .inr (.inr (.inr (.inl ⟨ha',hq,hone⟩)))⟩
        · cases hchk
  · have hq':stillOp o.op = false:=by unfold stillOp; rw [ha']; simpa using hq
    obtain ⟨mi,m',f1,f3,f4⟩:=fe hq'
    have h1:¬ cnt ops i < k:=by
      intro h
      have:=(I.eff i o hi hq').2 h
      rw [hL] at this; cases this
    have hck:cnt ops i = k:=by
      rcases Nat.lt_or_ge k (cnt ops i) with h2 | h2
      · exfalso
        have hle:cnt ops i ≤ cntL ops.toList:=cntL_take_le _ _
        obtain ⟨j,o',g1,g2,g3⟩:=cnt_hit ops.toList (cnt ops i - 1) (by omega)
        have hj':ops[j]? = some o':=by simpa using g1
        have hcj:cnt ops j = cnt ops i - 1:=g3
        have hlj:L.getD j false = true:=by
          rcases hst.chain i o j o' hi hj' hq' g2 (by omega) with h3 | ⟨m,hm,om,hom,h3⟩
          · exact hr j h3
          · exact I.closed m om hom (hr m hm) j h3
        have:=(I.eff j o' hj' g2).1 hlj
        omega
      · omega
    have:mi = mk:=by
      have:=I.stage
      rw [← hck,f1] at this; injection this
    subst this
    refine ⟨v,f2, .inr (.inr (.inr (.inr ⟨hq',hck,m',?_,?_⟩)))⟩
    · rw [← hck]; exact f3
    · rw [← hck]; exact f4
theorem Inv.exec (hC:CxOK P C) (hcall:CallOK C.B P call) (hst:Static ops) (I:Inv ops FT pl Ms ρ0 m0 a0 w0 L a w ρ k mk) (h0:TsRel ρ0 t0 a0.tmps) {i:Nat} {o:Oper} (hi:ops[i]? = some o) (hL:L.getD i false = false) (hr:∀ j ∈ afterOf o,L.getD j false = true)
    (hpl:∀ (j:Nat) (o':Oper),ops[j]? = some o'→∃ v,pl[j]? = some (o'.dst,v)) (hpo:∀ (j:Nat) p,pl[j]? = some p→∃ o',ops[j]? = some o'∧p.1 = o'.dst)
    {m1 m2:M} {v:AV} (hm1:MRel ρ m1 w) (hk1:CtxOK C.B ρ m1 w) (p2:oneA P C call ops t0 pl o m1 = some (v,m2)) {K:Act→World→Prop} {Q:Exit→Act→World→Prop}
    (next:∀ ρ' w' x,gam ρ' v = some x→StepR ρ m1 w ρ' m2 w'→K (a.put o.dst x) w'):wpOp P ops Q i K a w:=by
  have hsee:=I.wait hst hi hL hr hpl (fun j p hp=>let ⟨o',h,_⟩:=hpo j p hp; ⟨o',h⟩)
  have hrel:=I.seenRel (o:=o) hr h0 hpo
  have hev:TsRel ρ (tsRef pl (afterOf o) t0) ({ tmps:=seen pl (afterOf o) a0 a,defers:=a.defers }:Act).tmps:=hrel
  have hop:execOp a.eval o = execOp ({ tmps:=seen pl (afterOf o) a0 a,defers:=a.defers }:Act).eval o:=by
    refine execOp_congr o (hst.sel i o hi) fun x hx=>?_
    cases x with
    | tmp t =>
      have ht:t ∈ o.looksAt ops:=List.mem_append_left _ (List.mem_filterMap.2 ⟨.tmp t,by simpa using hx,rfl⟩)
      unfold Act.eval
      simp only [Array.getD_eq_getD_getElem?,hsee t ht]
    | const c=>rfl
    | global g=>rfl
    | func f=>rfl
  have hwant:Region.wanted o (yielded ops a.tmps) = Region.wanted o (yielded ops (seen pl (afterOf o) a0 a)):=by
    unfold Region.wanted
    cases hg:o.guard with
    | none=>rfl
    | some q =>
      obtain ⟨g,want⟩:=q
      simp only
      unfold yielded
      cases hd:(ops[g]?).bind (·.dst) with
      | none=>rfl
      | some d =>
        have ht:d ∈ o.looksAt ops:=List.mem_append_right _ (by rw [hg]; simp only; rw [hd]; simp)
        simp only [Option.bind_some]
        rw [hsee d ht]
  unfold wpOp
  rw [hi]
  simp only
  unfold oneA at p2
  split at p2
  · cases p2
  · rename_i hw
    have hw':=wanted_ok hev hw
    rw [hwant,if_neg (by rw [hw']; simp)]
    injection p2 with p2; injection p2 with e1 e2; subst e1; subst e2
    exact next _ _ _ rfl (.refl hm1)
  · rename_i hw
    have hw':=wanted_ok hev hw
    rw [hwant,if_pos hw']
    left
    unfold Oper.wp
    rw [hop]
    rw [opK_eq] at p2
    cases hopa:opA P C (evT (tsRef pl (afterOf o) t0)) o m1 with
    | none=>rw [hopa] at p2; cases p2
    | some n =>
      rw [hopa] at p2
      have hok:=op_ok (P:=P) hC hk1 hm1 (TsRel.ev (a:={ tmps:=seen pl (afterOf o) a0 a,defers:=a.defers }) hev) hopa
      cases n with
      | val u m3 =>
        injection p2 with p2; injection p2 with e1 e2; subst e1; subst e2
        obtain ⟨ρ',w',x,h1,h2,h3⟩:=hok
        rw [h1]
        exact next _ _ _ h2 h3
      | skip m3 =>
        injection p2 with p2; injection p2 with e1 e2; subst e1; subst e2
        obtain ⟨ρ',w',h1,h3⟩:=hok
        rw [h1]
        exact next _ _ _ rfl h3
      | enter f args =>
        obtain ⟨xs,h1,h2⟩:=hok
        rw [h1]
        refine (hcall f args m1 v m2 p2 ρ w xs hm1 hk1 h2).mono ?_
        rintro e w' ⟨ρ',x,rfl,g1,g2⟩
        exact next _ _ _ g1 g2
theorem Inv.run (hk0:CtxOK C.B ρ0 m0 w0) (hC:CxOK P C) (hcall:CallOK C.B P call) (hst:Static ops) (hF:FTok C ops t0 pl m0 FT) (I:Inv ops FT pl Ms ρ0 m0 a0 w0 L a w ρ k mk) (h0:TsRel ρ0 t0 a0.tmps) {i:Nat} {o:Oper} (hi:ops[i]? = some o) (hL:L.getD i false = false) (hr:∀ j ∈ afterOf o,L.getD j false = true)
    (hfact:∀ (j:Nat) (o':Oper),ops[j]? = some o'→Fact P C call ops t0 FT pl Ms j (cnt ops j) o') (hpn:pl.length = ops.size)
    (hwin:(wins ops).all (chkA P C call ops t0 pl Ms) = true) (hK:Ms.length = cntL ops.toList + 1) {K:Act→World→Prop} {Q:Exit→Act→World→Prop}
    (next:∀ ρ' a' w' k' m2,Inv ops FT pl Ms ρ0 m0 a0 w0 (L.setIfInBounds i true) a' w' ρ' k' m2→K a' w'):wpOp P ops Q i K a w:=by
  have hpl:∀ (j:Nat) (o':Oper),ops[j]? = some o'→∃ v,pl[j]? = some (o'.dst,v):=by
    intro j o' hj
    obtain ⟨v,h2,_⟩:=hfact j o' hj
    exact ⟨v,h2⟩
  have hpo:∀ (j:Nat) p,pl[j]? = some p→∃ o',ops[j]? = some o'∧p.1 = o'.dst:=by
    intro j p hp
    have hlt:=(List.getElem?_eq_some_iff.1 hp).1
    have hj:ops[j]? = some ops[j]:=by rw [Array.getElem?_eq_getElem (by omega)]
    obtain ⟨v,hv⟩:=hpl j _ hj
    rw [hp] at hv; injection hv with hv
    exact ⟨_,hj,by rw [hv]⟩
  have hlt:i < L.size:=by rw [I.size]; exact (Array.getElem?_eq_some_iff.1 hi).1
  have hself:(L.setIfInBounds i true).getD i false = true:=by simp [hlt]
  have hother:∀ j,j ≠ i→(L.setIfInBounds i true).getD j false = L.getD j false:=fun j hj=>getD_set_ne false (fun e=>hj e.symm)
  have fsfree:∀ p ∈ fsOf FT L k,mk.H.get p.1 = none:=by
    intro p hp
    obtain ⟨f,f1,f2,f3,f4,f5⟩:=fsOf_mem.1 (show (p.1,p.2) ∈ fsOf FT L k from hp)
    rw [← f4]; exact I.free f f1 f3
  have notFl:isAlloc o.op = false→isMk o.op = false→∀ f ∈ FT,f.op ≠ i:=by
    intro ha hm f hf he
    rcases hF.op f hf with ⟨o',t,ti,h1,h2,_⟩ | ⟨o',t,h1,h2,_⟩
    · rw [he,hi] at h1; injection h1 with h1; subst h1
      rw [h2] at ha; cases ha
    · rw [he,hi] at h1; injection h1 with h1; subst h1
      rw [h2] at hm; cases hm
  have hsame:isIns o.op = false→∀ f ∈ FT,f.blk (L.setIfInBounds i true) = f.blk L:=by
    intro hn f hf
    rcases hF.op f hf with ⟨o',t,ti,_,_,_,_,h⟩ | ⟨o',t,_,_,_,h⟩
    · rw [h,h]
    · rw [h,h]
      congr 1
      refine (ents_same (i:=i) (fun j hj=>hother j hj) ?_ _).symm
      cases he:entOf C.T ops t0 pl f.id i with
      | none=>rfl
      | some e =>
        obtain ⟨o',ho',hq⟩:=entOf_some he
        rw [hi] at ho'; injection ho' with ho'; subst ho'
        rw [insOf_ins hq] at hn; cases hn
  have hkF:=I.step.ctx hk0
  have putF:∀ (F F':List (Nat × Blk)) (id:Nat) (blk:Blk),(∀ p ∈ F,p.1 ≤ 1000000)→(∀ p ∈ F',p.1 ≤ 1000000)→id ≤ 1000000→(∀ b x y,(b,x) ∈ F→(b,y) ∈ F→y = x)→(∀ b x y,(b,x) ∈ F'→(b,y) ∈ F'→y = x)→(id,blk) ∈ F'→(∀ b x,b ≠ id→((b,x) ∈ F'↔(b,x) ∈ F)) →
      ∀ b,(putB (addF mk F) id (some blk)).H.get b = (addF mk F').H.get b:=by
    intro F F' id blk s1 s2 hid u1 u2 hin hiff b
    rw [get_addF _ b _ s2]
    by_cases hb:b = id
    · subst hb
      rw [get_putB hid,lookF_some hin fun k' hk'=>u2 _ _ _ hin hk']
    · rw [get_putB_ne hb,get_addF _ b _ s1]
      have hl:lookF b F = lookF b F':=by
        cases hl:lookF b F with
        | some x =>
          have hx:=(hiff b x hb).2 (lookF_mem hl)
          rw [lookF_some hx fun k' hk'=>u2 _ _ _ hx hk']
        | none =>
          symm
          exact lookF_none fun x hx=>lookF_not hl x ((hiff b x hb).1 hx)
      rw [hl]
  have addMem:∀ f ∈ FT,f.op = i→isIns o.op = false→∀ (b:Nat) (x:Blk),b ≠ f.id→((b,x) ∈ fsOf FT (L.setIfInBounds i true) k↔(b,x) ∈ fsOf FT L k):=by
    intro f hf hfi hn b x hb
    constructor
    · intro hx
      obtain ⟨g,g1,g2,g3,g4,g5⟩:=fsOf_mem.1 hx
      have hgi:g.op ≠ i:=by
        intro e
        have:=hF.uop g g1 f hf (by rw [e,hfi])
        subst this
        exact hb g4.symm
      rw [hother _ hgi] at g2
      rw [hsame hn g g1] at g5
      exact fsOf_mem.2 ⟨g,g1,g2,g3,g4,g5⟩
    · intro hx
      obtain ⟨g,g1,g2,g3,g4,g5⟩:=fsOf_mem.1 hx
      exact fsOf_mem.2 ⟨g,g1,getD_set_true g2,g3,g4,by rw [hsame hn g g1]; exact g5⟩
  have hlist:∀ f ∈ FT,f.op = i→isIns o.op = false→∀ (q:Nat × Nat × Nat × Nat) (g:Flt),g ∈ FT→(L.setIfInBounds i true).getD g.op false = false→(ρ.addB f.id q).blk g.id = none:=by
    intro f hf hfi hn q g hg hgl
    by_cases hgi:g.op = i
    · rw [hgi,hself] at hgl; cases hgl
    · rw [hother _ hgi] at hgl
      have hne:g.id ≠ f.id:=by
        intro e
        have:=hF.uid g hg f hf e
        subst this
        exact hgi hfi
      rw [Env.addB_old _ hne]
      exact I.un g hg hgl
  obtain ⟨v,p1,hcase⟩:=I.now hst hi (hfact i o hi) hL hr hwin hK
  rcases hcase with ⟨ha,f,hf,hfi,rfl⟩ | ⟨ha,f,hf,hfi,rfl⟩ | ⟨ha,rfl,q,hq⟩ | ⟨ha,hq,hone⟩ | ⟨hs,hck,m2,hone,hm2⟩
  ·
    have hin0:isIns o.op = false:=by cases hop:o.op <;> rw [hop] at ha <;> first | rfl | cases ha
    obtain ⟨t,ti,h2,h3,h4⟩:∃ t ti,o.op = .alloc t∧C.T t = some ti∧∀ L,f.blk L = .cells t (ti.zero.map .lit) true:=by
      rcases hF.op f hf with ⟨o',t,ti,h1,h2,h3,_,h4⟩ | ⟨o',t,h1,h2,_⟩
      · rw [hfi,hi] at h1; injection h1 with h1; subst h1
        exact ⟨t,ti,h2,h3,h4⟩
      · rw [hfi,hi] at h1; injection h1 with h1; subst h1
        rw [h2] at ha; cases ha
    have hLf:L.getD f.op false = false:=by rw [hfi]; exact hL
    have hlate:=I.late hF hK hf hLf
    have hstill:stillOp o.op = true:=by unfold stillOp; rw [isFl_alloc ha]; simp
    have hwant:Region.wanted o (yielded ops a.tmps) = true:=by
      unfold Region.wanted; rw [hst.guard i o hi (isFl_alloc ha)]
    obtain ⟨z,hz,hzc⟩:=t_zero hC.hT h3 w
    obtain ⟨inf,zz,_,_,_,_,k5,k6,k7⟩:=(hC.hT t ti h3).info
    unfold wpOp
    rw [hi]
    simp only
    rw [if_pos hwant]
    left
    have hrun:(execOp a.eval o).run P w = .ok (.value (.pointer (some ⟨w.heap.size,0,none⟩))) (w.alloc (.cells z.cells t)):=by
      unfold execOp; rw [h2]
      simp [Instr.alloc,hz,newVar,newRow]
    unfold Oper.wp
    rw [hrun]
    have hnot:∀ x,(f.id,x) ∉ fsOf FT L k:=by
      intro x hx
      obtain ⟨g,g1,g2,g3,g4,g5⟩:=fsOf_mem.1 hx
      have:=hF.uid g g1 f hf g4
      subst this
      rw [hLf] at g2; cases g2
    have S1:StepR ρ0 m0 w0 (ρ.addB f.id (w.heap.size,0,ti.zero.length,(ti.zero.map AV.lit).length)) (putB (addF mk (fsOf FT L k)) f.id (some (f.blk (L.setIfInBounds i true)))) (w.alloc (.cells z.cells t)):=by
      refine float_new I.step (I.un f hf hLf) (hF.ge f hf) (by rw [addF_nb]; exact I.bnd f hf) ?_ (Nat.le_refl _) ?_ (fun g hg=>heap_alloc_old _ _ _ hg) (by simp) rfl rfl rfl
      · rw [get_addF _ _ _ (fs_small hF),lookF_none hnot]
        exact I.free f hf hlate
      · rw [h4]
        refine ⟨w.heap.size,0,ti.zero.length,z.cells,ti.zero,Env.addB_new _ _ _,heap_alloc_new w _,?_,by simp,gams_lits _,k7,fun j hj=>?_,fun _=>⟨rfl,by simp⟩⟩
        · rw [← hzc]; simp
        · rw [Nat.zero_add,← hzc]; simp
    have S2:StepR ρ0 m0 w0 (ρ.addB f.id (w.heap.size,0,ti.zero.length,(ti.zero.map AV.lit).length)) (addF mk (fsOf FT (L.setIfInBounds i true) k)) (w.alloc (.cells z.cells t)):=by
      refine S1.ext (putF _ _ _ _ (fs_small hF) (fs_small hF) (hF.le f hf) (fun b x y=>fs_uniq hF) (fun b x y=>fs_uniq hF) (fsOf_mem.2 ⟨f,hf,by rw [hfi]; exact hself,hlate,rfl,rfl⟩) (fun b x hb=>?_)) (by show (addF mk _).nb = _; rw [addF_nb,addF_nb]) (by show (addF mk _).nc = _; rw [addF_nc,addF_nc])
      exact addMem f hf hfi hin0 b x hb
    have hle:ρ.le (ρ.addB f.id (w.heap.size,0,ti.zero.length,(ti.zero.map AV.lit).length)):=Env.le_addB _ (I.un f hf hLf)
    refine next _ _ _ k mk (I.next hst hi hL hr p1 (x:=.pointer (some ⟨w.heap.size,0,none⟩)) ?_ hle (by rw [if_pos hstill]) (fun h=>by rw [hstill] at h; cases h) I.stage S2 (hlist f hf hfi hin0 _) I.free I.bnd)
    unfold gam; rw [Env.addB_new]
  ·
    have hin0:isIns o.op = false:=by cases hop:o.op <;> rw [hop] at ha <;> first | rfl | cases ha
    obtain ⟨t,h2,hfs,h4⟩:∃ t,o.op = .makeMap t none∧f.stage = cntL ops.toList + 1∧∀ L,f.blk L = .map (ents C.T ops t0 pl f.id (fun i=>L.getD i false) ops.size):=by
      rcases hF.op f hf with ⟨o',t,ti,h1,h2,h3,_,h4⟩ | ⟨o',t,h1,h2,h3,h4⟩
      · rw [hfi,hi] at h1; injection h1 with h1; subst h1
        rw [h2] at ha; cases ha
      · rw [hfi,hi] at h1; injection h1 with h1; subst h1
        exact ⟨t,h2,h3,h4⟩
    have hLf:L.getD f.op false = false:=by rw [hfi]; exact hL
    have hlate:=I.late hF hK hf hLf
    have hstill:stillOp o.op = true:=by unfold stillOp; rw [isFl_mk ha]; simp
    have hwant:Region.wanted o (yielded ops a.tmps) = true:=by
      unfold Region.wanted; rw [hst.guard i o hi (isFl_mk ha)]
    have hnil:f.blk (L.setIfInBounds i true) = .map []:=by
      rw [h4,ents_nil]
      intro j hj
      cases he:entOf C.T ops t0 pl f.id j with
      | none=>rfl
      | some e =>
        exfalso
        obtain ⟨o',ho',hq⟩:=entOf_some he
        obtain ⟨g,g1,g2,g3,g4⟩:=hF.ins j o' ho' _ hq
        have:=hF.uid g g1 f hf g2
        subst this
        by_cases hji:j = i
        · subst hji
          rw [hi] at ho'; injection ho' with ho'; subst ho'
          rw [insOf_ins hq] at hin0; cases hin0
        · rw [hother j hji] at hj
          have:=I.closed j o' ho' hj _ g4
          rw [hLf] at this; cases this
    unfold wpOp
    rw [hi]
    simp only
    rw [if_pos hwant]
    left
    have hrun:(execOp a.eval o).run P w = .ok (.value (.map (some w.heap.size))) (w.alloc (.map #[] 0)):=by
      unfold execOp; rw [h2]
      rfl
    unfold Oper.wp
    rw [hrun]
    have hnot:∀ x,(f.id,x) ∉ fsOf FT L k:=by
      intro x hx
      obtain ⟨g,g1,g2,g3,g4,g5⟩:=fsOf_mem.1 hx
      have:=hF.uid g g1 f hf g4
      subst this
      rw [hLf] at g2; cases g2
    have S1:StepR ρ0 m0 w0 (ρ.addB f.id (w.heap.size,0,0,0)) (putB (addF mk (fsOf FT L k)) f.id (some (f.blk (L.setIfInBounds i true)))) (w.alloc (.map #[] 0)):=by
      refine float_new I.step (I.un f hf hLf) (hF.ge f hf) (by rw [addF_nb]; exact I.bnd f hf) ?_ (Nat.le_refl _) ?_ (fun g hg=>heap_alloc_old _ _ _ hg) (by simp) rfl rfl rfl
      · rw [get_addF _ _ _ (fs_small hF),lookF_none hnot]
        exact I.free f hf hlate
      · rw [hnil]
        exact ⟨w.heap.size,#[],0,[],Env.addB_new _ _ _,heap_alloc_new w _,rfl,by simp,by simp⟩
    have S2:StepR ρ0 m0 w0 (ρ.addB f.id (w.heap.size,0,0,0)) (addF mk (fsOf FT (L.setIfInBounds i true) k)) (w.alloc (.map #[] 0)):=by
      refine S1.ext (putF _ _ _ _ (fs_small hF) (fs_small hF) (hF.le f hf) (fun b x y=>fs_uniq hF) (fun b x y=>fs_uniq hF) (fsOf_mem.2 ⟨f,hf,by rw [hfi]; exact hself,hlate,rfl,rfl⟩) (fun b x hb=>?_)) (by show (addF mk _).nb = _; rw [addF_nb,addF_nb]) (by show (addF mk _).nc = _; rw [addF_nc,addF_nc])
      exact addMem f hf hfi hin0 b x hb
    have hle:ρ.le (ρ.addB f.id (w.heap.size,0,0,0)):=Env.le_addB _ (I.un f hf hLf)
    refine next _ _ _ k mk (I.next hst hi hL hr p1 (x:=.map (some w.heap.size)) ?_ hle (by rw [if_pos hstill]) (fun h=>by rw [hstill] at h; cases h) I.stage S2 (hlist f hf hfi hin0 _) I.free I.bnd)
    unfold gam; rw [Env.addB_new]
  ·
    have hal0:isAlloc o.op = false:=by cases hop:o.op <;> rw [hop] at ha <;> first | rfl | cases ha
    have hmk0:isMk o.op = false:=by cases hop:o.op <;> rw [hop] at ha <;> first | rfl | cases ha
    have hstill:stillOp o.op = true:=by unfold stillOp; rw [isFl_ins ha]; simp
    obtain ⟨f,hf,f2,f3,f4⟩:=hF.ins i o hi q hq
    have hLf:L.getD f.op false = true:=hr _ f4
    have hkl:k < Ms.length:=(List.getElem?_eq_some_iff.1 I.stage).1
    have hlate:k ≤ f.stage:=by omega
    have h4:∀ L,f.blk L = .map (ents C.T ops t0 pl f.id (fun i=>L.getD i false) ops.size):=by
      rcases hF.op f hf with ⟨o',t,ti,h1,h2,h3,hs,h4⟩ | ⟨o',t,h1,h2,h3,h4⟩
      · omega
      · exact h4
    have hent:entOf C.T ops t0 pl f.id i = some q.2:=by
      unfold entOf
      rw [hi]
      simp only [hq]
      rw [f2,Nat.beq_refl]
      rfl
    have hperm:=ents_add (T:=C.T) (ops:=ops) (t0:=t0) (pl:=pl) (id:=f.id) (i:=i) (p:=fun j=>L.getD j false) (p':=fun j=>(L.setIfInBounds i true).getD j false) hself hL (fun j hj=>hother j hj) hent ops.size (by rw [← I.size]; exact hlt)
    have hkeys:=keysOK_nodup (hF.keys f hf f3)
    have hfresh:findS q.2.1 (ents C.T ops t0 pl f.id (fun j=>L.getD j false) ops.size) = none:=by
      refine findS_none_of fun hm=>?_
      have hsub:=((ents_sub (T:=C.T) (ops:=ops) (t0:=t0) (pl:=pl) (id:=f.id) (p:=fun j=>(L.setIfInBounds i true).getD j false) ops.size).map (·.1)).nodup hkeys
      have hn2:=((hperm.map (·.1)).nodup_iff).2 hsub
      rw [List.map_append,List.nodup_append] at hn2
      exact hn2.2.2 _ hm _ (by simp) rfl
    have hgetb:(addF mk (fsOf FT L k)).H.get f.id = some (.map (ents C.T ops t0 pl f.id (fun j=>L.getD j false) ops.size)):=by
      have hin:(f.id,f.blk L) ∈ fsOf FT L k:=fsOf_mem.2 ⟨f,hf,hLf,hlate,rfl,rfl⟩
      rw [get_addF _ _ _ (fs_small hF),lookF_some hin fun k' hk'=>fs_uniq hF hin hk',h4]
    have hone:oneA P C call ops t0 pl o (addF mk (fsOf FT L k)) = some (.lit undef,putB (addF mk (fsOf FT L k)) f.id (some (.map (ents C.T ops t0 pl f.id (fun j=>L.getD j false) ops.size ++ [q.2])))):=by
      unfold oneA
      have hw:wantedA ops (tsRef pl (afterOf o) t0) o = some true:=by
        unfold wantedA; rw [hst.guard i o hi (isFl_ins ha)]
      rw [hw]
      simp only
      rw [opK_eq]
      unfold insOf at hq
      unfold opA
      split at hq
      case h_2=>cases hq
      rename_i t mp kk xx hop
      split at hq
      case h_2=>cases hq
      rename_i it b key hit hmp hkey
      split at hq
      case h_2=>cases hq
      rename_i kt e hd
      split at hq
      case h_2=>cases hq
      rename_i ik hik
      split at hq
      case h_2=>cases hq
      rename_i hkd
      injection hq with hq
      subst hq
      simp only at f2 hfresh hgetb ⊢
      have hins:insertA C.T (addF mk (fsOf FT L k)) t (evT (tsRef pl (afterOf o) t0) mp) (evT (tsRef pl (afterOf o) t0) kk) (evT (tsRef pl (afterOf o) t0) xx) = some (putB (addF mk (fsOf FT L k)) f.id (some (.map (ents C.T ops t0 pl f.id (fun j=>L.getD j false) ops.size ++ [(key,evT (tsRef pl (afterOf o) t0) xx)])))):=by
        unfold insertA
        rw [hit,hmp,hkey]
        simp only
        rw [hd,← f2,hgetb]
        simp only
        rw [hik]
        simp only
        rw [hkd,hfresh]
      rw [hop]
      simp only
      rw [hins]
      rfl
    refine I.exec hC hcall hst h0 hi hL hr hpl hpo I.step.rel hkF hone fun ρ' w' x hx hsr=>?_
    have S1:=I.step.trans hsr
    have S2:=S1.reblk (b:=f.id) (k':=.map (ents C.T ops t0 pl f.id (fun j=>(L.setIfInBounds i true).getD j false) ops.size)) (get_putB (hF.le f hf)) (BlkRel.perm hperm)
    have S3:StepR ρ0 m0 w0 ρ' (addF mk (fsOf FT (L.setIfInBounds i true) k)) w':=by
      refine S2.ext (fun b=>?_) (by show (addF mk _).nb = _; rw [addF_nb,addF_nb]) (by show (addF mk _).nc = _; rw [addF_nc,addF_nc])
      rw [← putF (fsOf FT L k) (fsOf FT (L.setIfInBounds i true) k) f.id (.map (ents C.T ops t0 pl f.id (fun j=>(L.setIfInBounds i true).getD j false) ops.size)) (fs_small hF) (fs_small hF) (hF.le f hf) (fun b x y=>fs_uniq hF) (fun b x y=>fs_uniq hF) (fsOf_mem.2 ⟨f,hf,getD_set_true hLf,hlate,rfl,h4 _⟩) (fun b x hb=>?_) b]
      · by_cases hb:b = f.id
        · subst hb
          rw [get_putB (hF.le f hf),get_putB (hF.le f hf)]
        · rw [get_putB_ne hb,get_putB_ne hb,get_putB_ne hb]
      · have hoth2:∀ g ∈ FT,g.id ≠ f.id→g.blk (L.setIfInBounds i true) = g.blk L:=by
          intro g hg hne
          rcases hF.op g hg with ⟨o',t,ti,_,_,_,_,h⟩ | ⟨o',t,_,_,_,h⟩
          · rw [h,h]
          · rw [h,h]
            congr 1
            refine (ents_same (i:=i) (fun j hj=>hother j hj) ?_ _).symm
            cases he:entOf C.T ops t0 pl g.id i with
            | none=>rfl
            | some e =>
              exfalso
              obtain ⟨o',ho',hq'⟩:=entOf_some he
              rw [hi] at ho'; injection ho' with ho'; subst ho'
              rw [hq] at hq'; injection hq' with hq'
              rw [hq'] at f2
              exact hne f2.symm
        constructor
        · intro hx
          obtain ⟨g,g1,g2,g3,g4,g5⟩:=fsOf_mem.1 hx
          rw [hother _ (notFl hal0 hmk0 g g1)] at g2
          rw [hoth2 g g1 (by rw [g4]; exact hb)] at g5
          exact fsOf_mem.2 ⟨g,g1,g2,g3,g4,g5⟩
        · intro hx
          obtain ⟨g,g1,g2,g3,g4,g5⟩:=fsOf_mem.1 hx
          exact fsOf_mem.2 ⟨g,g1,getD_set_true g2,g3,g4,by rw [hoth2 g g1 (by rw [g4]; exact hb)]; exact g5⟩
    refine next _ _ _ k mk (I.next hst hi hL hr p1 hx hsr.le (by rw [if_pos hstill]) (fun h=>by rw [hstill] at h; cases h) I.stage S3 (fun g hg hgl=>?_) I.free I.bnd)
    rw [hother _ (notFl hal0 hmk0 g hg)] at hgl
    rw [hsr.fix _ (by rw [addF_nb]; exact I.bnd g hg)]
    exact I.un g hg hgl
  ·
    have hm1:MRel ρ mk w:=I.step.rel.drop (fs_small hF) fsfree
    have hk1:=hkF.drop (fs_small hF) fsfree
    have hstill:stillOp o.op = true:=by unfold stillOp; rw [hq]; rfl
    refine I.exec hC hcall hst h0 hi hL hr hpl hpo hm1 hk1 hone fun ρ' w' x hx hsr=>?_
    have hfr:=frame I.step.rel hsr (fs_small hF) fsfree (fun p hp=>by
      obtain ⟨f,f1,_,_,f4,_⟩:=fsOf_mem.1 (show (p.1,p.2) ∈ fsOf FT L k from hp)
      rw [← f4]; exact I.bnd f f1)
    have hfs:fsOf FT (L.setIfInBounds i true) k = fsOf FT L k:=by
      unfold fsOf
      have hfil:(FT.filter fun f=>(L.setIfInBounds i true).getD f.op false && decide (k ≤ f.stage)) = FT.filter fun f=>L.getD f.op false && decide (k ≤ f.stage):=by
        refine List.filter_congr fun f hf=>?_
        rw [hother _ (notFl (not_fl ha).1 (not_fl ha).2.1 f hf)]
      rw [hfil]
      refine List.map_congr_left fun f hf=>?_
      rw [hsame (not_fl ha).2.2 f (List.mem_filter.1 hf).1]
    refine next _ _ _ k mk (I.next hst hi hL hr p1 hx hsr.le (by rw [if_pos hstill]) (fun h=>by rw [hstill] at h; cases h) I.stage (by rw [hfs]; exact I.step.trans hfr) (fun f hf hfl=>?_) I.free I.bnd)
    rw [hother _ (notFl (not_fl ha).1 (not_fl ha).2.1 f hf)] at hfl
    rw [hsr.fix _ (I.bnd f hf)]
    exact I.un f hf hfl
  ·
    have ha0:isFl o.op = false:=by
      unfold stillOp at hs
      simp at hs
      exact hs.2
    obtain ⟨ha,hmk0,hin0⟩:=not_fl ha0
    have hkK:k ≤ cntL ops.toList:=by
      rw [← hck]; exact cntL_take_le _ _
    have blkAny:∀ f ∈ FT,f.stage ≤ cntL ops.toList→∀ L L',f.blk L = f.blk L':=by
      intro f hf hs L L'
      rcases hF.op f hf with ⟨o',t,ti,_,_,_,_,h⟩ | ⟨o',t,_,_,h3,h⟩
      · rw [h,h]
      · omega
    have hfs1:∀ (b:Nat) (x:Blk),(b,x) ∈ fsOf FT L k↔((b,x) ∈ fsOf FT (L.setIfInBounds i true) (k + 1)∨(b,x) ∈ absF FT k):=by
      intro b x
      rw [fsOf_mem,fsOf_mem,absF_mem]
      constructor
      · rintro ⟨f,f1,f2,f3,f4,f5⟩
        rcases Nat.lt_or_ge k f.stage with h | h
        · exact .inl ⟨f,f1,getD_set_true f2,h,f4,by rw [hsame hin0 f f1]; exact f5⟩
        · exact .inr ⟨f,f1,by omega,f4,by rw [← f5]; exact blkAny f f1 (by omega) _ _⟩
      · rintro (⟨f,f1,f2,f3,f4,f5⟩ | ⟨f,f1,f2,f4,f5⟩)
        · rw [hother _ (notFl ha hmk0 f f1)] at f2
          rw [hsame hin0 f f1] at f5
          exact ⟨f,f1,f2,by omega,f4,f5⟩
        · exact ⟨f,f1,hr _ (hF.stage f f1 i o hi hs (by omega)),by omega,f4,by rw [← f5]; exact blkAny f f1 (by omega) _ _⟩
    have hM:StepR ρ0 m0 w0 ρ (addF (addF mk (absF FT k)) (fsOf FT (L.setIfInBounds i true) (k + 1))) w:=by
      refine I.step.ext (fun b=>?_) (by rw [addF_nb,addF_nb,addF_nb]) (by rw [addF_nc,addF_nc,addF_nc])
      rw [get_addF _ b _ (fs_small hF),get_addF _ b _ (fs_small hF),get_addF _ b _ (ab_small hF)]
      cases hl:lookF b (fsOf FT L k) with
      | some x =>
        have hin:=lookF_mem hl
        cases hl1:lookF b (fsOf FT (L.setIfInBounds i true) (k + 1)) with
        | some y =>
          have:=fs_uniq hF hin ((hfs1 b y).2 (.inl (lookF_mem hl1)))
          rw [this]
        | none =>
          rcases (hfs1 b x).1 hin with h | h
          · exact absurd h (lookF_not hl1 x)
          · rw [lookF_some h fun k' hk'=>ab_uniq hF h hk']
      | none =>
        have hno:=lookF_not hl
        rw [lookF_none fun x hx=>hno x ((hfs1 b x).2 (.inl hx)),lookF_none fun x hx=>hno x ((hfs1 b x).2 (.inr hx))]
    have fsfree1:∀ p ∈ fsOf FT (L.setIfInBounds i true) (k + 1),(addF mk (absF FT k)).H.get p.1 = none:=by
      intro p hp
      obtain ⟨f,f1,f2,f3,f4,f5⟩:=fsOf_mem.1 (show (p.1,p.2) ∈ fsOf FT (L.setIfInBounds i true) (k + 1) from hp)
      rw [get_addF _ _ _ (ab_small hF),lookF_none fun x hx=>?_]
      · rw [← f4]; exact I.free f f1 (by omega)
      · obtain ⟨g,g1,g2,g4,g5⟩:=absF_mem.1 hx
        have:=hF.uid g g1 f f1 (by rw [g4,f4])
        subst this
        omega
    have hm1:MRel ρ (addF mk (absF FT k)) w:=hM.rel.drop (fs_small hF) fsfree1
    have hk1:=(hM.ctx hk0).drop (fs_small hF) fsfree1
    refine I.exec hC hcall hst h0 hi hL hr hpl hpo hm1 hk1 hone fun ρ' w' x hx hsr=>?_
    have hfr:=frame hM.rel hsr (fs_small hF) fsfree1 (fun p hp=>by
      obtain ⟨f,f1,_,_,f4,_⟩:=fsOf_mem.1 (show (p.1,p.2) ∈ fsOf FT (L.setIfInBounds i true) (k + 1) from hp)
      rw [← f4,addF_nb]; exact I.bnd f f1)
    have hnb:mk.nb ≤ m2.nb:=by have:=hsr.nbm; rw [addF_nb] at this; exact this
    refine next _ _ _ (k + 1) m2 (I.next hst hi hL hr p1 hx hsr.le (by rw [if_neg (by rw [hs]; simp)]) (fun _=>hck) hm2 (hM.trans hfr) (fun f hf hfl=>?_) (fun f hf hfk=>?_) (fun f hf=>Nat.lt_of_lt_of_le (I.bnd f hf) hnb))
    · rw [hother _ (notFl ha hmk0 f hf)] at hfl
      rw [hsr.fix _ (by rw [addF_nb]; exact I.bnd f hf)]
      exact I.un f hf hfl
    · cases hg:m2.H.get f.id with
      | none=>rfl
      | some kk =>
        exfalso
        rcases hsr.ids _ _ hg with ⟨k0,hk0⟩ | h
        · rw [get_addF _ _ _ (ab_small hF),lookF_none fun x hx=>?_] at hk0
          · rw [I.free f hf (by omega)] at hk0; cases hk0
          · obtain ⟨g,g1,g2,g4,g5⟩:=absF_mem.1 hx
            have:=hF.uid g g1 f hf g4
            subst this
            omega
        · rw [addF_nb] at h
          have:=I.bnd f hf
          omega
theorem filter_lt {p q:Nat→Bool}:∀ {l:List Nat},(∀ x ∈ l,q x = true→p x = true)→∀ i ∈ l,p i = true→q i = false→(l.filter q).length < (l.filter p).length
  | [],_,i,hi,_,_=>by cases hi
  | x :: l,h,i,hi,hp,hq=>by
    have hle:∀ {l:List Nat},(∀ x ∈ l,q x = true→p x = true)→(l.filter q).length ≤ (l.filter p).length:=by
      intro l h
      induction l with
      | nil=>exact Nat.le_refl _
      | cons x l ih =>
        have ih:=ih fun y hy=>h y (List.mem_cons_of_mem _ hy)
        have hx:=h x List.mem_cons_self
        rw [List.filter_cons,List.filter_cons]
        cases hq:q x <;> cases hp:p x
        · simpa using ih
        · simp; omega
        · exact absurd (hx hq) (by rw [hp]; simp)
        · simpa using ih
    have hl:=hle fun y hy=>h y (List.mem_cons_of_mem _ hy)
    have hx:=h x List.mem_cons_self
    rw [List.filter_cons,List.filter_cons]
    rcases List.mem_cons.1 hi with rfl | hi
    · rw [hp,hq]; simp; omega
    · have ih:=filter_lt (fun y hy=>h y (List.mem_cons_of_mem _ hy)) i hi hp hq
      cases hq':q x <;> cases hp':p x
      · simpa using ih
      · simp; omega
      · exact absurd (hx hq') (by rw [hp']; simp)
      · simpa using ih
def left (ops:Array Oper) (L:Array Bool):Nat:=((List.range ops.size).filter fun i=>!L.getD i false).length
theorem Inv.any (hk0:CtxOK C.B ρ0 m0 w0) (hC:CxOK P C) (hcall:CallOK C.B P call) (hst:Static ops) (hF:FTok C ops t0 pl m0 FT) (h0:TsRel ρ0 t0 a0.tmps)
    (hfact:∀ (j:Nat) (o':Oper),ops[j]? = some o'→Fact P C call ops t0 FT pl Ms j (cnt ops j) o') (hpn:pl.length = ops.size)
    (hwin:(wins ops).all (chkA P C call ops t0 pl Ms) = true) (hK:Ms.length = cntL ops.toList + 1) {Q:Exit→Act→World→Prop}
    (hend:∀ L a w ρ k mk,Inv ops FT pl Ms ρ0 m0 a0 w0 L a w ρ k mk→(∀ i,i < ops.size→L.getD i false = true)→Q .normal a w) :
    ∀ (fuel:Nat) {L:Array Bool} {a:Act} {w:World} {ρ:Env} {k:Nat} {mk:M},Inv ops FT pl Ms ρ0 m0 a0 w0 L a w ρ k mk→left ops L ≤ fuel→wpAny P .any ops Q fuel L a w:=by
  have hready:∀ {L:Array Bool} {a:Act} {w:World} {ρ:Env} {k:Nat} {mk:M},Inv ops FT pl Ms ρ0 m0 a0 w0 L a w ρ k mk→Region.ready .any ops L = []→∀ i,i < ops.size→L.getD i false = true:=by
    intro L a w ρ k mk I hnil i
    induction i using Nat.strongRecOn with
    | _ i ih =>
      intro hi
      by_cases hLi:L.getD i false = true
      · exact hLi
      · exfalso
        have hL':L.getD i false = false:=by simpa using hLi
        have ho:ops[i]? = some ops[i]:=Array.getElem?_eq_getElem hi
        have:i ∈ Region.ready .any ops L:=by
          rw [mem_ready]
          refine ⟨by rw [getD_same (by rw [I.size]; exact hi)]; exact hL',ops[i],ho,fun e he hb=>?_⟩
          have hmem:e.on ∈ afterOf ops[i]:=List.mem_map.2 ⟨e,List.mem_filter.2 ⟨by simpa using he,hb⟩,rfl⟩
          have hlt:=hst.lt i _ ho _ hmem
          exact ih e.on hlt (by omega)
        rw [hnil] at this; cases this
  intro fuel
  induction fuel with
  | zero =>
    intro L a w ρ k mk I hleft
    have hall:∀ i,i < ops.size→L.getD i false = true:=by
      intro i hi
      by_cases hLi:L.getD i false = true
      · exact hLi
      · exfalso
        have hL':L.getD i false = false:=by simpa using hLi
        have:i ∈ (List.range ops.size).filter fun i=>!L.getD i false:=List.mem_filter.2 ⟨List.mem_range.2 hi,by rw [hL']; rfl⟩
        have hlen:=List.length_pos_of_mem this
        unfold left at hleft
        omega
    refine ⟨?_,hend _ _ _ _ _ _ I hall⟩
    cases hr:Region.ready .any ops L with
    | nil=>rfl
    | cons x l =>
      exfalso
      have hx:x ∈ Region.ready .any ops L:=by rw [hr]; exact List.mem_cons_self
      rw [mem_ready] at hx
      obtain ⟨h1,o,ho,_⟩:=hx
      have hlt:=(Array.getElem?_eq_some_iff.1 ho).1
      rw [getD_same (by rw [I.size]; exact hlt),hall x hlt] at h1
      cases h1
  | succ fuel ih =>
    intro L a w ρ k mk I hleft
    refine ⟨fun hnil=>hend _ _ _ _ _ _ I (hready I hnil),fun i hi=>?_⟩
    rw [mem_ready] at hi
    obtain ⟨h1,o,ho,h2⟩:=hi
    have hlt:=(Array.getElem?_eq_some_iff.1 ho).1
    have hL:L.getD i false = false:=by rw [← getD_same (by rw [I.size]; exact hlt)]; exact h1
    have hr:∀ j ∈ afterOf o,L.getD j false = true:=by
      intro j hj
      obtain ⟨e,he,rfl⟩:=List.mem_map.1 hj
      obtain ⟨he1,he2⟩:=List.mem_filter.1 he
      exact h2 e (by simpa using he1) he2
    refine I.run hk0 hC hcall hst hF h0 ho hL hr hfact hpn hwin hK fun ρ' a' w' k' m2 I'=>ih I' ?_
    have:left ops (L.setIfInBounds i true) < left ops L:=by
      unfold left
      refine filter_lt (fun x _ hx=>?_) i (List.mem_range.2 hlt) (by rw [hL]; rfl) ?_
      · by_cases hxi:x = i
        · subst hxi; rw [hL]; rfl
        · rw [getD_set_ne false (fun e=>hxi e.symm)] at hx; exact hx
      · simp [show i < L.size by rw [I.size]; exact hlt]
    omega
end
theorem draw_ok (hm:P.follows .mixedOrders = true) (hC:CxOK P C) (call:CallT) (hcall:CallOK C.B P call):DrawOK C.B P (drawA P C call):=by
  intro ops s s' hs id ρ w a Q h hk ht hQ
  unfold drawA at hs
  split at hs
  case isFalse=>cases hs
  rename_i hstat
  have hst:=static_of hstat
  unfold drawGo at hs
  split at hs
  case isFalse=>cases hs
  rename_i hsize
  generalize hFT:fltsGo C.T ops.toList ops.toList 0 s.m.nb = FT at hs hsize
  unfold drawEnd at hs
  split at hs
  case h_2=>cases hs
  rename_i pl Ms hplan
  split at hs
  case isFalse=>cases hs
  rename_i hwm
  obtain ⟨hwin,hmaps⟩:=(Bool.and_eq_true _ _).mp hwm
  unfold mapsOK at hmaps
  obtain ⟨hmins,hmkeys⟩:=(Bool.and_eq_true _ _).mp hmaps
  split at hs
  case h_2=>cases hs
  rename_i mK hmK
  injection hs with hs; subst hs
  have fop:∀ f:Flt,(fillF C.T ops s.ts pl f).op = f.op:=fun f=>by unfold fillF; split <;> rfl
  have fid:∀ f:Flt,(fillF C.T ops s.ts pl f).id = f.id:=fun f=>by unfold fillF; split <;> rfl
  have fst:∀ f:Flt,(fillF C.T ops s.ts pl f).stage = f.stage:=fun f=>by unfold fillF; split <;> rfl
  have flow:∀ f:Flt,f.stage ≤ cntL ops.toList→fillF C.T ops s.ts pl f = f:=fun f h=>by
    unfold fillF
    rw [show Nat.beq f.stage (cntL ops.toList + 1) = false from beq_false (by omega)]
    rfl
  have fmap:∀ f:Flt,f.stage = cntL ops.toList + 1→∀ L,(fillF C.T ops s.ts pl f).blk L = .map (ents C.T ops s.ts pl f.id (fun i=>L.getD i false) ops.size):=fun f h L=>by
    unfold fillF
    rw [h,Nat.beq_refl]
    rfl
  have hsp:=fun f (hf:f ∈ FT)=>flts_spec (T:=C.T) (all:=ops.toList) (l:=ops.toList) (i:=0) (nb:=s.m.nb) f (by rw [hFT]; exact hf)
  have hkinds:∀ f ∈ FT,(∃ o t i,ops[f.op]? = some o∧o.op = .alloc t∧C.T t = some i∧f.stage ≤ cntL ops.toList∧f.stage = stageGo f.op ops.toList 0∧∀ L,f.blk L = .cells t (i.zero.map .lit) true)∨(∃ o t,ops[f.op]? = some o∧o.op = .makeMap t none∧f.stage = cntL ops.toList + 1):=by
    intro f hf
    obtain ⟨_,_,_,o,h5,h6⟩:=hsp f hf
    rcases h6 with ⟨t,k1,k2,k3⟩ | ⟨t,k1,k2⟩
    · have hle:=stageGo_le f.op ops.toList 0
      have hc:=List.all_eq_true.1 hsize.2 f hf
      rw [show Nat.beq f.stage (cntL ops.toList + 1) = false from beq_false (by omega),Bool.false_or,k3] at hc
      unfold fltBlk at hc k3
      cases hT:C.T t with
      | none=>rw [hT] at hc; cases hc
      | some i =>
        rw [hT] at k3
        exact .inl ⟨o,t,i,by simpa using h5,k1,hT,by omega,k2,fun L=>by rw [k3]⟩
    · exact .inr ⟨o,t,by simpa using h5,k1,k2⟩
  generalize hFT':FT.map (fillF C.T ops s.ts pl) = FT'
  have hmem':∀ f',f' ∈ FT'↔∃ f ∈ FT,fillF C.T ops s.ts pl f = f':=fun f'=>by rw [← hFT',List.mem_map]
  have hlen':FT'.length = FT.length:=by rw [← hFT',List.length_map]
  have hF:FTok C ops s.ts pl s.m FT':=by
    refine ⟨fun f' hf'=>?_,fun f' hf'=>?_,fun f' hf' g' hg' he=>?_,fun f' hf' g' hg' he=>?_,fun f' hf'=>?_,fun f' hf' j o hj hq hc=>?_,fun i o hi q hq=>?_,fun f' hf' hs=>?_⟩
    · obtain ⟨f,hf,rfl⟩:=(hmem' f').1 hf'
      rw [fid]; exact (hsp f hf).2.1
    · obtain ⟨f,hf,rfl⟩:=(hmem' f').1 hf'
      have:=(hsp f hf).2.2.1
      rw [hFT] at this
      rw [fid]; omega
    · obtain ⟨f,hf,rfl⟩:=(hmem' f').1 hf'
      obtain ⟨g,hg,rfl⟩:=(hmem' g').1 hg'
      rw [fid,fid] at he
      rw [(flts_uniq (T:=C.T) (all:=ops.toList) (l:=ops.toList) (i:=0) (nb:=s.m.nb) f (by rw [hFT]; exact hf) g (by rw [hFT]; exact hg)).1 he]
    · obtain ⟨f,hf,rfl⟩:=(hmem' f').1 hf'
      obtain ⟨g,hg,rfl⟩:=(hmem' g').1 hg'
      rw [fop,fop] at he
      rw [(flts_uniq (T:=C.T) (all:=ops.toList) (l:=ops.toList) (i:=0) (nb:=s.m.nb) f (by rw [hFT]; exact hf) g (by rw [hFT]; exact hg)).2 he]
    · obtain ⟨f,hf,rfl⟩:=(hmem' f').1 hf'
      rcases hkinds f hf with ⟨o,t,i,k1,k2,k3,k4,k5,k6⟩ | ⟨o,t,k1,k2,k3⟩
      · rw [flow f k4]
        exact .inl ⟨o,t,i,k1,k2,k3,k4,k6⟩
      · refine .inr ⟨o,t,by rw [fop]; exact k1,k2,by rw [fst]; exact k3,fun L=>?_⟩
        rw [fid]; exact fmap f k3 L
    · obtain ⟨f,hf,rfl⟩:=(hmem' f').1 hf'
      rw [fst] at hc
      rw [fop]
      rcases hkinds f hf with ⟨o',t,i,k1,k2,k3,k4,k5,k6⟩ | ⟨o',t,k1,k2,k3⟩
      · refine stageGo_spec f.op ops.toList 0 (j:=j) (by simpa using hj) hq ?_
        rw [Nat.zero_add,← k5]; exact hc
      · have:cnt ops j ≤ cntL ops.toList:=cntL_take_le _ _
        omega
    · have hlt:=(Array.getElem?_eq_some_iff.1 hi).1
      have hin:=List.all_eq_true.1 hmins i (List.mem_range.2 hlt)
      unfold insOK at hin
      rw [hi] at hin
      simp only at hin
      rw [insOf_ins hq,hq] at hin
      simp only [Bool.not_true,Bool.false_or] at hin
      obtain ⟨f,hf,hb⟩:=List.any_eq_true.1 hin
      simp only [Bool.and_eq_true,List.contains_iff_mem] at hb
      exact ⟨fillF C.T ops s.ts pl f,(hmem' _).2 ⟨f,hf,rfl⟩,by rw [fid]; exact Nat.eq_of_beq_eq_true hb.1,by rw [fst]; exact Nat.eq_of_beq_eq_true hb.2.1,by rw [fop]; exact hb.2.2⟩
    · obtain ⟨f,hf,rfl⟩:=(hmem' f').1 hf'
      rw [fst] at hs
      have:=List.all_eq_true.1 hmkeys f hf
      rw [hs,Nat.beq_refl] at this
      rw [fid]
      simpa using this
  generalize hM0:({ s.m with nb:=s.m.nb + FT.length }:M) = M0 at hplan
  obtain ⟨⟨x,hx⟩,⟨y,hy⟩,hlen,hmlen,hfacts⟩:=plan_fact ops.toList [] [M0] M0 0 hplan rfl rfl (fun k o hk j hj=>by
    have:=hst.lt k o (by simpa using hk) j hj
    simpa using this)
  have habs:∀ c,c ≤ cntL ops.toList→absF FT' c = absF FT c:=by
    intro c hc
    unfold absF
    rw [← hFT',List.filter_map,List.map_map]
    have hfil:FT.filter ((fun f=>Nat.beq f.stage c) ∘ fillF C.T ops s.ts pl) = FT.filter fun f=>Nat.beq f.stage c:=by
      refine List.filter_congr fun f _=>?_
      simp only [Function.comp_apply,fst]
    rw [hfil]
    refine List.map_congr_left fun f hf=>?_
    have:=Nat.eq_of_beq_eq_true (List.mem_filter.1 hf).2
    simp only [Function.comp_apply]
    rw [flow f (by omega)]
  have hfact:∀ (j:Nat) (o':Oper),ops[j]? = some o'→Fact P C call ops s.ts FT' pl Ms j (cnt ops j) o':=by
    intro j o' hj
    have:=hfacts j o' (by simpa using hj)
    obtain ⟨v,f1,f2,f3,f4,f5,f6⟩:Fact P C call ops s.ts FT pl Ms j (cnt ops j) o':=by simpa [cnt] using this
    refine ⟨v,f1,fun h=>?_,fun h=>?_,f4,f5,fun h=>?_⟩
    · obtain ⟨f,hf,g1,g2⟩:=f2 h
      exact ⟨fillF C.T ops s.ts pl f,(hmem' _).2 ⟨f,hf,rfl⟩,by rw [fop]; exact g1,by rw [fid]; exact g2⟩
    · obtain ⟨f,hf,g1,g2⟩:=f3 h
      exact ⟨fillF C.T ops s.ts pl f,(hmem' _).2 ⟨f,hf,rfl⟩,by rw [fop]; exact g1,by rw [fid]; exact g2⟩
    · rw [habs (cnt ops j) (cntL_take_le _ _)]
      exact f6 h
  have hpn:pl.length = ops.size:=by simpa using hlen
  have hK:Ms.length = cntL ops.toList + 1:=by omega
  have hd:=StepR.drew1 h
  have hM0nb:M0.nb = s.m.nb + FT.length:=by rw [← hM0]
  have hM0g:∀ b,M0.H.get b = s.m.H.get b:=fun b=>by rw [← hM0]
  have S0:StepR ρ s.m w.drew ρ M0 w.drew:=by
    have hr:=hd.rel
    refine ⟨.refl _,⟨fun i hi=>hr.nb i (by omega),fun i hi=>hr.nc i (by rw [← hM0] at hi; exact hi),fun b k hb=>hr.live b k (by rw [← hM0g]; exact hb),fun b b' k k' q q' h1 h2=>hr.inj b b' k k' q q' (by rw [← hM0g]; exact h1) (by rw [← hM0g]; exact h2),by rw [hM0nb]; exact hsize.1⟩,fun _ _ _=>rfl,fun g hg => .inr (hg.ext fun b=>(hM0g b).symm),Nat.le_refl _,rfl,rfl,rfl,by omega,fun _ _=>rfl,fun b k hb => .inl ⟨k,by rw [← hM0g]; exact hb⟩,by rw [← hM0]; exact Nat.le_refl _,fun _ _ h => .inl h⟩
  refine wp_region_any hm ?_
  show wpAny P .any ops Q ops.size (Array.replicate ops.size false) a w.drew
  have hno:∀ i:Nat,(Array.replicate ops.size false).getD i false = false:=by
    intro i
    by_cases hi:i < ops.size
    · simp [hi]
    · simp [hi]
  have hfs0:fsOf FT' (Array.replicate ops.size false) 0 = []:=by
    unfold fsOf
    rw [List.map_eq_nil_iff,List.filter_eq_nil_iff]
    intro f hf
    rw [hno]; simp
  have I0:Inv ops FT' pl Ms ρ s.m a w.drew (Array.replicate ops.size false) a w.drew ρ 0 M0:=by
    refine ⟨by simp,(fun i o hi hL=>by rw [hno] at hL; cases hL),fun i o hi hq=>?_,by rw [hy]; rfl,by rw [hfs0]; exact S0,fun f hf _=>hd.rel.nb _ (hF.ge f hf),fun f hf _=>?_,fun f hf=>?_,fun d _=>rfl,(fun i o d v hi hL=>by rw [hno] at hL; cases hL),rfl,rfl⟩
    · rw [hno]; simp
    · rw [hM0g]
      cases hg:s.m.H.get f.id with
      | none=>rfl
      | some k =>
        have:=h.lt hg
        have:=hF.ge f hf
        omega
    · obtain ⟨f0,hf0,rfl⟩:=(hmem' f).1 hf
      have:=(hsp f0 hf0).2.2.1
      rw [hFT] at this
      rw [hM0nb,fid]
      exact this
  refine Inv.any (hd.ctx hk) hC hcall hst hF (ht.ts) hfact hpn hwin hK ?_ ops.size I0 ?_
  · intro L a' w' ρ' k mk I hall
    have hkK:k = cntL ops.toList:=by
      have hk1:k < Ms.length:=(List.getElem?_eq_some_iff.1 I.stage).1
      rcases Nat.lt_or_ge k (cntL ops.toList) with h1 | h1
      · exfalso
        obtain ⟨j,o,g1,g2,g3⟩:=cnt_hit ops.toList k h1
        have hj:ops[j]? = some o:=by simpa using g1
        have:=(I.eff j o hj g2).1 (hall j (Array.getElem?_eq_some_iff.1 hj).1)
        have hc:cnt ops j = k:=g3
        omega
      · omega
    have hmk:mk = mK:=by
      have:=I.stage
      rw [hkK,hmK] at this; injection this with this; exact this.symm
    subst hmk
    have hmem:∀ (b:Nat) (x:Blk),(b,x) ∈ fsOf FT' L k↔(b,x) ∈ absF FT (cntL ops.toList) ++ mapsF C.T ops s.ts pl FT:=by
      intro b x
      rw [fsOf_mem,List.mem_append,absF_mem]
      unfold mapsF
      rw [List.mem_map]
      have hlist:∀ f ∈ FT,L.getD f.op false = true:=by
        intro f hf
        rcases hkinds f hf with ⟨o,t,i,k1,_⟩ | ⟨o,t,k1,_⟩
        · exact hall _ (Array.getElem?_eq_some_iff.1 k1).1
        · exact hall _ (Array.getElem?_eq_some_iff.1 k1).1
      have hall':∀ id,ents C.T ops s.ts pl id (fun i=>L.getD i false) ops.size = ents C.T ops s.ts pl id (fun _=>true) ops.size:=fun id=>ents_all hall
      constructor
      · rintro ⟨f',f1,f2,f3,f4,f5⟩
        obtain ⟨f,hf,rfl⟩:=(hmem' f').1 f1
        rw [fst] at f3
        rw [fid] at f4
        rcases hkinds f hf with ⟨o,t,i,k1,k2,k3,k4,k5,k6⟩ | ⟨o,t,k1,k2,k3⟩
        · rw [flow f k4] at f5
          exact .inl ⟨f,hf,by omega,f4,by rw [← f5,k6,k6]⟩
        · rw [fmap f k3,hall'] at f5
          exact .inr ⟨f,List.mem_filter.2 ⟨hf,by rw [k3]; exact Nat.beq_refl _⟩,by rw [← f5,f4]⟩
      · rintro (⟨f,f1,f2,f4,f5⟩ | ⟨f,f1,f2⟩)
        · refine ⟨fillF C.T ops s.ts pl f,(hmem' _).2 ⟨f,f1,rfl⟩,by rw [fop]; exact hlist f f1,by rw [fst]; omega,by rw [fid]; exact f4,?_⟩
          rcases hkinds f f1 with ⟨o,t,i,k1,k2,k3,k4,k5,k6⟩ | ⟨o,t,k1,k2,k3⟩
          · rw [flow f k4,← f5,k6,k6]
          · omega
        · obtain ⟨g1,g2⟩:=List.mem_filter.1 f1
          have g3:=Nat.eq_of_beq_eq_true g2
          injection f2 with e1 e2
          exact ⟨fillF C.T ops s.ts pl f,(hmem' _).2 ⟨f,g1,rfl⟩,by rw [fop]; exact hlist f g1,by rw [fst,g3]; omega,by rw [fid]; exact e1,by rw [fmap f g3,hall']; exact e2⟩
    have small2:∀ p ∈ absF FT (cntL ops.toList) ++ mapsF C.T ops s.ts pl FT,p.1 ≤ 1000000:=by
      intro p hp
      exact fs_small hF p ((hmem p.1 p.2).2 hp)
    have Sfin:StepR ρ s.m w.drew ρ' (addF mk (absF FT (cntL ops.toList) ++ mapsF C.T ops s.ts pl FT)) w':=by
      refine I.step.ext (fun b=>?_) (by rw [addF_nb,addF_nb]) (by rw [addF_nc,addF_nc])
      rw [get_addF _ b _ (fs_small hF),get_addF _ b _ small2]
      cases hl:lookF b (fsOf FT' L k) with
      | some x =>
        have h1:=(hmem b x).1 (lookF_mem hl)
        rw [lookF_some h1 fun k' hk'=>fs_uniq hF (lookF_mem hl) ((hmem b k').2 hk')]
      | none =>
        rw [lookF_none fun x hx=>lookF_not hl x ((hmem b x).2 hx)]
    refine hQ ρ' a' w' (hd.trans Sfin) ⟨?_,?_⟩
    · intro d
      show (match getR (finT pl s.ts) d with | some v=>∃ y,a'.tmps[d]? = some y∧gam ρ' v = some y | none=>a'.tmps[d]? = none)
      rcases finT_get pl s.ts d with ⟨j,v,h1,h2⟩ | ⟨h1,h2⟩
      · rw [h2]
        cases htd:getR s.ts d with
        | none =>
          show a'.tmps[d]? = none
          have:=ht.ts.no htd
          rw [Array.getElem?_eq_none_iff] at this ⊢
          rw [I.tsz]; exact this
        | some u =>
          obtain ⟨y0,hy0,_⟩:=ht.ts.at_ htd
          have hlt:=(Array.getElem?_eq_some_iff.1 hy0).1
          have hjl:=(List.getElem?_eq_some_iff.1 h1).1
          have hj:ops[j]? = some ops[j]:=Array.getElem?_eq_getElem (by omega)
          obtain ⟨v',hv',_⟩:=hfact j _ hj
          have hdst:(ops[j]'(by omega)).dst = some d:=by
            rw [h1] at hv'; injection hv' with hv'; injection hv' with e1 e2; exact e1.symm
          exact I.new j _ d v hj (hall j (by omega)) hdst h1 hlt
      · rw [h2]
        have hold:a'.tmps[d]? = a.tmps[d]?:=by
          refine I.old d fun j o hj hL hdst=>?_
          obtain ⟨v',hv',_⟩:=hfact j o hj
          exact h1 j v' (by rw [hv',hdst])
        rw [hold]
        exact (ht.ts.mono I.step.le) d
    · rw [I.defs]; exact ht.ds.mono I.step.le
  · have:left ops (Array.replicate ops.size false) ≤ (List.range ops.size).length:=List.length_filter_le _ _
    simpa using this
end Go.Sym
end
section
namespace Go.Sym
open Go
variable {P:Program}
def fldsOf (P:Program) (d:TypeDesc):Option (List (Nat × Nat × TypeId)) :=
  match d with
  | .struct fs=>fs.toList.mapM fun f=>(P.info? f.type).map fun i=>(f.offset,i.size,f.type)
  | _=>some []
def tinfOf (P:Program) (t:TypeId):Option TInf :=
  match P.info? t,P.underlying t with
  | some inf,some d=>match inf.zero,fldsOf P d with
    | some z,some fl=>if z.cells.toList.length = inf.size∧z.cells.toList.all Value.oneCell' = true then some { desc:=d,agg:=aggD d,size:=inf.size,bytes:=inf.bytes,zero:=z.cells.toList,zv:=z,flds:=fl } else none
    | _,_=>none
  | _,_=>none
theorem flds_mapM:∀ {l:List Field} {fl:List (Nat × Nat × TypeId)},(l.mapM fun f=>(P.info? f.type).map fun i=>(f.offset,i.size,f.type)) = some fl →
    (l.mapM fun f=>(P.info? f.type).map fun i=>(f.offset,i.size)) = some (fl.map fun q=>(q.1,q.2.1))∧l.map (·.type) = fl.map (·.2.2)
  | [],fl,h=>by
    simp at h; subst h; exact ⟨rfl,rfl⟩
  | f :: l,fl,h=>by
    simp only [List.mapM_cons,Option.bind_eq_bind,Option.pure_def] at h
    cases hi:P.info? f.type with
    | none=>simp [hi] at h
    | some i =>
      cases hr:l.mapM (fun f=>(P.info? f.type).map fun i=>(f.offset,i.size,f.type)) with
      | none=>simp [hi,hr] at h
      | some r =>
        simp [hi,hr] at h
        subst h
        obtain ⟨h1,h2⟩:=flds_mapM hr
        refine ⟨?_,by simp [h2]⟩
        simp only [List.mapM_cons,Option.bind_eq_bind,Option.pure_def,hi,h1]
        rfl
theorem tinf_ok:TOK P (tinfOf P):=by
  intro t i h
  unfold tinfOf at h
  split at h
  case h_2=>cases h
  rename_i inf d hinf hd
  split at h
  case h_2=>cases h
  rename_i z fl hz hfl
  split at h
  case isFalse=>cases h
  rename_i hc
  injection h with h; subst h
  refine ⟨hd,rfl,⟨inf,z,hinf,rfl,rfl,hz,rfl,hc.1,fun x hx=>List.all_eq_true.1 hc.2 x hx⟩,by simp [hinf,hz],fun fs hfs=>?_⟩
  simp only at hfs
  subst hfs
  exact flds_mapM hfl
def funOf (P:Program) (f:FuncId):Option Func :=
  match P.funcs[f]? with
  | some fn=>if fn.name == "runtime.NumGoroutine" then none else some fn
  | none=>none
theorem fun_ok:∀ f fn,funOf P f = some fn→P.funcs[f]? = some fn∧(fn.name == "runtime.NumGoroutine") = false:=by
  intro f fn h
  unfold funOf at h
  split at h
  · rename_i g hg
    split at h
    · cases h
    · rename_i hn
      injection h with h; subst h
      exact ⟨hg,by simpa using hn⟩
  · cases h
def methOf (P:Program) (t:TypeId) (name:String):Option FuncId :=
  match P.info? t,P.underlying t with
  | some inf,some d=>match inf.methods.find? (·.name == name) with
    | some mth=>match mth.path.toList,mth.func with
      | [],some (g,p)=>if recvD d p then some g else none
      | _,_=>none
    | none=>none
  | _,_=>none
theorem meth_ok:∀ t name g,methOf P t name = some g→∃ inf mth p d,P.info? t = some inf∧inf.methods.find? (·.name == name) = some mth∧mth.path = #[]∧mth.func = some (g,p)∧P.underlying t = some d∧recvD d p = true:=by
  intro t name g h
  unfold methOf at h
  split at h
  case h_2=>cases h
  rename_i inf d hinf hd
  split at h
  case h_2=>cases h
  rename_i mth hm
  split at h
  case h_2=>cases h
  rename_i g' p hp hf
  split at h
  case isFalse=>cases h
  rename_i hr
  injection h with h; subst h
  exact ⟨inf,mth,p,d,hinf,hm,by rw [← Array.toList_inj,hp],hf,hd,hr⟩
end Go.Sym
end
section
namespace Go.Sym
open Go
variable {P:Program}
def Entry (P:Program) (f:FuncId) (e:Array Value→Sem Value):Prop :=
  ∃ fn,P.funcs[f]? = some fn∧(fn.name == "runtime.NumGoroutine") = false∧fn.body.isNone = true∧Extern.findNext fn = none∧Extern.find fn = some e
theorem Entry.run {f:FuncId} {e:Array Value→Sem Value} (h:Entry P f e) (xs:Array Value) (w:World):(callFunc f xs).run P w = ((e xs).run P w).andThen fun v w' => .ok (.value v) w':=by
  obtain ⟨fn,h1,h2,h3,h4,h5⟩:=h
  exact run_callFunc_extern h1 h2 h3 h4 h5 xs w
structure Exts where
  esc:FuncId
  mkz:FuncId
  idx:FuncId
  cnt:FuncId
  ps:Array TypeId
  t:TypeId
  e:TypeId
structure ExtsOK (P:Program) (X:Exts):Prop where
  esc:Entry P X.esc Extern.AbiNoEscape.same
  mkz:Entry P X.mkz (Extern.BytealgMakeNoZero.makeNoZero X.ps #[X.t])
  und:P.underlying X.t = some (.slice X.e)
  idx:Entry P X.idx Extern.BytealgIndexByte.indexByte
  cnt:Entry P X.cnt Extern.BytealgCount.count
def litOf (m:M):Option Value→Option (AV × M)
  | some v=>some (.lit v,m)
  | none=>none
def extA (P:Program) (X:Exts):FuncId→List AV→M→Option (AV × M):=fun f args m =>
  if f = X.esc then (match args with
    | [x]=>some (x,m)
    | _=>none)
  else if f = X.mkz then (match args with
    | [.lit (.int .i64 (.ofNat n))]=>if n ≤ 16777216 then (match newB m (.cells X.e [] false) with
      | some m'=>some (.slc m.nb 0 n 1 (.lo m.nc 0),{ m' with nc:=m.nc + 1 })
      | none=>none) else none
    | _=>none)
  else if f = X.idx then (match args with
    | [.lit x, .lit c]=>litOf m (runPure P (Extern.BytealgIndexByte.indexByte #[x,c]))
    | _=>none)
  else if f = X.cnt then (match args with
    | [.lit x, .lit c]=>litOf m (runPure P (Extern.BytealgCount.count #[x,c]))
    | _=>none)
  else none
theorem ext_ok {X:Exts} (hX:ExtsOK P X):∀ f args m r m',extA P X f args m = some (r,m')→∀ ρ w xs,MRel ρ m w→gams ρ args = some xs→∃ ρ' w' x,(callFunc f xs.toArray).run P w = .ok (.value x) w'∧gam ρ' r = some x∧StepR ρ m w ρ' m' w':=by
  intro f args m r m' hs ρ w xs h hx
  have two:∀ (x c:Value),args = [.lit x, .lit c]→xs = [x,c]:=by
    rintro x c rfl
    obtain ⟨p,q,h1,h2,rfl⟩:=gams_cons.1 hx
    obtain ⟨p2,q2,k1,k2,rfl⟩:=gams_cons.1 h2
    rw [gams] at k2; injection k2 with k2; subst k2
    simp only [gam] at h1 k1
    injection h1 with h1; injection k1 with k1
    rw [h1,k1]
  unfold extA at hs
  split at hs
  · rename_i hf
    subst hf
    split at hs
    case h_2=>cases hs
    rename_i x
    injection hs with hs; injection hs with e1 e2; subst e1; subst e2
    obtain ⟨p,q,h1,h2,rfl⟩:=gams_cons.1 hx
    rw [gams] at h2; injection h2 with h2; subst h2
    refine ⟨ρ,w,p,?_,h1, .refl h⟩
    rw [hX.esc.run]
    rfl
  split at hs
  · rename_i hf
    subst hf
    split at hs
    case h_2=>cases hs
    rename_i n
    split at hs
    case isFalse=>cases hs
    rename_i hn
    split at hs
    case h_2=>cases hs
    rename_i m1 hm
    injection hs with hs; injection hs with e1 e2; subst e1; subst e2
    obtain ⟨p,q,h1,h2,rfl⟩:=gams_cons.1 hx
    rw [gams] at h2; injection h2 with h2; subst h2
    simp only [gam] at h1; injection h1 with h1; subst h1
    obtain ⟨cs,hrun,hle,_⟩:=Lib.run_makeNoZero_cap (P:=P) w X.ps X.t X.e hX.und n (by omega)
    have hd:=(StepR.drew1 h).trans (StepR.drew1 (StepR.drew1 h).rel)
    have hs:=new_row hd.rel X.e (cs:=[]) (xs:=[]) rfl (fun x hx=>by cases hx) hm cs.toList (some cs.size) (fun h=>by cases h)
    rw [List.nil_append,Array.toArray_toList] at hs
    refine ⟨_,_, .slice (some ⟨w.heap.size,0,none⟩) n cs.size,?_,?_,hd.trans hs⟩
    · rw [hX.mkz.run]
      have:(Extern.BytealgMakeNoZero.makeNoZero X.ps #[X.t] #[.int .i64 (Int.ofNat n)]).run P w = _:=hrun
      rw [show ([Value.int IntKind.i64 (Int.ofNat n)]:List Value).toArray = #[.int .i64 (Int.ofNat n)] from rfl,this]
      rfl
    · exact add_slc_lo ρ m _ _ _ _ n 1 cs.size _ _ rfl rfl hle (by simp) (by simp)
  split at hs
  · rename_i hf
    subst hf
    split at hs
    case h_2=>cases hs
    rename_i x c
    obtain rfl:=two x c rfl
    cases hp:runPure P (Extern.BytealgIndexByte.indexByte #[x,c]) with
    | none=>rw [hp] at hs; cases hs
    | some v =>
      rw [hp] at hs
      injection hs with hs; injection hs with e1 e2; subst e1; subst e2
      refine ⟨ρ,w,v,?_,rfl, .refl h⟩
      rw [hX.idx.run]
      rw [show ([x,c]:List Value).toArray = #[x,c] from rfl,runPure_run hp w]
      rfl
  split at hs
  · rename_i hf
    subst hf
    split at hs
    case h_2=>cases hs
    rename_i x c
    obtain rfl:=two x c rfl
    cases hp:runPure P (Extern.BytealgCount.count #[x,c]) with
    | none=>rw [hp] at hs; cases hs
    | some v =>
      rw [hp] at hs
      injection hs with hs; injection hs with e1 e2; subst e1; subst e2
      refine ⟨ρ,w,v,?_,rfl, .refl h⟩
      rw [hX.cnt.run]
      rw [show ([x,c]:List Value).toArray = #[x,c] from rfl,runPure_run hp w]
      rfl
  · cases hs
def cxOf (P:Program) (X:Exts) (B:Base) (q:Tb):Cx:={ T:=tinfOf P,F:=funOf P,Mth:=methOf P,ext:=extA P X,B:=B,tb:=q }
def noTb:Tb:=⟨fun _ _ _=>none,fun _ _=>none,fun _=>none,fun _=>none,fun _ _=>none⟩
theorem noTb_ok {B:Base}:TbOK P B noTb:=⟨(fun _ _ _ _ h=>nomatch h),(fun _ _ _ h=>nomatch h),(fun _ _ h=>nomatch h),(fun _ _ h=>nomatch h),(fun _ _ _ h=>nomatch h)⟩
theorem cx_ok {X:Exts} (hX:ExtsOK P X) {B:Base} {q:Tb} (hq:TbOK P B q):CxOK P (cxOf P X B q):=⟨tinf_ok,fun_ok,meth_ok,ext_ok hX,hq⟩
end Go.Sym
end
section
namespace Go.Sym
open Go Go.RowKit
variable {P:Program} {ρ:Env} {m m':M} {w w':World}
theorem StepR.of_below (h:MRel ρ m w) (hb:Below w.heap.size w w'):StepR ρ m w ρ m w':=by
  refine ⟨.refl _,⟨h.nb,h.nc,fun b k hk=>(h.live b k hk).mono (.refl _) fun q hq=>?_,h.inj,h.small⟩,fun g hg _=>hb.block g hg,fun g hg => .inr hg,hb.size,hb.os,hb.tape,hb.output,Nat.le_refl _,fun _ _=>rfl,fun _ k hk => .inl ⟨k,hk⟩,Nat.le_refl _,fun _ _ h => .inl h⟩
  obtain ⟨q0,hq0,hlt⟩:=(h.live b k hk).at_
  rw [hq0] at hq; injection hq with hq; subst hq
  exact hb.block _ hlt
structure Under (B:Base) (w:World):Prop where
  size:B.N ≤ w.heap.size
  old:∀ g,g < B.N→w.heap[g]? = B.W.heap[g]?
theorem CtxOK.under {B:Base} {ρ:Env} {m:M} {w:World} (h:CtxOK B ρ m w):Under B w:=⟨h.size,h.old⟩
theorem Under.below {B:Base} {w w':World} (h:Under B w) {n:Nat} (hb:Below n w w') (hn:B.N ≤ n):Under B w' :=
  ⟨Nat.le_trans h.size hb.size,fun g hg=>(hb.block g (by omega)).trans (h.old g hg)⟩
def orcOr (a b:CallT):CallT:=fun f args m =>
  match a f args m with
  | some r=>some r
  | none=>b f args m
theorem orcOr_ok {B:Base} {a b:CallT} (ha:CallOK B P a) (hb:CallOK B P b):CallOK B P (orcOr a b):=by
  intro f args m r m' hs
  unfold orcOr at hs
  split at hs
  · rename_i q hq
    injection hs with hs; subst hs
    exact ha f args m r m' hq
  · exact hb f args m r m' hs
end Go.Sym
end
section
namespace Go.Sym
open Go
variable {P:Program}
def mapEq:List (ByteArray × AV)→List (ByteArray × AV)→Bool
  | [],[]=>true
  | a :: x,b :: y=>decide (a.1.data.toList = b.1.data.toList) && avEq a.2 b.2 && mapEq x y
  | _,_=>false
theorem mapEq_eq:∀ {a b:List (ByteArray × AV)},mapEq a b = true→a = b
  | [],[],_=>rfl
  | [],_ :: _,h=>by cases h
  | _ :: _,[],h=>by cases h
  | a :: x,b :: y,h=>by
    unfold mapEq at h
    simp only [Bool.and_eq_true,decide_eq_true_eq] at h
    rw [mapEq_eq h.2,show a = b from Prod.ext (bytes_ext h.1.1) (avEq_eq h.1.2)]
def blkEq:Blk→Blk→Bool
  | .cells e a t, .cells f b u=>Nat.beq e f && avsEq a b && (t == u)
  | .map a, .map b=>mapEq a b
  | .iter s p, .iter t q=>decide (s.data.toList = t.data.toList) && Nat.beq p q
  | _,_=>false
theorem blkEq_eq {a b:Blk} (h:blkEq a b = true):a = b:=by
  unfold blkEq at h
  split at h
  · simp only [Bool.and_eq_true,beq_iff_eq] at h
    rw [Nat.eq_of_beq_eq_true h.1.1,avsEq_eq h.1.2,h.2]
  · rw [mapEq_eq h]
  · simp only [Bool.and_eq_true,decide_eq_true_eq] at h
    rw [bytes_ext h.1,Nat.eq_of_beq_eq_true h.2]
  · cases h
def optBlkEq:Option Blk→Option Blk→Bool
  | none,none=>true
  | some a,some b=>blkEq a b
  | _,_=>false
theorem optBlkEq_eq {a b:Option Blk} (h:optBlkEq a b = true):a = b:=by
  cases a <;> cases b
  · rfl
  · cases h
  · cases h
  · rw [blkEq_eq h]
structure Ran where
  f:FuncId
  args:List AV
  m:M
  r:AV
  m':M
end Go.Sym
end
section
namespace Go.Sym
open Go Go.RowKit
variable {P:Program}
def Env.none:Env:=⟨fun _=>Option.none,fun _=>Option.none,fun _=>Option.none⟩
theorem get_nothing (b:Nat):({}:M).H.get b = none:=rfl
theorem mrel_nothing (w:World):MRel Env.none {} w :=
  ⟨fun _ _=>rfl,fun _ _=>rfl,(fun b k h=>by rw [get_nothing] at h; cases h),(fun b _ k _ _ _ h=>by rw [get_nothing] at h; cases h),by show 0 ≤ 1000000; omega⟩
theorem ctx_nothing {B:Base} (hA:∀ i,B.A i = Option.none) {w:World} (hw:Under B w):CtxOK B Env.none {} w :=
  ⟨hw.size,hw.old,(fun g h=>by obtain ⟨b,k,q,h,_⟩:=h; rw [get_nothing] at h; cases h),(fun i x h=>by rw [hA] at h; cases h),(fun n v h=>nomatch (show Option.none = some v from h)),fun i x h=>by rw [hA] at h; cases h⟩
theorem whole {B:Base} (hA:∀ i,B.A i = Option.none) {call:CallT} (hcall:CallOK B P call) {f:FuncId} {xs:List Value} {v:Value} {m':M} (h:call f (xs.map .lit) {} = some (.lit v,m')) (w:World) (hw:Under B w) :
    Calls P f xs.toArray w fun e w'=>e = .returned v∧Below w.heap.size w w':=by
  refine (hcall f _ _ _ _ h Env.none w xs.toArray (mrel_nothing w) (ctx_nothing hA hw) (by simpa using gams_lits xs)).mono ?_
  rintro e w' ⟨ρ',x,rfl,hx,S⟩
  simp only [gam] at hx; injection hx with hx; subst hx
  refine ⟨rfl,S.os,S.tape,S.output,S.size,fun k hk=>S.keep k hk ?_⟩
  rintro ⟨b,kk,q,hb,_⟩
  rw [get_nothing] at hb; cases hb
end Go.Sym
end
section
namespace Go.Sym
open Go
variable {P:Program} {ρ ρ':Env} {m m' m1 m2:M} {w w':World}
structure Sub (m1 m:M):Prop where
  get:∀ b k,m1.H.get b = some k→m.H.get b = some k
  nb:m1.nb = m.nb
  nc:m1.nc = m.nc
theorem Sub.live (h:Sub m1 m) {g:Nat} (hl:Live ρ m1 g):Live ρ m g:=by
  obtain ⟨b,k,q,h1,h2,h3⟩:=hl
  exact ⟨b,k,q,h.get b k h1,h2,h3⟩
theorem MRel.sub (h:MRel ρ m w) (hs:Sub m1 m):MRel ρ m1 w :=
  ⟨fun i hi=>h.nb i (by rw [← hs.nb]; exact hi),fun i hi=>h.nc i (by rw [← hs.nc]; exact hi),fun b k hb=>h.live b k (hs.get b k hb),fun b b' k k' q q' h1 h2=>h.inj b b' k k' q q' (hs.get b k h1) (hs.get b' k' h2),by rw [hs.nb]; exact h.small⟩
theorem StepR.gc {ρ0:Env} {m0:M} {w0:World} (S:StepR ρ0 m0 w0 ρ m w) (hs:Sub m1 m):StepR ρ0 m0 w0 ρ m1 w :=
  ⟨S.le,S.rel.sub hs,S.keep,fun g hg=>S.fresh g (hs.live hg),S.size,S.os,S.tape,S.output,by rw [hs.nb]; exact S.nbm,S.fix,fun b k hb=>S.ids b k (hs.get b k hb),by rw [hs.nc]; exact S.ncm,fun n v hn=>by
    rcases S.ats n v hn with hx | ⟨h1,h2,h3,gh,h4,h5⟩
    · exact .inl hx
    · exact .inr ⟨h1,h2,by rw [hs.nc]; exact h3,gh,h4,h5.mono fun g hg _=>⟨rfl,hg.1,fun hl=>hg.2 (hs.live hl)⟩⟩⟩
theorem StepR.wide (S:StepR ρ m1 w ρ' m' w') (hs:Sub m1 m):StepR ρ m w ρ' m' w' :=
  ⟨S.le,S.rel,fun g hg hn=>S.keep g hg (fun hl=>hn (hs.live hl)),fun g hg=>by
      rcases S.fresh g hg with h | h
      · exact .inl h
      · exact .inr (hs.live h),
    S.size,S.os,S.tape,S.output,by rw [← hs.nb]; exact S.nbm,fun i hi=>S.fix i (by rw [hs.nb]; exact hi),fun b k hb=>by
      rcases S.ids b k hb with ⟨k0,h0⟩ | h0
      · exact .inl ⟨k0,hs.get b k0 h0⟩
      · exact .inr (by rw [← hs.nb]; exact h0),by rw [← hs.nc]; exact S.ncm,fun n v hn=>by
      rcases S.ats n v hn with hx | ⟨h1,h2,h3,gh,h4,h5⟩
      · exact .inl hx
      · exact .inr ⟨h1,by rw [← hs.nc]; exact h2,h3,gh,h4,h5⟩⟩
def ofL (nb nc:Nat) (l:List (Nat × Blk)):M:=addF { H:=.nil,nb:=nb,nc:=nc } l
def subL (m:M) (l:List (Nat × Blk)):Bool:=l.all fun p=>Nat.ble p.1 1000000 && optBlkEq (m.H.get p.1) (some p.2)
theorem sub_of {nb nc:Nat} {l:List (Nat × Blk)} (h:subL m l = true) (h1:Nat.beq nb m.nb = true) (h2:Nat.beq nc m.nc = true):Sub (ofL nb nc l) m:=by
  have hall:=fun p (hp:p ∈ l)=>List.all_eq_true.1 h p hp
  refine ⟨fun b k hb=>?_,by unfold ofL; rw [addF_nb]; exact Nat.eq_of_beq_eq_true h1,by unfold ofL; rw [addF_nc]; exact Nat.eq_of_beq_eq_true h2⟩
  unfold ofL at hb
  rw [get_addF _ b l (fun p hp=>by have:=hall p hp; simp only [Bool.and_eq_true] at this; exact Nat.le_of_ble_eq_true this.1)] at hb
  cases hl:lookF b l with
  | none=>rw [hl] at hb; cases hb
  | some x =>
    rw [hl] at hb
    injection hb with hb; subst hb
    have:=hall _ (lookF_mem hl)
    simp only [Bool.and_eq_true] at this
    exact optBlkEq_eq this.2
structure Told where
  f:FuncId
  args:List AV
  nb:Nat
  nc:Nat
  L:List (Nat × Blk)
  r:AV
  nb':Nat
  nc':Nat
  L':List (Nat × Blk)
def ToldOK (B:Base) (P:Program) (T:Told):Prop :=
  ∀ ρ w (xs:Array Value),MRel ρ (ofL T.nb T.nc T.L) w→CtxOK B ρ (ofL T.nb T.nc T.L) w→gams ρ T.args = some xs.toList→Calls P T.f xs w fun e w'=>∃ ρ' x,e = .returned x∧gam ρ' T.r = some x∧StepR ρ (ofL T.nb T.nc T.L) w ρ' (ofL T.nb' T.nc' T.L') w'
def toldA (T:Told):CallT:=fun f args m =>
  if Nat.beq f T.f && (Nat.beq T.nb m.nb && (Nat.beq T.nc m.nc && (avsEq args T.args && subL m T.L))) then some (T.r,ofL T.nb' T.nc' T.L') else none
theorem told_ok {B:Base} {T:Told} (h:ToldOK B P T):CallOK B P (toldA T):=by
  intro f args m r m' hs ρ w xs hm hk hx
  unfold toldA at hs
  split at hs
  case isFalse=>cases hs
  rename_i hc
  simp only [Bool.and_eq_true] at hc
  obtain ⟨h1,h2,h3,h4,h5⟩:=hc
  injection hs with hs; injection hs with e1 e2; subst e1; subst e2
  have hsub:=sub_of h5 h2 h3
  have:=avsEq_eq h4; subst this
  have:=Nat.eq_of_beq_eq_true h1; subst this
  refine (h ρ w xs (hm.sub hsub) (hk.sub (fun b k hb=>⟨k,hsub.get b k hb⟩) (by rw [hsub.nc]; exact Nat.le_refl _)) hx).mono ?_
  rintro e w' ⟨ρ',x,rfl,g1,g2⟩
  exact ⟨ρ',x,rfl,g1,g2.wide hsub⟩
def toldChk (T:Told):Option (AV × M)→Bool
  | some (r,m)=>avEq r T.r && (Nat.beq T.nb' m.nb && (Nat.beq T.nc' m.nc && subL m T.L'))
  | none=>false
theorem told_of {B:Base} {call:CallT} (hcall:CallOK B P call) {T:Told} (h:toldChk T (call T.f T.args (ofL T.nb T.nc T.L)) = true):ToldOK B P T:=by
  intro ρ w xs hm hk hx
  cases hr:call T.f T.args (ofL T.nb T.nc T.L) with
  | none=>rw [hr] at h; cases h
  | some q =>
    obtain ⟨r,m⟩:=q
    rw [hr] at h
    simp only [toldChk,Bool.and_eq_true] at h
    obtain ⟨h1,h2,h3,h4⟩:=h
    refine (hcall _ _ _ r m hr ρ w xs hm hk hx).mono ?_
    rintro e w' ⟨ρ',x,rfl,g1,g2⟩
    refine ⟨ρ',x,rfl,?_,g2.gc (sub_of h4 h2 h3)⟩
    rw [← avEq_eq h1]; exact g1
def orcs:List CallT→CallT
  | []=>fun _ _ _=>none
  | a :: l=>orcOr a (orcs l)
theorem orcs_ok {B:Base}:∀ {l:List CallT},(∀ a ∈ l,CallOK B P a)→CallOK B P (orcs l)
  | [],_=>fun _ _ _ _ _ h=>by cases h
  | a :: l,h=>orcOr_ok (h a List.mem_cons_self) (orcs_ok fun b hb=>h b (List.mem_cons_of_mem _ hb))
end Go.Sym
end
section
namespace Go.Sym
open Go
variable {P:Program} {ρ ρ':Env} {m m' m1 m2:M} {w w':World}
end Go.Sym
end
section
namespace Go.Sym
open Go Go.RowKit
variable {P:Program}
structure Ent where
  f:FuncId
  xs:List Value
  r:AV
def EntOK (B:Base) (P:Program) (E:Ent):Prop:=∃ v,(∀ ρ,gam ρ E.r = some v)∧∀ w,Under B w→Calls P E.f E.xs.toArray w fun e w'=>e = .returned v∧Below w.heap.size w w'
def entsA (l:List Ent):CallT:=fun f args m=>match l.find? fun E=>Nat.beq f E.f && avsEq args (E.xs.map .lit) with
  | some E=>some (E.r,m)
  | none=>none
theorem ents_ok {B:Base} {l:List Ent} (h:∀ E ∈ l,EntOK B P E):CallOK B P (entsA l):=by
  intro f args m r m' hs ρ w xs hm hk hx
  unfold entsA at hs
  split at hs
  case h_2=>cases hs
  rename_i E hf
  obtain ⟨v,hv,hE⟩:=h E (List.mem_of_find?_eq_some hf)
  have hc:=List.find?_some hf
  simp only [Bool.and_eq_true] at hc
  injection hs with hs; injection hs with e1 e2; subst e1; subst e2
  have:=avsEq_eq hc.2; subst this
  have:=Nat.eq_of_beq_eq_true hc.1; subst this
  rw [gams_lits] at hx
  injection hx with hx
  have hc:=hE w hk.under
  rw [hx,Array.toArray_toList] at hc
  refine hc.mono ?_
  rintro e w' ⟨rfl,hb⟩
  exact ⟨ρ,v,rfl,hv ρ, .of_below hm hb⟩
def entChk (f:FuncId) (xs:List Value) (v:Value) (call:CallT):Bool :=
  match call f (xs.map .lit) {} with
  | some (r,_)=>avEq r (.lit v)
  | none=>false
theorem ent_of {B:Base} (hA:∀ i,B.A i = Option.none) {call:CallT} (hcall:CallOK B P call) {f:FuncId} {xs:List Value} {v:Value} (h:entChk f xs v call = true):EntOK B P { f:=f,xs:=xs,r:=.lit v }:=by
  unfold entChk at h
  split at h
  case h_2=>cases h
  rename_i r m hr
  have:=avEq_eq h
  subst this
  exact ⟨v,fun ρ=>rfl,fun w hw=>whole hA hcall hr w hw⟩
end Go.Sym
end
section
namespace Go.Sym
open Go Go.Proofs
def X0:Exts:={ esc:=216,mkz:=361,idx:=238,cnt:=244,ps:=#[3],t:=195,e:=5 }
theorem X0_ok:ExtsOK Tryz.prog X0 where
  esc:=⟨_,Tryz.func216,by kernel_rfl,by kernel_rfl,by kernel_rfl,by kernel_rfl⟩
  mkz:=⟨_,Tryz.func361,by kernel_rfl,by kernel_rfl,by kernel_rfl,by kernel_rfl⟩
  und:=by kernel_rfl
  idx:=⟨_,Tryz.func238,by kernel_rfl,by kernel_rfl,by kernel_rfl,by kernel_rfl⟩
  cnt:=⟨_,Tryz.func244,by kernel_rfl,by kernel_rfl,by kernel_rfl,by kernel_rfl⟩
theorem orders:Tryz.prog.follows .mixedOrders = true:=by kernel_rfl
theorem dq101 (A:Array Value) (w:World):CallsD Tryz.prog 101 A .returning w fun e u' w'=>u' = .returning∧(∃ v,e = .returned v)∧w'.heap = w.heap∧w'.os = w.os∧w'.tape = w.tape∧w'.output = w.output:=by
  refine callsD_of_wpS Tryz.func101 rfl fun c₀ cs hc=>?_
  have hsz:9 ≤ (A ++ Array.replicate (Tryz.f101.ntmps - A.size) undef).size:=by
    show 9 ≤ (A ++ Array.replicate (9 - A.size) undef).size
    simp; omega
  generalize (A ++ Array.replicate (Tryz.f101.ntmps - A.size) undef) = tm at hsz
  have h2:2 < tm.size:=by omega
  have h3:3 < tm.size:=by omega
  have h4:4 < tm.size:=by omega
  have h5:5 < tm.size:=by omega
  refine wpS_seq (wpS_region ?_)
  simp [wpOpsS,List.range,List.range.loop,Region.wanted,execOp,resolve,invoke,builtin,recoverD,hc,Act.put,Oper.upon,Act.eval,Exit.thenS,h2,h3]
  refine wpS_seq (wpS_region ?_)
  simp [wpOpsS,List.range,List.range.loop,Region.wanted,execOp,Act.put,Oper.upon,Act.eval,Exit.thenS,h2,h3,h4,h5]
  have hcmp:∀ w,(binOp .neq 20 .nilIface .nilIface).run Tryz.prog w = .ok (.bool false) w:=fun w=>runPure_run (by kernel_rfl) w
  have hgd:∀ w,(eqGuard .neq 20 (.tmp 4) (.const .nilIface) .nilIface .nilIface).run Tryz.prog w = .ok () w:=fun w=>rfl
  simp only [hgd,hcmp,Result.andThen_ok]
  refine wpS_cond (t:=false) (by simp [Act.eval,h5]) ?_
  refine wpS_of_wp (wp_skip ?_)
  refine ⟨rfl, .returning,by rw [← hc], .tuple #[],?_,rfl,⟨_,rfl⟩,rfl,rfl,rfl,rfl⟩
  have hr:Tryz.f101.results = #[]:=by kernel_rfl
  unfold results
  rw [hr]
  simp
theorem dq163 (A:Array Value) (w:World):CallsD Tryz.prog 163 A .returning w fun e u' w'=>u' = .returning∧(∃ v,e = .returned v)∧w'.heap = w.heap∧w'.os = w.os∧w'.tape = w.tape∧w'.output = w.output:=by
  refine callsD_of_wpS Tryz.func163 rfl fun c₀ cs hc=>?_
  have hsz:8 ≤ (A ++ Array.replicate (Tryz.f163.ntmps - A.size) undef).size:=by
    show 8 ≤ (A ++ Array.replicate (8 - A.size) undef).size
    simp; omega
  generalize (A ++ Array.replicate (Tryz.f163.ntmps - A.size) undef) = tm at hsz
  have h2:2 < tm.size:=by omega
  have h3:3 < tm.size:=by omega
  have h4:4 < tm.size:=by omega
  have h1:1 < tm.size:=by omega
  refine wpS_seq (wpS_region ?_)
  simp [wpOpsS,List.range,List.range.loop,Region.wanted,execOp,resolve,invoke,builtin,recoverD,hc,Act.put,Oper.upon,Act.eval,Exit.thenS,h2,h3,h1]
  refine wpS_seq (wpS_region ?_)
  simp [wpOpsS,List.range,List.range.loop,Region.wanted,execOp,Act.put,Oper.upon,Act.eval,Exit.thenS,h2,h3,h4,h1]
  have hcmp:∀ w,(binOp .neq 20 .nilIface .nilIface).run Tryz.prog w = .ok (.bool false) w:=fun w=>runPure_run (by kernel_rfl) w
  have hgd:∀ w,(eqGuard .neq 20 (.tmp 3) (.const .nilIface) .nilIface .nilIface).run Tryz.prog w = .ok () w:=fun w=>rfl
  simp only [hgd,hcmp,Result.andThen_ok]
  refine wpS_cond (t:=false) (by simp [Act.eval,h4]) ?_
  refine wpS_of_wp (wp_skip ?_)
  refine ⟨rfl, .returning,by rw [← hc], .tuple #[],?_,rfl,⟨_,rfl⟩,rfl,rfl,rfl,rfl⟩
  have hr:Tryz.f163.results = #[]:=by kernel_rfl
  unfold results
  rw [hr]
  simp
def dqE:FuncId→Bool:=fun g=>Nat.beq g 101 || Nat.beq g 163
theorem dqE_ok:DqOK Tryz.prog dqE:=by
  intro g hg A w
  unfold dqE at hg
  rw [Bool.or_eq_true] at hg
  rcases hg with h | h
  · have:=Nat.eq_of_beq_eq_true h; subst this
    exact ⟨⟨_,Tryz.func101,rfl,by kernel_rfl⟩,dq101 A w⟩
  · have:=Nat.eq_of_beq_eq_true h; subst this
    exact ⟨⟨_,Tryz.func163,rfl,by kernel_rfl⟩,dq163 A w⟩
noncomputable def cxE (B:Base) (q:Tb):Cx:=cxOf Tryz.prog X0 B q
noncomputable def callE (B:Base) (q:Tb) (orc:CallT):CallT:=callK Tryz.prog (cxE B q) dqE (drawA Tryz.prog (cxE B q)) orc 1000
theorem callE_ok {B:Base} {q:Tb} (hq:TbOK Tryz.prog B q) {orc:CallT} (h:CallOK B Tryz.prog orc):CallOK B Tryz.prog (callE B q orc):=by
  unfold callE
  rw [callK_eq]
  have hC:CxOK Tryz.prog (cxE B q):=cx_ok X0_ok hq
  exact call_run hC dqE_ok (fun call hc=>draw_ok orders hC call hc) h 1000
def noOrc:CallT:=fun _ _ _=>none
theorem noOrc_ok {B:Base}:CallOK B Tryz.prog noOrc:=fun _ _ _ _ _ h=>by cases h
def i (n:Int):Value:=.int .i64 n
def t (l:List Nat):Value:=.string ⟨(l.map UInt8.ofNat).toArray⟩
end Go.Sym
end
section
namespace Go.Sym
open Go Go.Proofs
def clsE (c:Int):Ent:={ f:=191,xs:=[i c],r:=.lit (i 0) }
section
variable {B:Base} (hA:∀ n,B.A n = Option.none)
include hA
theorem cls37:EntOK B Tryz.prog (clsE 37):=ent_of hA (callE_ok noTb_ok noOrc_ok) (by kernel_rfl)
theorem cls44:EntOK B Tryz.prog (clsE 44):=ent_of hA (callE_ok noTb_ok noOrc_ok) (by kernel_rfl)
theorem cls45:EntOK B Tryz.prog (clsE 45):=ent_of hA (callE_ok noTb_ok noOrc_ok) (by kernel_rfl)
theorem cls46:EntOK B Tryz.prog (clsE 46):=ent_of hA (callE_ok noTb_ok noOrc_ok) (by kernel_rfl)
theorem cls49:EntOK B Tryz.prog (clsE 49):=ent_of hA (callE_ok noTb_ok noOrc_ok) (by kernel_rfl)
theorem cls50:EntOK B Tryz.prog (clsE 50):=ent_of hA (callE_ok noTb_ok noOrc_ok) (by kernel_rfl)
theorem cls51:EntOK B Tryz.prog (clsE 51):=ent_of hA (callE_ok noTb_ok noOrc_ok) (by kernel_rfl)
theorem cls52:EntOK B Tryz.prog (clsE 52):=ent_of hA (callE_ok noTb_ok noOrc_ok) (by kernel_rfl)
theorem cls160:EntOK B Tryz.prog (clsE 160):=ent_of hA (callE_ok noTb_ok noOrc_ok) (by kernel_rfl)
theorem cls8364:EntOK B Tryz.prog (clsE 8364):=ent_of hA (callE_ok noTb_ok noOrc_ok) (by kernel_rfl)
end
end Go.Sym
end
