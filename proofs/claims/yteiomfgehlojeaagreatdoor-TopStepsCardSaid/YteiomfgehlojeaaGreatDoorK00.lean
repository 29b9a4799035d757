/- The claim TopSteps, part 0 of 46: SymA, SymB, SymC, SymD, SymE, SymF, SymG, SymH, SymI -/
import Derived.Calls
import Derived.Tactics
import Derived.Orders
import Derived.Below
import Derived.Laws.AppendOwn
import Derived.Laws.Rows
import Derived.Laws.Cells
import Derived.Deep.Draws
import Derived.Laws.CopyRow
import Derived.Laws.Tables
import Derived.ChangeKeysEq
import Derived.Great.BuildSlice
import Derived.Laws.Append
import Derived.Laws.BytesString
import Derived.Lib.Builder
import Derived.Lib.UnsafeStr
import Derived.Room.MakeNoZero
import Derived.MapKept
import Derived.Laws.BytesArg
set_option linter.unusedVariables false
set_option linter.unusedSimpArgs false
section
namespace Go.Sym
open Go
inductive Tr (α:Type) where
  | nil
  | node (l:Tr α) (v:Option α) (r:Tr α)
namespace Tr
def get {α:Type}:Tr α→Nat→Option α
  | .nil,_=>none
  | .node l v r,n=>if n = 0 then v else if n % 2 = 1 then l.get (n / 2) else r.get (n / 2 - 1)
def set {α:Type} (x:Option α):Nat→Nat→Tr α→Tr α
  | 0,_,t=>t
  | f + 1,n, .nil=>if n = 0 then .node .nil x .nil else if n % 2 = 1 then .node (set x f (n / 2) .nil) none .nil else .node .nil none (set x f (n / 2 - 1) .nil)
  | f + 1,n, .node l v r=>if n = 0 then .node l x r else if n % 2 = 1 then .node (set x f (n / 2) l) v r else .node l v (set x f (n / 2 - 1) r)
theorem get_node {α:Type} (l r:Tr α) (v:Option α) (n:Nat):(Tr.node l v r).get n = if n = 0 then v else if n % 2 = 1 then l.get (n / 2) else r.get (n / 2 - 1):=rfl
theorem get_set_ne {α:Type} (x:Option α):∀ (f n m:Nat) (t:Tr α),m ≠ n→(set x f n t).get m = t.get m
  | 0,_,_,_,_=>rfl
  | f + 1,n,m, .nil,h=>by
    unfold set
    by_cases h0:n = 0
    · rw [if_pos h0,get_node,if_neg (by omega)]; split <;> rfl
    · rw [if_neg h0]
      by_cases h1:n % 2 = 1
      · rw [if_pos h1,get_node]
        split
        · rfl
        · split
          · rw [get_set_ne x f _ _ _ (by omega)]; rfl
          · rfl
      · rw [if_neg h1,get_node]
        split
        · rfl
        · split
          · rfl
          · rw [get_set_ne x f _ _ _ (by omega)]; rfl
  | f + 1,n,m, .node l v r,h=>by
    unfold set
    by_cases h0:n = 0
    · have hm:m ≠ 0:=by omega
      rw [if_pos h0,get_node,get_node,if_neg hm,if_neg hm]
    · rw [if_neg h0]
      by_cases h1:n % 2 = 1
      · rw [if_pos h1,get_node,get_node]
        split
        · rfl
        · split
          · rw [get_set_ne x f _ _ _ (by omega)]
          · rfl
      · rw [if_neg h1,get_node,get_node]
        split
        · rfl
        · split
          · rfl
          · rw [get_set_ne x f _ _ _ (by omega)]
theorem get_set {α:Type} (x:Option α):∀ (f n:Nat) (t:Tr α),n + 1 < 2 ^ f→(set x f n t).get n = x
  | 0,n,_,h=>by simp at h
  | f + 1,n, .nil,h=>by
    rw [Nat.pow_succ] at h
    unfold set
    by_cases h0:n = 0
    · rw [if_pos h0,get_node,if_pos h0]
    · rw [if_neg h0]
      by_cases h1:n % 2 = 1
      · rw [if_pos h1,get_node,if_neg h0,if_pos h1]; exact get_set x f _ _ (by omega)
      · rw [if_neg h1,get_node,if_neg h0,if_neg h1]; exact get_set x f _ _ (by omega)
  | f + 1,n, .node l v r,h=>by
    rw [Nat.pow_succ] at h
    unfold set
    by_cases h0:n = 0
    · rw [if_pos h0,get_node,if_pos h0]
    · rw [if_neg h0]
      by_cases h1:n % 2 = 1
      · rw [if_pos h1,get_node,if_neg h0,if_pos h1]; exact get_set x f _ _ (by omega)
      · rw [if_neg h1,get_node,if_neg h0,if_neg h1]; exact get_set x f _ _ (by omega)
end Tr
inductive Cap where
  | ex (c:Nat)
  | lo (i k:Nat)
inductive AV where
  | lit (v:Value)
  | atom (n:Nat)
  | ptr (b o:Nat)
  | slc (b o n sz:Nat) (c:Cap)
  | mp (b:Nat)
  | fn (f:Fn) (first captured:List AV)
  | ifc (t:TypeId) (v:AV)
  | agg (l:List AV)
  | tup (l:List AV)
  | cut (b o n sz:Nat) (c:Cap)
  | elp (n j:Nat)
inductive Blk where
  | cells (e:TypeId) (cs:List AV) (tg:Bool)
  | map (es:List (ByteArray × AV))
  | iter (s:ByteArray) (pos:Nat)
structure M where
  H:Tr Blk:=.nil
  nb:Nat:=0
  nc:Nat:=0
structure Env where
  blk:Nat→Option (Nat × Nat × Nat × Nat)
  cap:Nat→Option Nat
  atom:Nat→Option Value
structure Env.le (ρ σ:Env):Prop where
  b:∀ {i x},ρ.blk i = some x→σ.blk i = some x
  c:∀ {i x},ρ.cap i = some x→σ.cap i = some x
  a:∀ {i x},ρ.atom i = some x→σ.atom i = some x
theorem Env.le.refl (a:Env):a.le a:=⟨id,id,id⟩
theorem Env.le.trans {a b c:Env} (h:a.le b) (k:b.le c):a.le c:=⟨fun x=>k.b (h.b x),fun x=>k.c (h.c x),fun x=>k.a (h.a x)⟩
def slcV (ρ:Env) (b o n sz:Nat):Cap→Option Value
  | .ex c=>match ρ.blk b with
    | some (g,o0,_,m)=>if n ≤ c∧o + c * sz ≤ m then some (.slice (some ⟨g,o0 + o,none⟩) n c) else none
    | none=>none
  | .lo i k=>match ρ.blk b,ρ.cap i with
    | some (g,o0,z,m),some κ=>if n + k ≤ κ∧m ≤ o + (κ - k) * sz∧o0 + o + (κ - k) * sz ≤ z then some (.slice (some ⟨g,o0 + o,none⟩) n (κ - k)) else none
    | _,_=>none
mutual
def gam (ρ:Env):AV→Option Value
  | .lit v=>some v
  | .atom n=>match ρ.atom n with
    | some v=>if v.oneCell' = true then some v else none
    | none=>none
  | .ptr b o=>match ρ.blk b with
    | some (g,o0,_,_)=>some (.pointer (some ⟨g,o0 + o,none⟩))
    | none=>none
  | .slc b o n sz c=>slcV ρ b o n sz c
  | .mp b=>match ρ.blk b with
    | some (g,_,_,_)=>some (.map (some g))
    | none=>none
  | .fn f a b=>match gams ρ a,gams ρ b with
    | some x,some y=>some (.func f x.toArray y.toArray)
    | _,_=>none
  | .ifc t v=>match gam ρ v with
    | some x=>some (.iface t x)
    | none=>none
  | .agg l=>match gams ρ l with
    | some x=>some (.agg x.toArray)
    | none=>none
  | .tup l=>match gams ρ l with
    | some x=>some (.tuple x.toArray)
    | none=>none
  | .cut b o n sz c=>match slcV ρ b o n sz c with
    | some (.slice (some a) k l)=>some (.slice (some (if l = k then a else a.add (k * sz))) 0 (l - k))
    | _=>none
  | .elp n j=>match ρ.atom n with
    | some (.slice (some a) l _)=>if j < l then some (.pointer (some (a.add j))) else none
    | _=>none
def gams (ρ:Env):List AV→Option (List Value)
  | []=>some []
  | v :: l=>match gam ρ v,gams ρ l with
    | some x,some y=>some (x :: y)
    | _,_=>none
end
theorem slcV_mono {ρ ρ':Env} (h:ρ.le ρ') {b o n sz:Nat} {c:Cap} {x:Value} (hx:slcV ρ b o n sz c = some x):slcV ρ' b o n sz c = some x:=by
  cases c with
  | ex c =>
    cases hb:ρ.blk b with
    | none=>simp [slcV,hb] at hx
    | some q=>simp only [slcV,hb] at hx; simp only [slcV,h.b hb]; exact hx
  | lo i k =>
    cases hb:ρ.blk b with
    | none=>simp [slcV,hb] at hx
    | some q =>
      cases hc:ρ.cap i with
      | none=>simp [slcV,hb,hc] at hx
      | some κ=>simp only [slcV,hb,hc] at hx; simp only [slcV,h.b hb,h.c hc]; exact hx
mutual
theorem gam_mono {ρ ρ':Env} (h:ρ.le ρ'):∀ (v:AV) {x:Value},gam ρ v = some x→gam ρ' v = some x
  | .lit v,x,hx=>by simpa [gam] using hx
  | .atom n,x,hx=>by
    unfold gam at hx ⊢
    cases ha:ρ.atom n with
    | none=>simp [ha] at hx
    | some v=>rw [h.a ha]; rw [ha] at hx; exact hx
  | .ptr b o,x,hx=>by
    unfold gam at hx ⊢
    cases hb:ρ.blk b with
    | none=>simp [hb] at hx
    | some q=>rw [h.b hb]; rw [hb] at hx; exact hx
  | .slc b o n sz c,x,hx=>by unfold gam at hx ⊢; exact slcV_mono h hx
  | .mp b,x,hx=>by
    unfold gam at hx ⊢
    cases hb:ρ.blk b with
    | none=>simp [hb] at hx
    | some q=>rw [h.b hb]; rw [hb] at hx; exact hx
  | .fn f a b,x,hx=>by
    unfold gam at hx ⊢
    cases ha:gams ρ a with
    | none=>simp [ha] at hx
    | some p =>
      cases hb:gams ρ b with
      | none=>simp [ha,hb] at hx
      | some q=>rw [gams_mono h a ha,gams_mono h b hb]; rw [ha,hb] at hx; exact hx
  | .ifc t v,x,hx=>by
    unfold gam at hx ⊢
    cases ha:gam ρ v with
    | none=>simp [ha] at hx
    | some p=>rw [gam_mono h v ha]; rw [ha] at hx; exact hx
  | .agg l,x,hx=>by
    unfold gam at hx ⊢
    cases ha:gams ρ l with
    | none=>simp [ha] at hx
    | some p=>rw [gams_mono h l ha]; rw [ha] at hx; exact hx
  | .tup l,x,hx=>by
    unfold gam at hx ⊢
    cases ha:gams ρ l with
    | none=>simp [ha] at hx
    | some p=>rw [gams_mono h l ha]; rw [ha] at hx; exact hx
  | .cut b o n sz c,x,hx=>by
    unfold gam at hx ⊢
    cases hs:slcV ρ b o n sz c with
    | none=>simp [hs] at hx
    | some q=>rw [slcV_mono h hs]; rw [hs] at hx; exact hx
  | .elp n j,x,hx=>by
    unfold gam at hx ⊢
    cases ha:ρ.atom n with
    | none=>simp [ha] at hx
    | some v=>rw [h.a ha]; rw [ha] at hx; exact hx
theorem gams_mono {ρ ρ':Env} (h:ρ.le ρ'):∀ (l:List AV) {x:List Value},gams ρ l = some x→gams ρ' l = some x
  | [],x,hx=>by simpa [gams] using hx
  | v :: l,x,hx=>by
    unfold gams at hx ⊢
    cases ha:gam ρ v with
    | none=>simp [ha] at hx
    | some p =>
      cases hb:gams ρ l with
      | none=>simp [ha,hb] at hx
      | some q=>rw [gam_mono h v ha,gams_mono h l hb]; rw [ha,hb] at hx; exact hx
end
theorem gams_cons {ρ:Env} {v:AV} {l:List AV} {x:List Value}:gams ρ (v :: l) = some x↔∃ p q,gam ρ v = some p∧gams ρ l = some q∧x = p :: q:=by
  rw [gams]
  constructor
  · intro h
    cases ha:gam ρ v with
    | none=>simp [ha] at h
    | some p =>
      cases hb:gams ρ l with
      | none=>simp [ha,hb] at h
      | some q=>rw [ha,hb] at h; injection h with h; exact ⟨p,q,rfl,rfl,h.symm⟩
  · rintro ⟨p,q,ha,hb,rfl⟩
    rw [ha,hb]
theorem gams_length {ρ:Env}:∀ {l:List AV} {x:List Value},gams ρ l = some x→x.length = l.length
  | [],x,h=>by rw [gams] at h; injection h with h; subst h; rfl
  | v :: l,x,h=>by
    obtain ⟨p,q,_,hb,rfl⟩:=gams_cons.1 h
    simp [gams_length hb]
theorem gams_get {ρ:Env}:∀ {l:List AV} {x:List Value},gams ρ l = some x→∀ {i:Nat} {v:AV},l[i]? = some v→∃ y,x[i]? = some y∧gam ρ v = some y
  | [],_,_,_,_,hi=>by simp at hi
  | v :: l,x,h,i,u,hi=>by
    obtain ⟨p,q,ha,hb,rfl⟩:=gams_cons.1 h
    cases i with
    | zero=>simp at hi; subst hi; exact ⟨p,rfl,ha⟩
    | succ i=>simpa using gams_get hb (by simpa using hi)
theorem gams_append {ρ:Env}:∀ {a b:List AV} {x y:List Value},gams ρ a = some x→gams ρ b = some y→gams ρ (a ++ b) = some (x ++ y)
  | [],_,_,_,ha,hb=>by rw [gams] at ha; injection ha with ha; subst ha; exact hb
  | v :: a,b,x,y,ha,hb=>by
    obtain ⟨p,q,h1,h2,rfl⟩:=gams_cons.1 ha
    exact gams_cons.2 ⟨p,q ++ y,h1,gams_append h2 hb,rfl⟩
theorem gams_take {ρ:Env}:∀ (n:Nat) {a:List AV} {x:List Value},gams ρ a = some x→gams ρ (a.take n) = some (x.take n)
  | 0,_,_,_=>by simp [gams]
  | n + 1,[],x,h=>by rw [gams] at h; injection h with h; subst h; simp [gams]
  | n + 1,v :: a,x,h=>by
    obtain ⟨p,q,h1,h2,rfl⟩:=gams_cons.1 h
    exact gams_cons.2 ⟨p,q.take n,h1,gams_take n h2,rfl⟩
theorem gams_drop {ρ:Env}:∀ (n:Nat) {a:List AV} {x:List Value},gams ρ a = some x→gams ρ (a.drop n) = some (x.drop n)
  | 0,_,_,h=>by simpa using h
  | n + 1,[],x,h=>by rw [gams] at h; injection h with h; subst h; simp [gams]
  | n + 1,v :: a,x,h=>by
    obtain ⟨p,q,h1,h2,rfl⟩:=gams_cons.1 h
    simpa using gams_drop n h2
theorem gams_lits {ρ:Env}:∀ (l:List Value),gams ρ (l.map .lit) = some l
  | []=>rfl
  | v :: l=>gams_cons.2 ⟨v,l,rfl,gams_lits l,rfl⟩
end Go.Sym
end
section
namespace Go.Sym
open Go
theorem big (n:Nat) (h:n ≤ 1000000):n + 1 < 2 ^ 64:=Nat.lt_of_le_of_lt (Nat.succ_le_succ h) (by decide)
def BlkRel (ρ:Env) (w:World) (b:Nat):Blk→Prop
  | .cells e cs tg=>∃ g o z arr xs,ρ.blk b = some (g,o,z,cs.length)∧w.heap[g]? = some (.cells arr e (0,0))∧arr.size = z∧o + cs.length ≤ z∧gams ρ cs = some xs∧(∀ x ∈ xs,x.oneCell' = true)∧(∀ j,j < cs.length→arr[o + j]? = xs[j]?)∧(tg = true→o = 0∧z = cs.length)
  | .map es=>∃ g entries clock vs,ρ.blk b = some (g,0,0,0)∧w.heap[g]? = some (.map entries clock)∧gams ρ (es.map (·.2)) = some vs∧(entries.toList.map (fun e=>(e.key,e.val))).Perm ((es.map fun e=>Value.string e.1).zip vs)∧(es.map fun e=>Value.string e.1).Pairwise (· ≠ ·)
  | .iter s pos=>∃ g,ρ.blk b = some (g,0,0,0)∧w.heap[g]? = some (.stringIter s pos)
theorem BlkRel.at_ {ρ:Env} {w:World} {b:Nat} {k:Blk} (h:BlkRel ρ w b k):∃ q,ρ.blk b = some q∧q.1 < w.heap.size:=by
  cases k with
  | cells e cs tg =>
    obtain ⟨g,o,z,arr,xs,h1,h2,_⟩:=h
    exact ⟨_,h1,(Array.getElem?_eq_some_iff.1 h2).1⟩
  | map es =>
    obtain ⟨g,en,cl,vs,h1,h2,_⟩:=h
    exact ⟨_,h1,(Array.getElem?_eq_some_iff.1 h2).1⟩
  | iter s pos =>
    obtain ⟨g,h1,h2⟩:=h
    exact ⟨_,h1,(Array.getElem?_eq_some_iff.1 h2).1⟩
theorem BlkRel.mono {ρ ρ':Env} {w w':World} {b:Nat} {k:Blk} (h:BlkRel ρ w b k) (hl:ρ.le ρ') (hw:∀ q,ρ.blk b = some q→w'.heap[q.1]? = w.heap[q.1]?):BlkRel ρ' w' b k:=by
  cases k with
  | cells e cs tg =>
    obtain ⟨g,o,z,arr,xs,h1,h2,h3,h4,h5,h6⟩:=h
    exact ⟨g,o,z,arr,xs,hl.b h1,(hw _ h1).trans h2,h3,h4,gams_mono hl _ h5,h6⟩
  | map es =>
    obtain ⟨g,en,cl,vs,h1,h2,h3,h4⟩:=h
    exact ⟨g,en,cl,vs,hl.b h1,(hw _ h1).trans h2,gams_mono hl _ h3,h4⟩
  | iter s pos =>
    obtain ⟨g,h1,h2⟩:=h
    exact ⟨g,hl.b h1,(hw _ h1).trans h2⟩
structure MRel (ρ:Env) (m:M) (w:World):Prop where
  nb:∀ i,m.nb ≤ i→ρ.blk i = none
  nc:∀ i,m.nc ≤ i→ρ.cap i = none
  live:∀ b k,m.H.get b = some k→BlkRel ρ w b k
  inj:∀ b b' k k' q q',m.H.get b = some k→m.H.get b' = some k'→ρ.blk b = some q→ρ.blk b' = some q'→b ≠ b'→q.1 ≠ q'.1
  small:m.nb ≤ 1000000
def Live (ρ:Env) (m:M) (g:Nat):Prop:=∃ b k q,m.H.get b = some k∧ρ.blk b = some q∧q.1 = g
def Rd (G:Nat→Prop) (w:World) (v:Value) (xs:List Value):Prop :=
  ∃ A c,v = .slice A xs.length c∧xs.length ≤ c∧c ≤ 9223372036854775807∧(0 < xs.length→∃ b off,A = some ⟨b,off,none⟩∧G b∧∀ j,j < xs.length→w.cell? ⟨b,off + j,none⟩ = xs[j]?)
def Sp (G:Nat→Prop) (w:World) (v:Value):Value→Prop
  | .agg xs=>Rd G w v xs.toList
  | _=>True
theorem Rd.mono {G G':Nat→Prop} {w w':World} {v:Value} {xs:List Value} (h:Rd G w v xs) (hG:∀ b,G b→b < w.heap.size→w'.heap[b]? = w.heap[b]?∧G' b):Rd G' w' v xs:=by
  obtain ⟨A,c,h1,h2,h3,h4⟩:=h
  refine ⟨A,c,h1,h2,h3,fun hp=>?_⟩
  obtain ⟨b,off,e,g,hc⟩:=h4 hp
  have h0:=hc 0 hp
  have hlt:b < w.heap.size:=World.block_lt_of_cell? w _ (h0.trans (List.getElem?_eq_getElem hp))
  obtain ⟨k1,k2⟩:=hG b g hlt
  exact ⟨b,off,e,k2,fun j hj=>(World.cell?_of_block (a:=⟨b,off + j,none⟩) k1).trans (hc j hj)⟩
theorem Sp.mono {G G':Nat→Prop} {w w':World} {v gh:Value} (h:Sp G w v gh) (hG:∀ b,G b→b < w.heap.size→w'.heap[b]? = w.heap[b]?∧G' b):Sp G' w' v gh:=by
  cases gh <;> first | trivial | exact Rd.mono h hG
def gid (k:Nat):Nat:=4 * k + 2
def keyOf (n:Nat):Nat:=n / 2 % 1024
def NewAt (w:World) (m:M) (ρ':Env) (m':M) (w':World) (n:Nat) (v:Value):Prop :=
  n % 2 = 1∧m.nc ≤ n / 2048∧n / 2048 < m'.nc∧∃ gh,ρ'.atom (gid (keyOf n)) = some gh∧Sp (fun g=>w.heap.size ≤ g∧¬ Live ρ' m' g) w' v gh
structure StepR (ρ:Env) (m:M) (w:World) (ρ':Env) (m':M) (w':World):Prop where
  le:ρ.le ρ'
  rel:MRel ρ' m' w'
  keep:∀ g,g < w.heap.size→¬ Live ρ m g→w'.heap[g]? = w.heap[g]?
  fresh:∀ g,Live ρ' m' g→w.heap.size ≤ g∨Live ρ m g
  size:w.heap.size ≤ w'.heap.size
  os:w'.os = w.os
  tape:w'.tape = w.tape
  output:w'.output = w.output
  nbm:m.nb ≤ m'.nb
  fix:∀ i,i < m.nb→ρ'.blk i = ρ.blk i
  ids:∀ b k,m'.H.get b = some k→(∃ k0,m.H.get b = some k0)∨m.nb ≤ b
  ncm:m.nc ≤ m'.nc
  ats:∀ n v,ρ'.atom n = some v→ρ.atom n = some v∨NewAt w m ρ' m' w' n v
structure Base where
  N:Nat
  W:World
  A:Nat→Option Value
structure CtxOK (B:Base) (ρ:Env) (m:M) (w:World):Prop where
  size:B.N ≤ w.heap.size
  old:∀ g,g < B.N→w.heap[g]? = B.W.heap[g]?
  hi:∀ g,Live ρ m g→B.N ≤ g
  at_:∀ i x,B.A i = some x→ρ.atom i = some x
  rd:∀ n v,ρ.atom n = some v→n % 2 = 1→n / 2048 < m.nc∧∃ gh,ρ.atom (gid (keyOf n)) = some gh∧Sp (fun g=>¬ Live ρ m g) w v gh
  ev:∀ i x,B.A i = some x→i % 2 ≠ 1
theorem StepR.ctx {B:Base} {ρ ρ':Env} {m m':M} {w w':World} (S:StepR ρ m w ρ' m' w') (h:CtxOK B ρ m w):CtxOK B ρ' m' w' :=
  ⟨Nat.le_trans h.size S.size,fun g hg=>(S.keep g (Nat.lt_of_lt_of_le hg h.size) (fun hl=>absurd (h.hi g hl) (by omega))).trans (h.old g hg),fun g hl=>by
    rcases S.fresh g hl with hx | hx
    · exact Nat.le_trans h.size hx
    · exact h.hi g hx,fun i x hi=>S.le.a (h.at_ i x hi),fun n v hn ho=>by
    rcases S.ats n v hn with hx | ⟨_,_,h3,gh,h4,h5⟩
    · obtain ⟨k1,gh,k2,k3⟩:=h.rd n v hx ho
      refine ⟨Nat.lt_of_lt_of_le k1 S.ncm,gh,S.le.a k2,k3.mono fun b hb hlt=>⟨S.keep b hlt hb,fun hl=>?_⟩⟩
      rcases S.fresh b hl with hy | hy
      · omega
      · exact hb hy
    · exact ⟨h3,gh,h4,h5.mono fun b hb _=>⟨rfl,hb.2⟩⟩,h.ev⟩
theorem CtxOK.sub {B:Base} {ρ:Env} {m m':M} {w:World} (h:CtxOK B ρ m w) (hs:∀ b k,m'.H.get b = some k→∃ k',m.H.get b = some k') (hnc:m.nc ≤ m'.nc):CtxOK B ρ m' w :=
  have hlive:∀ g,Live ρ m' g→Live ρ m g:=fun g hl=>by
    obtain ⟨b,k,q,h1,h2,h3⟩:=hl
    obtain ⟨k',h4⟩:=hs b k h1
    exact ⟨b,k',q,h4,h2,h3⟩
  ⟨h.size,h.old,fun g hl=>h.hi g (hlive g hl),h.at_,fun n v hn ho=>by
    obtain ⟨k1,gh,k2,k3⟩:=h.rd n v hn ho
    exact ⟨Nat.lt_of_lt_of_le k1 hnc,gh,k2,k3.mono fun b hb _=>⟨rfl,fun hl=>hb (hlive b hl)⟩⟩,h.ev⟩
theorem MRel.lt {ρ:Env} {m:M} {w:World} (h:MRel ρ m w) {b:Nat} {k:Blk} (hb:m.H.get b = some k):b < m.nb:=by
  obtain ⟨q,hq,_⟩:=(h.live b k hb).at_
  rcases Nat.lt_or_ge b m.nb with hx | hx
  · exact hx
  · rw [h.nb b hx] at hq; cases hq
theorem MRel.drewN {ρ:Env} {m:M} {w:World} (h:MRel ρ m w) (n:Nat):MRel ρ m (w.drewN n) :=
  ⟨h.nb,h.nc,fun b k hb=>(h.live b k hb).mono (.refl _) (fun _ _=>rfl),h.inj,h.small⟩
theorem StepR.refl {ρ:Env} {m:M} {w:World} (h:MRel ρ m w):StepR ρ m w ρ m w :=
  ⟨.refl _,h,fun _ _ _=>rfl,fun _ hg => .inr hg,Nat.le_refl _,rfl,rfl,rfl,Nat.le_refl _,fun _ _=>rfl,fun _ k hb => .inl ⟨k,hb⟩,Nat.le_refl _,fun _ _ h => .inl h⟩
theorem StepR.trans {ρ ρ1 ρ2:Env} {m m1 m2:M} {w w1 w2:World} (h:StepR ρ m w ρ1 m1 w1) (k:StepR ρ1 m1 w1 ρ2 m2 w2):StepR ρ m w ρ2 m2 w2 :=
  ⟨h.le.trans k.le,k.rel,fun g hg hn=>(k.keep g (Nat.lt_of_lt_of_le hg h.size) (fun hl=>by
      rcases h.fresh g hl with hx | hx
      · omega
      · exact hn hx)).trans (h.keep g hg hn),
    fun g hg=>by
      rcases k.fresh g hg with hx | hx
      · exact .inl (Nat.le_trans h.size hx)
      · exact h.fresh g hx,
    Nat.le_trans h.size k.size,k.os.trans h.os,k.tape.trans h.tape,k.output.trans h.output,Nat.le_trans h.nbm k.nbm,fun i hi=>(k.fix i (Nat.lt_of_lt_of_le hi h.nbm)).trans (h.fix i hi),fun b kk hb=>by
      rcases k.ids b kk hb with ⟨k0,h0⟩ | h0
      · exact h.ids b k0 h0
      · exact .inr (Nat.le_trans h.nbm h0),Nat.le_trans h.ncm k.ncm,fun n v hn=>by
      rcases k.ats n v hn with hx | ⟨h1,h2,h3,gh,h4,h5⟩
      · rcases h.ats n v hx with hy | ⟨h1,h2,h3,gh,h4,h5⟩
        · exact .inl hy
        · refine .inr ⟨h1,h2,Nat.lt_of_lt_of_le h3 k.ncm,gh,k.le.a h4,h5.mono fun b hb hlt=>⟨k.keep b hlt hb.2,hb.1,fun hl=>?_⟩⟩
          rcases k.fresh b hl with hz | hz
          · omega
          · exact hb.2 hz
      · exact .inr ⟨h1,Nat.le_trans h.ncm h2,h3,gh,h4,h5.mono fun b hb _=>⟨rfl,Nat.le_trans h.size hb.1,hb.2⟩⟩⟩
theorem StepR.drewN {ρ ρ1:Env} {m m1:M} {w w1:World} (h:StepR ρ m w ρ1 m1 w1) (n:Nat):StepR ρ m w ρ1 m1 (w1.drewN n) :=
  ⟨h.le,h.rel.drewN n,h.keep,h.fresh,h.size,h.os,h.tape,h.output,h.nbm,h.fix,h.ids,h.ncm,h.ats⟩
def newB (m:M) (k:Blk):Option M:=if m.nb < 1000000 then some { m with H:=m.H.set (some k) 64 m.nb,nb:=m.nb + 1 } else none
def putB (m:M) (i:Nat) (k:Option Blk):M:={ m with H:=m.H.set k 64 i }
theorem get_putB_ne {m:M} {i j:Nat} {k:Option Blk} (h:j ≠ i):(putB m i k).H.get j = m.H.get j:=Tr.get_set_ne _ _ _ _ _ h
theorem get_putB {m:M} {i:Nat} {k:Option Blk} (h:i ≤ 1000000):(putB m i k).H.get i = k:=Tr.get_set _ _ _ _ (big _ (by omega))
theorem newB_some {m m':M} {k:Blk} (h:newB m k = some m'):m.nb < 1000000∧m' = { m with H:=m.H.set (some k) 64 m.nb,nb:=m.nb + 1 }:=by
  unfold newB at h
  split at h
  · injection h with h; exact ⟨‹_›,h.symm⟩
  · cases h
theorem StepR.put {ρ:Env} {m:M} {w w':World} (h:MRel ρ m w) {b:Nat} {k k':Blk} {q:Nat × Nat × Nat × Nat} (hb:m.H.get b = some k) (hq:ρ.blk b = some q)
    (hk:BlkRel ρ w' b k') (ho:∀ g,g ≠ q.1→w'.heap[g]? = w.heap[g]?) (hs:w'.heap.size = w.heap.size) (os:w'.os = w.os) (tape:w'.tape = w.tape) (output:w'.output = w.output) :
    StepR ρ m w ρ (putB m b (some k')) w':=by
  have hlt:=h.lt hb
  have hsm:=h.small
  have hgb:(putB m b (some k')).H.get b = some k':=get_putB (by omega)
  have hget:∀ c kk,(putB m b (some k')).H.get c = some kk→∃ k0,m.H.get c = some k0:=by
    intro c kk hc
    by_cases hcb:c = b
    · subst hcb; exact ⟨k,hb⟩
    · rw [get_putB_ne hcb] at hc; exact ⟨kk,hc⟩
  have hlive:∀ g,Live ρ (putB m b (some k')) g→Live ρ m g:=by
    rintro g ⟨c,kk,qq,hc,hcq,rfl⟩
    obtain ⟨k0,hk0⟩:=hget c kk hc
    exact ⟨c,k0,qq,hk0,hcq,rfl⟩
  refine ⟨.refl _,⟨h.nb,h.nc,fun c kk hc=>?_,fun c c' kk kk' qq qq' hc hc' hqc hqc' hne=>?_,hsm⟩,fun g hg hn=>?_,fun g hg => .inr (hlive g hg),by omega,os,tape,output,Nat.le_refl _,fun _ _=>rfl,fun c kk hc => .inl (hget c kk hc),Nat.le_refl _,fun _ _ h => .inl h⟩
  · by_cases hcb:c = b
    · subst hcb; rw [hgb] at hc; injection hc with hc; subst hc; exact hk
    · rw [get_putB_ne hcb] at hc
      refine (h.live c kk hc).mono (.refl _) (fun qq hqq=>ho _ (h.inj c b _ _ _ _ hc hb hqq hq hcb))
  · obtain ⟨a,ha⟩:=hget c kk hc
    obtain ⟨a',ha'⟩:=hget c' kk' hc'
    exact h.inj c c' a a' qq qq' ha ha' hqc hqc' hne
  · exact ho g (fun e=>hn ⟨b,k,q,hb,hq,e.symm⟩)
theorem StepR.kill {ρ:Env} {m:M} {w w':World} (h:MRel ρ m w) {b:Nat} {k:Blk} {q:Nat × Nat × Nat × Nat} (hb:m.H.get b = some k) (hq:ρ.blk b = some q)
    (ho:∀ g,g ≠ q.1→w'.heap[g]? = w.heap[g]?) (hs:w'.heap.size = w.heap.size) (os:w'.os = w.os) (tape:w'.tape = w.tape) (output:w'.output = w.output) :
    StepR ρ m w ρ (putB m b none) w':=by
  have hlt:=h.lt hb
  have hsm:=h.small
  have hget:∀ c kk,(putB m b none).H.get c = some kk→c ≠ b∧m.H.get c = some kk:=by
    intro c kk hc
    by_cases hcb:c = b
    · subst hcb; rw [get_putB (by omega)] at hc; cases hc
    · rw [get_putB_ne hcb] at hc; exact ⟨hcb,hc⟩
  refine ⟨.refl _,⟨h.nb,h.nc,fun c kk hc=>?_,fun c c' kk kk' qq qq' hc hc' hqc hqc' hne=>?_,hsm⟩,fun g hg hn=>?_,?_,by omega,os,tape,output,Nat.le_refl _,fun _ _=>rfl,fun c kk hc => .inl ⟨kk,(hget c kk hc).2⟩,Nat.le_refl _,fun _ _ h => .inl h⟩
  · obtain ⟨hcb,hc⟩:=hget c kk hc
    exact (h.live c kk hc).mono (.refl _) (fun qq hqq=>ho _ (h.inj c b _ _ _ _ hc hb hqq hq hcb))
  · exact h.inj c c' kk kk' qq qq' (hget c kk hc).2 (hget c' kk' hc').2 hqc hqc' hne
  · exact ho g (fun e=>hn ⟨b,k,q,hb,hq,e.symm⟩)
  · rintro g ⟨c,kk,qq,hc,hcq,rfl⟩
    exact .inr ⟨c,kk,qq,(hget c kk hc).2,hcq,rfl⟩
def Env.addB (ρ:Env) (i:Nat) (q:Nat × Nat × Nat × Nat):Env:={ ρ with blk:=fun k=>if k = i then some q else ρ.blk k }
def Env.addC (ρ:Env) (j:Nat):Option Nat→Env
  | none=>ρ
  | some c=>{ ρ with cap:=fun k=>if k = j then some c else ρ.cap k }
def cN:Option Nat→Nat
  | none=>0
  | some _=>1
theorem Env.le_addB {ρ:Env} {i:Nat} (q:Nat × Nat × Nat × Nat) (h:ρ.blk i = none):ρ.le (ρ.addB i q) :=
  ⟨fun {k x} hx=>by
    show (if k = i then some q else ρ.blk k) = some x
    rw [if_neg (fun e=>by rw [e,h] at hx; cases hx)]; exact hx,id,id⟩
theorem Env.le_addC {ρ:Env} {j:Nat} (c:Option Nat) (h:ρ.cap j = none):ρ.le (ρ.addC j c):=by
  cases c with
  | none=>exact .refl _
  | some c =>
    exact ⟨id,fun {k x} hx=>by
      show (if k = j then some c else ρ.cap k) = some x
      rw [if_neg (fun e=>by rw [e,h] at hx; cases hx)]; exact hx,id⟩
theorem Env.addB_new (ρ:Env) (i:Nat) (q:Nat × Nat × Nat × Nat):(ρ.addB i q).blk i = some q:=if_pos rfl
theorem Env.addB_old {ρ:Env} {i k:Nat} (q:Nat × Nat × Nat × Nat) (h:k ≠ i):(ρ.addB i q).blk k = ρ.blk k:=if_neg h
theorem Env.addC_new (ρ:Env) (j c:Nat):(ρ.addC j (some c)).cap j = some c:=if_pos rfl
theorem Env.addC_old {ρ:Env} {j k:Nat} (c:Option Nat) (h:k ≠ j):(ρ.addC j c).cap k = ρ.cap k:=by
  cases c with
  | none=>rfl
  | some c=>exact if_neg h
theorem Env.addC_blk (ρ:Env) (j:Nat) (c:Option Nat):(ρ.addC j c).blk = ρ.blk:=by cases c <;> rfl
def Env.add (ρ:Env) (m:M) (q:Nat × Nat × Nat × Nat) (c:Option Nat):Env:=(ρ.addC m.nc c).addB m.nb q
theorem Env.add_atom (ρ:Env) (m:M) (q:Nat × Nat × Nat × Nat) (c:Option Nat) (n:Nat):(ρ.add m q c).atom n = ρ.atom n:=by cases c <;> rfl
theorem Env.add_new (ρ:Env) (m:M) (q:Nat × Nat × Nat × Nat) (c:Option Nat):(ρ.add m q c).blk m.nb = some q:=Env.addB_new _ _ _
theorem Env.add_cap (ρ:Env) (m:M) (q:Nat × Nat × Nat × Nat) (c:Nat):(ρ.add m q (some c)).cap m.nc = some c:=Env.addC_new ρ m.nc c
theorem MRel.le_add {ρ:Env} {m:M} {w:World} (h:MRel ρ m w) (q:Nat × Nat × Nat × Nat) (c:Option Nat):ρ.le (ρ.add m q c) :=
  (Env.le_addC c (h.nc _ (Nat.le_refl _))).trans (Env.le_addB q (by rw [Env.addC_blk]; exact h.nb _ (Nat.le_refl _)))
theorem new_core {ρ:Env} {m m':M} {w w':World} (h:MRel ρ m w) {k:Blk} (q:Nat × Nat × Nat × Nat) (cs:Option Nat) (hm:newB m k = some m')
    (hq:¬ Live ρ m q.1) (hk:BlkRel (ρ.add m q cs) w' m.nb k) (ho:∀ g,g < w.heap.size→g ≠ q.1→w'.heap[g]? = w.heap[g]?) :
    MRel (ρ.add m q cs) { m' with nc:=m.nc + cN cs } w'∧∀ g,Live (ρ.add m q cs) { m' with nc:=m.nc + cN cs } g→g = q.1∨Live ρ m g:=by
  obtain ⟨hsm,rfl⟩:=newB_some hm
  have hnew:(m.H.set (some k) 64 m.nb).get m.nb = some k:=Tr.get_set _ _ _ _ (big _ (by omega))
  have hold:∀ c,c ≠ m.nb→(m.H.set (some k) 64 m.nb).get c = m.H.get c:=fun c hc=>Tr.get_set_ne _ _ _ _ _ hc
  have hnbq:(ρ.add m q cs).blk m.nb = some q:=Env.add_new _ _ _ _
  have hback:∀ c,c ≠ m.nb→(ρ.add m q cs).blk c = ρ.blk c:=by
    intro c hc
    unfold Env.add
    rw [Env.addB_old q hc,Env.addC_blk]
  refine ⟨⟨fun i hi=>?_,fun i hi=>?_,fun c kk hc=>?_,fun c c' kk kk' qq qq' hc hc' hqc hqc' hne=>?_,by show m.nb + 1 ≤ _; omega⟩,?_⟩
  · have hi':m.nb + 1 ≤ i:=hi
    rw [hback i (by omega)]
    exact h.nb i (by omega)
  · have hi':m.nc + cN cs ≤ i:=hi
    show (ρ.addC m.nc cs).cap i = none
    cases cs with
    | none=>exact h.nc i (by simpa [cN] using hi')
    | some c=>rw [Env.addC_old _ (by simp [cN] at hi'; omega)]; exact h.nc i (by omega)
  · by_cases hcb:c = m.nb
    · subst hcb
      have:some k = some kk:=hnew.symm.trans hc
      injection this with this; subst this; exact hk
    · have hc2:m.H.get c = some kk:=(hold c hcb).symm.trans hc
      refine (h.live c kk hc2).mono (h.le_add q cs) (fun qq hqq=>?_)
      obtain ⟨q0,hq0,hlt⟩:=(h.live c kk hc2).at_
      rw [hq0] at hqq; injection hqq with hqq; subst hqq
      exact ho _ hlt (fun e=>hq ⟨c,kk,q0,hc2,hq0,e⟩)
  · by_cases h1:c = m.nb
    · subst h1
      have h2:c' ≠ m.nb:=fun e=>hne e.symm
      have hc2:m.H.get c' = some kk':=(hold c' h2).symm.trans hc'
      rw [hnbq] at hqc; injection hqc with hqc; subst hqc
      rw [hback c' h2] at hqc'
      intro e
      exact hq ⟨c',kk',qq',hc2,hqc',e.symm⟩
    · have hc2:m.H.get c = some kk:=(hold c h1).symm.trans hc
      rw [hback c h1] at hqc
      by_cases h2:c' = m.nb
      · subst h2
        rw [hnbq] at hqc'; injection hqc' with hqc'; subst hqc'
        intro e
        exact hq ⟨c,kk,qq,hc2,hqc,e⟩
      · have hc2':m.H.get c' = some kk':=(hold c' h2).symm.trans hc'
        rw [hback c' h2] at hqc'
        exact h.inj c c' kk kk' qq qq' hc2 hc2' hqc hqc' hne
  · rintro g ⟨c,kk,qq,hc,hcq,rfl⟩
    by_cases h1:c = m.nb
    · subst h1
      rw [hnbq] at hcq; injection hcq with hcq; subst hcq
      exact .inl rfl
    · have hc2:m.H.get c = some kk:=(hold c h1).symm.trans hc
      rw [hback c h1] at hcq
      exact .inr ⟨c,kk,qq,hc2,hcq,rfl⟩
theorem new_nb {m m':M} {k:Blk} (hm:newB m k = some m') {c:Nat}:m.nb ≤ ({ m' with nc:=c }:M).nb:=by
  obtain ⟨_,rfl⟩:=newB_some hm
  exact Nat.le_succ _
theorem add_fix {ρ:Env} {m:M} {w:World} (_:MRel ρ m w) (q:Nat × Nat × Nat × Nat) (c:Option Nat) (i:Nat) (hi:i < m.nb):(ρ.add m q c).blk i = ρ.blk i:=by
  unfold Env.add
  rw [Env.addB_old q (by omega),Env.addC_blk]
theorem new_ids {m m':M} {k:Blk} (hm:newB m k = some m') {n:Nat} (c:Nat) (kk:Blk) (hc:({ m' with nc:=n }:M).H.get c = some kk):(∃ k0,m.H.get c = some k0)∨m.nb ≤ c:=by
  obtain ⟨_,rfl⟩:=newB_some hm
  by_cases hcb:c = m.nb
  · exact .inr (by omega)
  · exact .inl ⟨kk,(Tr.get_set_ne _ _ _ _ _ hcb).symm.trans hc⟩
theorem StepR.new {ρ:Env} {m m':M} {w w':World} (h:MRel ρ m w) {k:Blk} (q:Nat × Nat × Nat × Nat) (cs:Option Nat) (hm:newB m k = some m')
    (hf:w.heap.size ≤ q.1) (hk:BlkRel (ρ.add m q cs) w' m.nb k) (ho:∀ g,g < w.heap.size→w'.heap[g]? = w.heap[g]?) (hs:w.heap.size ≤ w'.heap.size) (os:w'.os = w.os) (tape:w'.tape = w.tape) (output:w'.output = w.output) :
    StepR ρ m w (ρ.add m q cs) { m' with nc:=m.nc + cN cs } w':=by
  have hq:¬ Live ρ m q.1:=by
    rintro ⟨c,kk,qq,hc,hcq,e⟩
    obtain ⟨q0,hq0,hlt⟩:=(h.live c kk hc).at_
    rw [hcq] at hq0; injection hq0 with hq0; subst hq0
    omega
  obtain ⟨h1,h2⟩:=new_core h q cs hm hq hk (fun g hg _=>ho g hg)
  exact ⟨h.le_add _ _,h1,fun g hg _=>ho g hg,fun g hg=>by
    rcases h2 g hg with rfl | hx
    · exact .inl hf
    · exact .inr hx,hs,os,tape,output,new_nb hm,fun i hi=>add_fix h q cs i hi,fun c kk hc=>new_ids hm c kk hc,Nat.le_add_right _ _,fun n v hn => .inl (by rw [Env.add_atom] at hn; exact hn)⟩
theorem StepR.renew {ρ:Env} {m m':M} {w w':World} (h:MRel ρ m w) {b:Nat} {k0 k:Blk} {q0:Nat × Nat × Nat × Nat} (hb:m.H.get b = some k0) (hq0:ρ.blk b = some q0)
    (q:Nat × Nat × Nat × Nat) (cs:Option Nat) (hm:newB (putB m b none) k = some m') (hqq:q.1 = q0.1) (hk:BlkRel (ρ.add m q cs) w' m.nb k)
    (ho:∀ g,g ≠ q.1→w'.heap[g]? = w.heap[g]?) (hs:w'.heap.size = w.heap.size) (os:w'.os = w.os) (tape:w'.tape = w.tape) (output:w'.output = w.output) :
    StepR ρ m w (ρ.add m q cs) { m' with nc:=m.nc + cN cs } w':=by
  have hkill:=StepR.kill (w':=w) h hb hq0 (fun _ _=>rfl) rfl rfl rfl rfl
  have hsm:=h.small
  have hlt:=h.lt hb
  have hget:∀ c kk,(putB m b none).H.get c = some kk→c ≠ b∧m.H.get c = some kk:=by
    intro c kk hc
    by_cases hcb:c = b
    · subst hcb; rw [get_putB (by omega)] at hc; cases hc
    · rw [get_putB_ne hcb] at hc; exact ⟨hcb,hc⟩
  have hq:¬ Live ρ (putB m b none) q.1:=by
    rintro ⟨c,kk,qq,hc,hcq,e⟩
    obtain ⟨hcb,hc2⟩:=hget c kk hc
    exact h.inj c b kk k0 qq q0 hc2 hb hcq hq0 hcb (by rw [e,hqq])
  obtain ⟨h1,h2⟩:=new_core hkill.rel q cs hm hq hk (fun g _ hg=>ho g hg)
  refine ⟨h.le_add _ _,h1,fun g hg hn=>ho g (fun e=>hn ⟨b,k0,q0,hb,hq0,by rw [e,hqq]⟩),fun g hg=>?_,by omega,os,tape,output,(new_nb hm:(putB m b none).nb ≤ _),fun i hi=>add_fix h q cs i hi,fun c kk hc=>by
    rcases new_ids hm c kk hc with ⟨k1,h3⟩ | h3
    · exact .inl ⟨k1,(hget c k1 h3).2⟩
    · exact .inr h3,Nat.le_add_right _ _,fun n v hn => .inl (by rw [Env.add_atom] at hn; exact hn)⟩
  rcases h2 g hg with rfl | hx
  · exact .inr ⟨b,k0,q0,hb,hq0,hqq.symm⟩
  · obtain ⟨c,kk,qq,hc,hcq,e⟩:=hx
    exact .inr ⟨c,kk,qq,(hget c kk hc).2,hcq,e⟩
end Go.Sym
end
section
namespace Go.Sym
open Go
def runPure {α:Type} (P:Program):Sem α→Option α
  | .pure a=>some a
  | .program k=>runPure P (k P)
  | .mark _ k=>runPure P k
  | _=>none
theorem runPure_run {α:Type} {P:Program}:∀ {s:Sem α} {a:α},runPure P s = some a→∀ w,s.run P w = .ok a w
  | .pure a,b,h,w=>by simp [runPure] at h; subst h; rfl
  | .program k,b,h,w=>by simp only [runPure] at h; simp only [Sem.run]; exact runPure_run h w
  | .mark _ k,b,h,w=>by simp only [runPure] at h; simp only [Sem.run]; exact runPure_run h w
  | .load ..,b,h,w=>by simp [runPure] at h
  | .store ..,b,h,w=>by simp [runPure] at h
  | .new ..,b,h,w=>by simp [runPure] at h
  | .shape ..,b,h,w=>by simp [runPure] at h
  | .freeze ..,b,h,w=>by simp [runPure] at h
  | .frozen ..,b,h,w=>by simp [runPure] at h
  | .getObj ..,b,h,w=>by simp [runPure] at h
  | .setObj ..,b,h,w=>by simp [runPure] at h
  | .choose ..,b,h,w=>by simp [runPure] at h
  | .sys ..,b,h,w=>by simp [runPure] at h
  | .halt ..,b,h,w=>by simp [runPure] at h
mutual
def toVal:AV→Option Value
  | .lit v=>some v
  | .agg l=>match toVals l with
    | some x=>some (.agg x.toArray)
    | none=>none
  | .tup l=>match toVals l with
    | some x=>some (.tuple x.toArray)
    | none=>none
  | .ifc t v=>match toVal v with
    | some x=>some (.iface t x)
    | none=>none
  | .fn f a b=>match toVals a,toVals b with
    | some x,some y=>some (.func f x.toArray y.toArray)
    | _,_=>none
  | _=>none
def toVals:List AV→Option (List Value)
  | []=>some []
  | v :: l=>match toVal v,toVals l with
    | some x,some y=>some (x :: y)
    | _,_=>none
end
mutual
theorem toVal_gam (ρ:Env):∀ (v:AV) {x:Value},toVal v = some x→gam ρ v = some x
  | .lit v,x,h=>by simpa [toVal,gam] using h
  | .atom n,x,h=>by simp [toVal] at h
  | .ptr b o,x,h=>by simp [toVal] at h
  | .slc b o n sz c,x,h=>by simp [toVal] at h
  | .mp b,x,h=>by simp [toVal] at h
  | .cut b o n sz c,x,h=>by simp [toVal] at h
  | .elp n j,x,h=>by simp [toVal] at h
  | .fn f a b,x,h=>by
    unfold toVal at h; unfold gam
    cases ha:toVals a with
    | none=>simp [ha] at h
    | some p =>
      cases hb:toVals b with
      | none=>simp [ha,hb] at h
      | some q=>rw [toVals_gam ρ a ha,toVals_gam ρ b hb]; rw [ha,hb] at h; exact h
  | .ifc t v,x,h=>by
    unfold toVal at h; unfold gam
    cases ha:toVal v with
    | none=>simp [ha] at h
    | some p=>rw [toVal_gam ρ v ha]; rw [ha] at h; exact h
  | .agg l,x,h=>by
    unfold toVal at h; unfold gam
    cases ha:toVals l with
    | none=>simp [ha] at h
    | some p=>rw [toVals_gam ρ l ha]; rw [ha] at h; exact h
  | .tup l,x,h=>by
    unfold toVal at h; unfold gam
    cases ha:toVals l with
    | none=>simp [ha] at h
    | some p=>rw [toVals_gam ρ l ha]; rw [ha] at h; exact h
theorem toVals_gam (ρ:Env):∀ (l:List AV) {x:List Value},toVals l = some x→gams ρ l = some x
  | [],x,h=>by simpa [toVals,gams] using h
  | v :: l,x,h=>by
    unfold toVals at h
    cases ha:toVal v with
    | none=>simp [ha] at h
    | some p =>
      cases hb:toVals l with
      | none=>simp [ha,hb] at h
      | some q =>
        rw [ha,hb] at h; injection h with h
        exact gams_cons.2 ⟨p,q,toVal_gam ρ v ha,toVals_gam ρ l hb,h.symm⟩
end
def one:AV→Bool
  | .lit v=>v.oneCell'
  | .agg _ | .tup _=>false
  | _=>true
theorem one_gam {ρ:Env} {v:AV} {x:Value} (h:one v = true) (hx:gam ρ v = some x):x.oneCell' = true:=by
  cases v with
  | lit v=>simp only [gam] at hx; injection hx with hx; subst hx; exact h
  | atom n =>
    unfold gam at hx
    cases ha:ρ.atom n with
    | none=>simp [ha] at hx
    | some v =>
      simp only [ha] at hx
      split at hx
      · injection hx with hx; subst hx; assumption
      · cases hx
  | ptr b o =>
    unfold gam at hx
    cases hb:ρ.blk b with
    | none=>simp [hb] at hx
    | some q=>simp only [hb] at hx; injection hx with hx; subst hx; rfl
  | slc b o n sz c =>
    unfold gam at hx
    cases c with
    | ex c =>
      cases hb:ρ.blk b with
      | none=>simp [slcV,hb] at hx
      | some q => simp only [slcV, hb] at hx; split at hx; · injection hx with hx; subst hx; rfl
                  · cases hx
    | lo i k =>
      cases hb:ρ.blk b with
      | none=>simp [slcV,hb] at hx
      | some q =>
        cases hc:ρ.cap i with
        | none=>simp [slcV,hb,hc] at hx
        | some κ => simp only [slcV, hb, hc] at hx; split at hx; · injection hx with hx; subst hx; rfl
                    · cases hx
  | mp b =>
    unfold gam at hx
    cases hb:ρ.blk b with
    | none=>simp [hb] at hx
    | some q=>simp only [hb] at hx; injection hx with hx; subst hx; rfl
  | fn f a b =>
    unfold gam at hx
    split at hx
    · injection hx with hx; subst hx; rfl
    · cases hx
  | ifc t v =>
    unfold gam at hx
    split at hx
    · injection hx with hx; subst hx; rfl
    · cases hx
  | agg l=>cases h
  | tup l=>cases h
  | cut b o n sz c =>
    unfold gam at hx
    split at hx
    · injection hx with hx; subst hx; rfl
    · cases hx
  | elp n j =>
    unfold gam at hx
    split at hx
    · split at hx
      · injection hx with hx; subst hx; rfl
      · cases hx
    · cases hx
theorem ones_gam {ρ:Env}:∀ {l:List AV} {x:List Value},l.all one = true→gams ρ l = some x→∀ y ∈ x,y.oneCell' = true
  | [],x,_,hx=>by rw [gams] at hx; injection hx with hx; subst hx; intro y hy; cases hy
  | v :: l,x,h,hx=>by
    obtain ⟨p,q,h1,h2,rfl⟩:=gams_cons.1 hx
    rw [List.all_cons,Bool.and_eq_true] at h
    intro y hy
    rcases List.mem_cons.1 hy with rfl | hy
    · exact one_gam h.1 h1
    · exact ones_gam h.2 h2 y hy
def cellsA:AV→Option (List AV)
  | .lit (.agg cs)=>some (cs.toList.map .lit)
  | .agg l=>some l
  | v=>if one v then some [v] else none
theorem cellsA_gam {ρ:Env} {v:AV} {l:List AV} {x:Value} (h:cellsA v = some l) (hx:gam ρ v = some x):gams ρ l = some x.cells.toList:=by
  have hone:∀ u:AV,one u = true→gam ρ u = some x→gams ρ [u] = some x.cells.toList:=by
    intro u hu hg
    have h1:=one_gam hu hg
    have:x.cells = #[x]:=by cases x <;> first | rfl | (simp [Value.oneCell'] at h1)
    rw [this]
    exact gams_cons.2 ⟨x,[],hg,rfl,rfl⟩
  unfold cellsA at h
  split at h
  · injection h with h; subst h
    simp only [gam] at hx; injection hx with hx; subst hx
    exact gams_lits _
  · injection h with h; subst h
    unfold gam at hx
    split at hx
    · rename_i p hp; injection hx with hx; subst hx; simpa [Value.cells] using hp
    · cases hx
  · split at h
    · injection h with h; subst h
      exact hone _ ‹_› hx
    · cases h
theorem row_of {ρ:Env} {m:M} {w:World} (h:MRel ρ m w) {b:Nat} {e:TypeId} {cs:List AV} {tg:Bool} (hb:m.H.get b = some (.cells e cs tg)) :
    ∃ g o0 z arr xs,ρ.blk b = some (g,o0,z,cs.length)∧w.heap[g]? = some (.cells arr e (0,0))∧arr.size = z∧o0 + cs.length ≤ z∧gams ρ cs = some xs∧(∀ x ∈ xs,x.oneCell' = true)∧(∀ j,j < cs.length→arr[o0 + j]? = xs[j]?)∧(tg = true→o0 = 0∧z = cs.length):=h.live b _ hb
theorem add_none (g o i:Nat):(⟨g,o,none⟩:Addr).add i = ⟨g,o + i,none⟩:=by unfold Addr.add; split <;> simp_all
theorem load_cells {P:Program} {ρ:Env} {m:M} {w:World} (h:MRel ρ m w) {b:Nat} {e:TypeId} {cs:List AV} {tg:Bool} (hb:m.H.get b = some (.cells e cs tg)) {g o0 z l:Nat} (hq:ρ.blk b = some (g,o0,z,l)) (o n:Nat) (hn:o + n ≤ cs.length) :
    ∃ ys,gams ρ ((cs.drop o).take n) = some ys∧ys.length = n∧(∀ y ∈ ys,y.oneCell' = true)∧(∀ j v,ys[j]? = some v→w.cell? ((⟨g,o0 + o,none⟩:Addr).add j) = some v)∧(loadCells ⟨g,o0 + o,none⟩ n).run P w = .ok ys.toArray w:=by
  obtain ⟨g',o',z',arr,xs,h1,h2,h3,h4,h5,h6,h7,h8⟩:=row_of h hb
  rw [hq] at h1; injection h1 with h1; injection h1 with e1 h1; injection h1 with e2 h1
  subst e1; subst e2
  have hl:=gams_length h5
  have hy:=gams_take n (gams_drop o h5)
  have hyl:((xs.drop o).take n).length = n:=by rw [List.length_take,List.length_drop]; omega
  have hc:∀ j v,((xs.drop o).take n)[j]? = some v→w.cell? ((⟨g,o0 + o,none⟩:Addr).add j) = some v:=by
    intro j v hv
    have hj:j < n:=by have:=(List.getElem?_eq_some_iff.1 hv).1; omega
    rw [add_none,cell_of_row w g _ _ _ _ h2,Nat.add_assoc,h7 (o + j) (by omega)]
    rw [List.getElem?_take,if_pos hj,List.getElem?_drop] at hv
    exact hv
  refine ⟨_,hy,hyl,fun y hy=>h6 y (List.mem_of_mem_drop (List.mem_of_mem_take hy)),hc,?_⟩
  have:=run_loadCells_list (P:=P) w ⟨g,o0 + o,none⟩ _ hc
  rw [hyl] at this
  exact this
def wr (cs:List AV) (o:Nat) (xs:List AV):List AV:=cs.take o ++ xs ++ cs.drop (o + xs.length)
theorem wr_length (cs:List AV) (o:Nat) (xs:List AV) (h:o + xs.length ≤ cs.length):(wr cs o xs).length = cs.length:=by
  unfold wr; simp; omega
theorem store_cells {P:Program} {ρ:Env} {m:M} {w:World} (h:MRel ρ m w) {b:Nat} {e:TypeId} {cs:List AV} {tg:Bool} (hb:m.H.get b = some (.cells e cs tg)) {g o0 z l:Nat} (hq:ρ.blk b = some (g,o0,z,l)) (o:Nat) {ls:List AV} {ys:List Value} (hg:gams ρ ls = some ys) (h1:∀ y ∈ ys,y.oneCell' = true) (hn:o + ls.length ≤ cs.length) :
    ∃ w',(storeCells ⟨g,o0 + o,none⟩ ys).run P w = .ok () w'∧StepR ρ m w ρ (putB m b (some (.cells e (wr cs o ls) tg))) w':=by
  obtain ⟨g',o',z',arr,xs,k1,k2,k3,k4,k5,k6,k7,k8⟩:=row_of h hb
  have hq':=hq
  rw [hq] at k1; injection k1 with k1; injection k1 with e1 k1; injection k1 with e2 k1; injection k1 with e3 e4
  subst e1; subst e2; subst e3; subst e4
  have hyl:=gams_length hg
  have hxl:=gams_length k5
  have hrun:=run_storeCells_at P g (o0 + o) e ys 0 arr w k2 (by omega) h1
  refine ⟨_,hrun,StepR.put h hb hq' ?_ (fun k hk=>setRow_other w g k _ hk) (by simp) rfl rfl rfl⟩
  refine ⟨g,o0,z,_,xs.take o ++ ys ++ xs.drop (o + ys.length),by rw [wr_length cs o ls hn]; exact hq',setRow_heap w g arr _ e (0,0) k2,?_,by rw [wr_length cs o ls hn]; exact k4,?_,?_,?_,by rw [wr_length cs o ls hn]; exact k8⟩
  · simp; omega
  · unfold wr
    rw [← hyl]
    exact gams_append (gams_append (gams_take o k5) hg) (gams_drop _ k5)
  · intro x hx
    rcases List.mem_append.1 hx with hx | hx
    · rcases List.mem_append.1 hx with hx | hx
      · exact k6 x (List.mem_of_mem_take hx)
      · exact h1 x hx
    · exact k6 x (List.mem_of_mem_drop hx)
  · intro j hj
    rw [wr_length cs o ls hn] at hj
    have ha:∀ i,i < cs.length→arr.toList[o0 + i]? = xs[i]?:=fun i hi=>by rw [← k7 i hi]; simp
    simp only [List.getElem?_toArray,Nat.add_zero]
    have T1:(arr.toList.take (o0 + o)).length = o0 + o:=by rw [List.length_take,Array.length_toList]; omega
    have T2:(xs.take o).length = o:=by rw [List.length_take]; omega
    rw [List.append_assoc,List.append_assoc]
    by_cases c1:j < o
    · rw [List.getElem?_append_left (by omega),List.getElem?_append_left (by omega),List.getElem?_take,List.getElem?_take,if_pos (by omega),if_pos c1]
      exact ha j hj
    · have L:∀ D:List Value,(arr.toList.take (o0 + o) ++ (ys ++ D))[o0 + j]? = (ys ++ D)[j - o]?:=fun D=>by
        rw [List.getElem?_append_right (by omega),T1,show o0 + j - (o0 + o) = j - o by omega]
      have R:∀ D:List Value,(xs.take o ++ (ys ++ D))[j]? = (ys ++ D)[j - o]?:=fun D=>by
        rw [List.getElem?_append_right (by omega),T2]
      rw [L,R]
      by_cases c2:j < o + ys.length
      · rw [List.getElem?_append_left (by omega),List.getElem?_append_left (by omega)]
      · have L2:∀ D:List Value,(ys ++ D)[j - o]? = D[j - o - ys.length]?:=fun D=>List.getElem?_append_right (by omega)
        rw [L2,L2,List.getElem?_drop,List.getElem?_drop]
        have:=ha j hj
        rw [show o0 + o + ys.length + (j - o - ys.length) = o0 + j by omega,show o + ys.length + (j - o - ys.length) = j by omega]
        exact this
theorem new_row {ρ:Env} {m m':M} {w:World} (h:MRel ρ m w) (e:TypeId) {cs:List AV} {xs:List Value} (hg:gams ρ cs = some xs) (h1:∀ x ∈ xs,x.oneCell' = true) {tg:Bool} (hm:newB m (.cells e cs tg) = some m') (rest:List Value) (κ:Option Nat) (htg:tg = true→rest = []) :
    StepR ρ m w (ρ.add m (w.heap.size,0,xs.length + rest.length,cs.length) κ) { m' with nc:=m.nc + cN κ } (w.alloc (.cells (xs ++ rest).toArray e)):=by
  have hl:=gams_length hg
  exact StepR.new h (w':=w.alloc (.cells (xs ++ rest).toArray e)) (w.heap.size,0,xs.length + rest.length,cs.length) κ hm (Nat.le_refl _)
    ⟨w.heap.size,0,_,(xs ++ rest).toArray,xs,Env.add_new _ _ _ _,heap_alloc_new w _,by simp,by omega,gams_mono (h.le_add _ _) _ hg,h1,fun j hj=>by
      rw [List.getElem?_toArray,Nat.zero_add,List.getElem?_append_left (by omega)],fun ht=>⟨rfl,by rw [htg ht]; simpa using hl⟩⟩
    (fun g hg=>heap_alloc_old _ _ _ hg) (by simp) rfl rfl rfl
theorem new_nc {m m':M} {k:Blk} (hm:newB m k = some m'):{ m' with nc:=m.nc + cN none } = m':=by
  obtain ⟨_,rfl⟩:=newB_some hm; rfl
theorem add_ptr (ρ:Env) (m:M) (q:Nat × Nat × Nat × Nat) (c:Option Nat) (o:Nat):gam (ρ.add m q c) (.ptr m.nb o) = some (.pointer (some ⟨q.1,q.2.1 + o,none⟩)):=by
  unfold gam; rw [Env.add_new]
end Go.Sym
end
section
namespace Go.Sym
open Go
structure TInf where
  desc:TypeDesc
  agg:Bool
  size:Nat
  bytes:Nat
  zero:List Value
  zv:Value
  flds:List (Nat × Nat × TypeId)
def aggD:TypeDesc→Bool
  | .struct _ | .array _ _=>true
  | _=>false
structure TOne (P:Program) (t:TypeId) (i:TInf):Prop where
  und:P.underlying t = some i.desc
  agg:i.agg = aggD i.desc
  info:∃ inf z,P.info? t = some inf∧inf.size = i.size∧inf.bytes = i.bytes∧inf.zero = some z∧z.cells.toList = i.zero∧i.zero.length = i.size∧∀ x ∈ i.zero,x.oneCell' = true
  zv:(P.info? t).bind (·.zero) = some i.zv
  flds:∀ fs,i.desc = .struct fs→fs.toList.mapM (fun f=>(P.info? f.type).map fun i=>(f.offset,i.size)) = some (i.flds.map fun q=>(q.1,q.2.1))∧fs.toList.map (·.type) = i.flds.map (·.2.2)
def TOK (P:Program) (T:TypeId→Option TInf):Prop:=∀ t i,T t = some i→TOne P t i
section
variable {P:Program} {T:TypeId→Option TInf} (hT:TOK P T)
include hT
theorem t_und {t:TypeId} {i:TInf} (h:T t = some i) (w:World):(underlying t).run P w = .ok i.desc w:=run_underlying (hT t i h).und w
theorem t_agg {t:TypeId} {i:TInf} (h:T t = some i) (w:World):(isAgg t).run P w = .ok i.agg w:=by
  unfold isAgg
  simp only [Sem.run_bind,t_und hT h,Result.andThen_ok]
  rw [(hT t i h).agg]
  cases i.desc <;> rfl
theorem t_info {t:TypeId} {i:TInf} (h:T t = some i) (w:World):∃ inf,P.info? t = some inf∧inf.size = i.size∧inf.bytes = i.bytes∧(typeInfo t).run P w = .ok inf w:=by
  obtain ⟨inf,z,h1,h2,h3,_⟩:=(hT t i h).info
  exact ⟨inf,h1,h2,h3,by simp [typeInfo,h1]⟩
theorem t_size {t:TypeId} {i:TInf} (h:T t = some i) (w:World):(sizeOf t).run P w = .ok i.size w:=by
  obtain ⟨inf,_,h2,_,h4⟩:=t_info hT h w
  simp [sizeOf,h4,h2]
theorem t_zero {t:TypeId} {i:TInf} (h:T t = some i) (w:World):∃ z,(zeroValue t).run P w = .ok z w∧z.cells.toList = i.zero:=by
  obtain ⟨inf,z,h1,h2,h3,h4,h5,_⟩:=(hT t i h).info
  exact ⟨z,by simp [zeroValue,typeInfo,h1,h4],h5⟩
end
def OpOK (P:Program) (s:Sem Value) (ρ:Env) (m:M) (w:World) (r:AV) (m':M):Prop :=
  ∃ ρ' w' x,s.run P w = .ok x w'∧gam ρ' r = some x∧StepR ρ m w ρ' m' w'
def OpOKu (P:Program) (s:Sem Unit) (ρ:Env) (m:M) (w:World) (m':M):Prop :=
  ∃ ρ' w',s.run P w = .ok () w'∧StepR ρ m w ρ' m' w'
theorem OpOK.here {P:Program} {s:Sem Value} {ρ:Env} {m:M} {w:World} {r:AV} {x:Value} (h:MRel ρ m w) (hr:s.run P w = .ok x w) (hx:gam ρ r = some x):OpOK P s ρ m w r m :=
  ⟨ρ,w,x,hr,hx, .refl h⟩
def loadA (T:TypeId→Option TInf) (m:M) (t:TypeId) (b o:Nat):Option AV :=
  match T t,m.H.get b with
  | some i,some (.cells _ cs _) =>
    if i.agg then (if o + i.size ≤ cs.length then some (.agg ((cs.drop o).take i.size)) else none) else cs[o]?
  | _,_=>none
theorem ptr_gam {ρ:Env} {b o:Nat} {p:Value} (h:gam ρ (.ptr b o) = some p):∃ g o0 z l,ρ.blk b = some (g,o0,z,l)∧p = .pointer (some ⟨g,o0 + o,none⟩):=by
  unfold gam at h
  cases hb:ρ.blk b with
  | none=>simp [hb] at h
  | some q=>obtain ⟨g,o0,z,l⟩:=q; simp only [hb] at h; injection h with h; exact ⟨g,o0,z,l,rfl,h.symm⟩
theorem load_here {P:Program} {T:TypeId→Option TInf} (hT:TOK P T) {ρ:Env} {m:M} {w:World} (h:MRel ρ m w) {t:TypeId} {b o:Nat} {v:AV} (hl:loadA T m t b o = some v) {p:Value} (hp:gam ρ (.ptr b o) = some p) :
    ∃ y,(Instr.loadAt t p).run P w = .ok y w∧gam ρ v = some y:=by
  obtain ⟨g,o0,z,l,hq,rfl⟩:=ptr_gam hp
  unfold loadA at hl
  split at hl
  · rename_i i e cs tg hi hb
    by_cases ha:i.agg = true
    · rw [if_pos ha] at hl
      split at hl
      · injection hl with hl; subst hl
        obtain ⟨ys,h1,h2,h3,h4,h5⟩:=load_cells (P:=P) h hb hq o i.size ‹_›
        refine ⟨.agg ys.toArray,?_,(by unfold gam; rw [h1])⟩
        simp [Instr.loadAt,Instr.sureAddr,loadVar,t_agg hT hi,ha,t_size hT hi,h5]
      · cases hl
    · rw [if_neg ha] at hl
      have ha':i.agg = false:=by simpa using ha
      have ho:o < cs.length:=(List.getElem?_eq_some_iff.1 hl).1
      obtain ⟨ys,h1,h2,h3,h4,h5⟩:=load_cells (P:=P) h hb hq o 1 (by omega)
      have hd:(cs.drop o).take 1 = [v]:=by
        apply List.ext_getElem?
        intro j
        rw [List.getElem?_take]
        cases j with
        | zero=>simp [hl]
        | succ j=>simp
      rw [hd] at h1
      obtain ⟨y,q,hy,hq2,rfl⟩:=gams_cons.1 h1
      have hc:=h4 0 y rfl
      rw [add_none,Nat.add_zero] at hc
      refine ⟨y,?_,hy⟩
      simp [Instr.loadAt,Instr.sureAddr,loadVar,t_agg hT hi,ha',run_load,hc]
  · cases hl
theorem load_ok {P:Program} {T:TypeId→Option TInf} (hT:TOK P T) {ρ:Env} {m:M} {w:World} (h:MRel ρ m w) {t:TypeId} {b o:Nat} {v:AV} (hl:loadA T m t b o = some v) {p:Value} (hp:gam ρ (.ptr b o) = some p) :
    OpOK P (Instr.loadAt t p) ρ m w v m:=by
  obtain ⟨y,h1,h2⟩:=load_here (P:=P) hT h hl hp
  exact OpOK.here h h1 h2
def storeA (T:TypeId→Option TInf) (m:M) (t:TypeId) (b o:Nat) (v:AV):Option M :=
  match T t,m.H.get b,cellsA v with
  | some i,some (.cells e cs tg),some xs=>if xs.length = i.size && decide (o + xs.length ≤ cs.length) && xs.all one then some (putB m b (some (.cells e (wr cs o xs) tg))) else none
  | _,_,_=>none
theorem store_ok {P:Program} {T:TypeId→Option TInf} (hT:TOK P T) {ρ:Env} {m m':M} {w:World} (h:MRel ρ m w) {t:TypeId} {b o:Nat} {v:AV} (hl:storeA T m t b o v = some m') {p x:Value} (hp:gam ρ (.ptr b o) = some p) (hx:gam ρ v = some x) :
    OpOKu P (Instr.storeAt t p x) ρ m w m':=by
  obtain ⟨g,o0,z,l,hq,rfl⟩:=ptr_gam hp
  unfold storeA at hl
  split at hl
  · rename_i i e cs tg xs hi hb hc
    split at hl
    · rename_i hcond
      injection hl with hl; subst hl
      simp only [Bool.and_eq_true,decide_eq_true_eq] at hcond
      obtain ⟨⟨c1,c2⟩,c3⟩:=hcond
      have hg:=cellsA_gam hc hx
      have hlen:=gams_length hg
      obtain ⟨w',hr,hs⟩:=store_cells (P:=P) h hb hq o hg (ones_gam c3 hg) c2
      refine ⟨ρ,w',?_,hs⟩
      simp only [Array.length_toList] at hlen
      simp [Instr.storeAt,Instr.sureAddr,storeVar,t_size hT hi,hlen,c1,hr]
    · cases hl
  · cases hl
def newRowA (m:M) (e:TypeId) (cs:List AV):Option (AV × M) :=
  if cs.all one then (newB m (.cells e cs true)).map fun m'=>(.ptr m.nb 0,m') else none
theorem newRow_ok {P:Program} {ρ:Env} {m m':M} {w:World} {v:AV} (h:MRel ρ m w) {e:TypeId} {cs:List AV} (hn:newRowA m e cs = some (v,m')) {xs:List Value} (hg:gams ρ cs = some xs) :
    ∃ ρ' w' a,(newRow e xs.toArray).run P w = .ok a w'∧gam ρ' v = some (.pointer (some a))∧StepR ρ m w ρ' m' w':=by
  unfold newRowA at hn
  split at hn
  · rename_i h1
    cases hm:newB m (.cells e cs true) with
    | none=>simp [hm] at hn
    | some m1 =>
      rw [hm] at hn
      simp only [Option.map_some] at hn
      injection hn with hn; injection hn with hv hm'; subst hv; subst hm'
      have hs:=new_row h e hg (ones_gam h1 hg) hm [] none (fun _=>rfl)
      rw [new_nc hm] at hs
      refine ⟨_,_,⟨w.heap.size,0,none⟩,?_,add_ptr ρ m _ _ _,hs⟩
      rw [List.append_nil]
      rfl
  · cases hn
def allocA (T:TypeId→Option TInf) (m:M) (t:TypeId):Option (AV × M) :=
  match T t with
  | some i=>newRowA m t (i.zero.map .lit)
  | none=>none
theorem alloc_ok {P:Program} {T:TypeId→Option TInf} (hT:TOK P T) {ρ:Env} {m m':M} {w:World} (h:MRel ρ m w) {t:TypeId} {v:AV} (ha:allocA T m t = some (v,m')) :
    OpOK P (Instr.alloc t true (.tuple #[])) ρ m w v m':=by
  unfold allocA at ha
  split at ha
  · rename_i i hi
    obtain ⟨z,hz,hzc⟩:=t_zero hT hi w
    obtain ⟨ρ',w',a,hr,hg,hs⟩:=newRow_ok (P:=P) h ha (gams_lits i.zero)
    refine ⟨ρ',w',_,?_,hg,hs⟩
    rw [← hzc,Array.toArray_toList] at hr
    simp [Instr.alloc,hz,newVar,hr]
  · cases ha
def boxA (m:M) (t:TypeId) (v:AV):Option (AV × M) :=
  match cellsA v with
  | some cs=>newRowA m t cs
  | none=>none
theorem box_ok {P:Program} {ρ:Env} {m m':M} {w:World} (h:MRel ρ m w) {t:TypeId} {v r:AV} (ha:boxA m t v = some (r,m')) {x:Value} (hx:gam ρ v = some x) :
    OpOK P (Instr.box t x) ρ m w r m':=by
  unfold boxA at ha
  split at ha
  · rename_i cs hc
    obtain ⟨ρ',w',a,hr,hg,hs⟩:=newRow_ok (P:=P) h ha (cellsA_gam hc hx)
    refine ⟨ρ',w',_,?_,hg,hs⟩
    rw [Array.toArray_toList] at hr
    simp [Instr.box,newVar,hr]
  · cases ha
def fillA (place:Nat→Option (Nat × Nat)) (cells:List AV):List (Nat × AV)→Option (List AV)
  | []=>some cells
  | (i,v) :: rest =>
    match place i,cellsA v with
    | some (off,size),some cs=>if cs.length = size && decide (off + cs.length ≤ cells.length) then fillA place (wr cells off cs) rest else none
    | _,_=>none
theorem foldl_put (off:Nat):∀ (us:List Value) (k:Nat) (cells:Array Value),off + k + us.length ≤ cells.size →
    ((us.zipIdx k).foldl (fun cs (c:Value × Nat)=>cs.setIfInBounds (off + c.2) c.1) cells).toList = cells.toList.take (off + k) ++ us ++ cells.toList.drop (off + k + us.length)
  | [],k,cells,_=>by simp
  | u :: us,k,cells,h=>by
    have ih:=foldl_put off us (k + 1) (cells.setIfInBounds (off + k) u) (by simp at h ⊢; omega)
    rw [List.zipIdx_cons,List.foldl_cons,ih,Array.toList_setIfInBounds]
    have:=list_seg_step cells.toList (off + k) u us (by simp at h ⊢; omega)
    simpa [Nat.add_assoc] using this
theorem gams_wr {ρ:Env} {cells cs:List AV} {xs us:List Value} (h:gams ρ cells = some xs) (hc:gams ρ cs = some us) (off:Nat):gams ρ (wr cells off cs) = some (xs.take off ++ us ++ xs.drop (off + us.length)):=by
  unfold wr
  rw [← gams_length hc]
  exact gams_append (gams_append (gams_take off h) hc) (gams_drop _ h)
theorem fill_ok {ρ:Env} {place:Nat→Option (Nat × Nat)}:∀ {parts:List (Nat × AV)} {cells r:List AV},fillA place cells parts = some r→∀ {xs:Array Value},gams ρ cells = some xs.toList→∀ {ps:List (Nat × Value)},ps.map (·.1) = parts.map (·.1)→gams ρ (parts.map (·.2)) = some (ps.map (·.2)) →
    ∃ ys:Array Value,Instr.fill place xs ps = some ys∧gams ρ r = some ys.toList
  | [],cells,r,h,xs,hx,ps,h1,_=>by
    unfold fillA at h; injection h with h; subst h
    obtain rfl:ps = []:=by simpa using h1
    exact ⟨xs,rfl,hx⟩
  | (i,v) :: parts,cells,r,h,xs,hx,ps,h1,h2=>by
    cases ps with
    | nil=>simp at h1
    | cons pu ps =>
      obtain ⟨i',u⟩:=pu
      simp only [List.map_cons,List.cons.injEq] at h1
      obtain ⟨rfl,h1⟩:=h1
      obtain ⟨p,q,hv,hr,he⟩:=gams_cons.1 h2
      simp only [List.map_cons,List.cons.injEq] at he
      obtain ⟨rfl,rfl⟩:=he
      unfold fillA at h
      split at h
      · rename_i off size cs hpl hc
        split at h
        · rename_i hcond
          simp only [Bool.and_eq_true,decide_eq_true_eq] at hcond
          obtain ⟨c1,c2⟩:=hcond
          have hg:=cellsA_gam hc hv
          have hlen:=gams_length hg
          have hxl:=gams_length hx
          simp only [Array.length_toList] at hlen hxl
          have hf:=foldl_put off u.cells.toList 0 xs (by simp; omega)
          have hw:=gams_wr hx hg off
          rw [Nat.add_zero] at hf
          obtain ⟨ys,hy1,hy2⟩:=fill_ok h (xs:=(u.cells.toList.zipIdx 0).foldl (fun cs (c:Value × Nat)=>cs.setIfInBounds (off + c.2) c.1) xs) (by rw [hf]; exact hw) h1 hr
          refine ⟨ys,?_,hy2⟩
          simp only [Instr.fill,hpl]
          rw [if_neg (by simp; omega)]
          rw [← hy1,← Array.foldl_toList,Array.toList_zipIdx]
        · cases h
      · cases h
end Go.Sym
end
section
namespace Go.Sym
open Go
variable {P:Program} {T:TypeId→Option TInf} {ρ:Env} {m m':M} {w:World}
def buildA (T:TypeId→Option TInf) (t:TypeId) (parts:List (Nat × AV)):Option AV :=
  match T t with
  | some i=>match i.desc with
    | .struct _=>match fillA (fun k=>(i.flds[k]?).map fun q=>(q.1,q.2.1)) (i.zero.map .lit) parts with
      | some l=>some (.agg l)
      | none=>none
    | .array _ e=>match T e with
      | some ie=>match fillA (fun k=>some (k * ie.size,ie.size)) (i.zero.map .lit) parts with
        | some l=>some (.agg l)
        | none=>none
      | none=>none
    | _=>none
  | none=>none
theorem build_ok (hT:TOK P T) (h:MRel ρ m w) {t:TypeId} {parts:List (Nat × AV)} {v:AV} (hb:buildA T t parts = some v) {ps:Array (Nat × Value)} (h1:ps.toList.map (·.1) = parts.map (·.1)) (h2:gams ρ (parts.map (·.2)) = some (ps.toList.map (·.2))) :
    OpOK P (Instr.build t ps) ρ m w v m:=by
  unfold buildA at hb
  split at hb
  case h_2=>cases hb
  rename_i i hi
  obtain ⟨inf,z,k1,k2,k3,k4,k5,k6⟩:=(hT t i hi).info
  have hz:gams ρ (i.zero.map .lit) = some z.cells.toList:=by rw [k5]; exact gams_lits _
  have hu:=(hT t i hi).und
  split at hb
  · rename_i fs hd
    split at hb
    case h_2=>cases hb
    rename_i l hl
    injection hb with hb; subst hb
    obtain ⟨ys,y1,y2⟩:=fill_ok hl hz h1 h2
    obtain ⟨f1,f2⟩:=(hT t i hi).flds fs hd
    refine OpOK.here h (x:=.agg ys) (run_build w t ps ys ?_) (by unfold gam; rw [y2])
    unfold Program.built
    rw [hd] at hu
    simp only [k1,hu,k4,f1]
    rw [← y1]
    congr 1
    funext k
    simp
  · rename_i n e hd
    split at hb
    case h_2=>cases hb
    rename_i ie hie
    split at hb
    case h_2=>cases hb
    rename_i l hl
    injection hb with hb; subst hb
    obtain ⟨ys,y1,y2⟩:=fill_ok hl hz h1 h2
    obtain ⟨einf,ez,e1,e2,_⟩:=(hT e ie hie).info
    refine OpOK.here h (x:=.agg ys) (run_build w t ps ys ?_) (by unfold gam; rw [y2])
    unfold Program.built
    rw [hd] at hu
    simp only [k1,hu,k4,e1,e2]
    exact y1
  · cases hb
def rep {α:Type}:Nat→List α→List α
  | 0,_=>[]
  | n + 1,l=>l ++ rep n l
theorem rep_length {α:Type}:∀ (n:Nat) (l:List α),(rep n l).length = n * l.length
  | 0,l=>by simp [rep]
  | n + 1,l=>by rw [rep,List.length_append,rep_length n l,Nat.succ_mul,Nat.add_comm]
theorem rep_get {α:Type}:∀ (n:Nat) (l:List α) (j:Nat),j < n * l.length→(rep n l)[j]? = l[j % l.length]?
  | 0,l,j,h=>by simp at h
  | n + 1,l,j,h=>by
    rw [rep]
    by_cases c:j < l.length
    · rw [List.getElem?_append_left c,Nat.mod_eq_of_lt c]
    · rw [List.getElem?_append_right (by omega),rep_get n l (j - l.length) (by rw [Nat.succ_mul] at h; omega)]
      congr 1
      conv=>rhs; rw [show j = (j - l.length) + l.length by omega,Nat.add_mod_right]
theorem rep_map {α β:Type} (f:α→β):∀ (n:Nat) (l:List α),rep n (l.map f) = (rep n l).map f
  | 0,l=>rfl
  | n + 1,l=>by rw [rep,rep,rep_map f n l,List.map_append]
theorem rep_mem {α:Type} {x:α}:∀ {n:Nat} {l:List α},x ∈ rep n l→x ∈ l
  | 0,l,h=>by cases h
  | n + 1,l,h=>by
    rw [rep] at h
    rcases List.mem_append.1 h with h | h
    · exact h
    · exact rep_mem h
theorem range_rep (z:Array Value) (n:Nat):((Array.range (n * z.size)).map (z[· % z.size]!)).toList = rep n z.toList:=by
  apply List.ext_getElem?
  intro j
  by_cases h:j < n * z.size
  · rw [rep_get n z.toList j (by simpa using h)]
    have hs:0 < z.size:=by
      rcases Nat.eq_zero_or_pos z.size with h0 | h0
      · rw [h0] at h; simp at h
      · exact h0
    have hm:=Nat.mod_lt j hs
    simp [h,getElem!_def,Array.getElem?_eq_getElem hm]
  · rw [List.getElem?_eq_none (by simp; omega),List.getElem?_eq_none (by rw [rep_length]; simpa using h)]
def buildSliceA (T:TypeId→Option TInf) (m:M) (t:TypeId) (len:Nat) (parts:List (Nat × AV)):Option (AV × M) :=
  match T t with
  | some i=>match i.desc with
    | .slice e=>match T e with
      | some ie=>if len = 0 then (match parts,newB m (.cells e [] true) with
          | [],some m'=>some (.slc m.nb 0 0 ie.size (.ex 0),m')
          | _,_=>none)
        else if decide (0 < len * ie.size) && decide (len * ie.size ≤ 16777216) then
          match fillA (fun k=>some (k * ie.size,ie.size)) (rep len (ie.zero.map .lit)) parts with
          | some cs=>if cs.all one && decide (cs.length = len * ie.size) then (match newB m (.cells e cs true) with
            | some m'=>some (.slc m.nb 0 len ie.size (.ex len),m')
            | none=>none) else none
          | none=>none
        else none
      | none=>none
    | _=>none
  | none=>none
theorem add_slc_ex (ρ:Env) (m:M) (g z l:Nat) (n sz c:Nat) (κ:Option Nat) (h1:n ≤ c) (h2:c * sz ≤ l):gam (ρ.add m (g,0,z,l) κ) (.slc m.nb 0 n sz (.ex c)) = some (.slice (some ⟨g,0,none⟩) n c):=by
  unfold gam slcV
  rw [Env.add_new]
  simp [h1,h2]
theorem buildSlice_ok (hT:TOK P T) (h:MRel ρ m w) {t:TypeId} {len:Nat} {parts:List (Nat × AV)} {v:AV} (hb:buildSliceA T m t len parts = some (v,m')) {ps:Array (Nat × Value)} (h1:ps.toList.map (·.1) = parts.map (·.1)) (h2:gams ρ (parts.map (·.2)) = some (ps.toList.map (·.2))) :
    OpOK P (Instr.buildSlice t len ps) ρ m w v m':=by
  unfold buildSliceA at hb
  split at hb
  case h_2=>cases hb
  rename_i i hi
  split at hb
  case h_2=>cases hb
  rename_i e hd
  split at hb
  case h_2=>cases hb
  rename_i ie hie
  split at hb
  · rename_i h0
    subst h0
    split at hb
    case h_2=>cases hb
    rename_i m1 hm
    injection hb with hb; injection hb with hv hm'; subst hv; subst hm'
    have hu:=(hT t i hi).und
    rw [hd] at hu
    have hps:ps = #[]:=by
      have:ps.toList = []:=by simpa using h1
      rw [← Array.toList_inj,this]
    subst hps
    have hs:=new_row h e (cs:=[]) (xs:=[]) rfl (fun x hx=>by cases hx) hm [] none (fun _=>rfl)
    rw [new_nc hm] at hs
    refine ⟨_,_, .slice (some ⟨w.heap.size,0,none⟩) 0 0,?_,add_slc_ex ρ m _ _ _ 0 ie.size 0 none (Nat.le_refl _) (by simp),hs⟩
    simp [Instr.buildSlice,run_underlying hu,t_size hT hie,Instr.fill,newRow]
    congr 2
    apply Array.toList_inj.1
    simp
  split at hb
  case isFalse=>cases hb
  rename_i hsz
  simp only [Bool.and_eq_true,decide_eq_true_eq] at hsz
  split at hb
  case h_2=>cases hb
  rename_i cs hcs
  split at hb
  case isFalse=>cases hb
  rename_i hone
  simp only [Bool.and_eq_true,decide_eq_true_eq] at hone
  split at hb
  case h_2=>cases hb
  rename_i m1 hm
  injection hb with hb; injection hb with hv hm'; subst hv; subst hm'
  obtain ⟨inf,z,k1,k2,k3,k4,k5,k6,k7⟩:=(hT e ie hie).info
  have hu:=(hT t i hi).und
  rw [hd] at hu
  have hzs:z.cells.size = ie.size:=by rw [← k6,← k5]; simp
  have hz:gams ρ (rep len (ie.zero.map .lit)) = some ((Array.range (len * ie.size)).map (z.cells[· % z.cells.size]!)).toList:=by
    rw [← hzs,range_rep,k5,rep_map]
    exact gams_lits _
  obtain ⟨ys,y1,y2⟩:=fill_ok hcs hz h1 h2
  have hrun:=run_buildSlice (P:=P) w t e len ps ys inf z hu k1 k4 (by rw [k2]; omega) (by rw [k2]; omega) (by rw [k2]; exact y1)
  have hs:=new_row h e y2 (ones_gam hone.1 y2) hm [] none (fun _=>rfl)
  rw [new_nc hm] at hs
  rw [List.append_nil,Array.toArray_toList] at hs
  refine ⟨_,_,_,hrun,?_,hs⟩
  exact add_slc_ex ρ m _ _ _ len ie.size len none (Nat.le_refl _) (by omega)
def natOf:AV→Option Nat
  | .lit (.int _ (.ofNat n))=>some n
  | _=>none
theorem natOf_gam {v:AV} {n:Nat} (h:natOf v = some n) {x:Value} (hx:gam ρ v = some x):∃ k,x = .int k n:=by
  unfold natOf at h
  split at h
  · injection h with h; subst h
    simp only [gam] at hx; injection hx with hx
    exact ⟨_,hx.symm⟩
  · cases h
def makeSliceA (T:TypeId→Option TInf) (m:M) (t:TypeId) (l c:AV):Option (AV × M) :=
  match T t,natOf l,natOf c with
  | some i,some l,some c=>match i.desc with
    | .slice e=>match T e with
      | some ie=>if decide (l ≤ c) && decide (c * ie.bytes ≤ 16777216) && decide (c ≤ 16777216) && decide (0 < ie.size) then
          (match newB m (.cells e (rep c (ie.zero.map .lit)) true) with
          | some m'=>some (.slc m.nb 0 l ie.size (.ex c),m')
          | none=>none)
        else none
      | none=>none
    | _=>none
  | _,_,_=>none
theorem makeSlice_ok (hT:TOK P T) (h:MRel ρ m w) {t:TypeId} {l c v:AV} (hb:makeSliceA T m t l c = some (v,m')) {x y:Value} (hx:gam ρ l = some x) (hy:gam ρ c = some y) :
    OpOK P (Instr.makeSlice t x y) ρ m w v m':=by
  unfold makeSliceA at hb
  split at hb
  case h_2=>cases hb
  rename_i i ln cn hi hl hc
  split at hb
  case h_2=>cases hb
  rename_i e hd
  split at hb
  case h_2=>cases hb
  rename_i ie hie
  split at hb
  case isFalse=>cases hb
  rename_i hcond
  simp only [Bool.and_eq_true,decide_eq_true_eq] at hcond
  obtain ⟨⟨⟨c1,c2⟩,c3⟩,c4⟩:=hcond
  split at hb
  case h_2=>cases hb
  rename_i m1 hm
  injection hb with hb; injection hb with hv hm'; subst hv; subst hm'
  obtain ⟨kx,rfl⟩:=natOf_gam hl hx
  obtain ⟨ky,rfl⟩:=natOf_gam hc hy
  obtain ⟨inf,z,k1,k2,k3,k4,k5,k6,k7⟩:=(hT e ie hie).info
  have hu:=(hT t i hi).und
  rw [hd] at hu
  have hzs:z.cells.size = ie.size:=by rw [← k6,← k5]; simp
  have hg:gams ρ (rep cn (ie.zero.map .lit)) = some (rep cn ie.zero):=by rw [rep_map]; exact gams_lits _
  have h1:∀ x ∈ rep cn ie.zero,x.oneCell' = true:=fun x hx=>k7 x (rep_mem hx)
  have hs:=new_row h e hg h1 hm [] none (fun _=>rfl)
  rw [new_nc hm,List.append_nil] at hs
  have hl2:(rep cn (ie.zero.map AV.lit)).length = cn * ie.size:=by rw [rep_length,List.length_map,k6]
  refine ⟨_,_, .slice (some ⟨w.heap.size,0,none⟩) ln cn,?_,add_slc_ex ρ m _ _ _ ln ie.size cn none c1 (by rw [hl2]; exact Nat.le_refl _),hs⟩
  have hw1:IntKind.i64.wrap (ln:Int) = ln:=by unfold IntKind.wrap; simp [IntKind.signed,IntKind.bits]; omega
  have hw2:IntKind.i64.wrap (cn:Int) = cn:=by unfold IntKind.wrap; simp [IntKind.signed,IntKind.bits]; omega
  have e1:¬ ((cn:Int) < 0):=by omega
  have e2:¬ ((ie.bytes:Int) * cn > 281474976710656):=by
    have:ie.bytes * cn ≤ 16777216:=by rw [Nat.mul_comm]; exact c2
    omega
  have e3:¬ (cn * ie.bytes > roomBytes):=by unfold roomBytes; omega
  have hr:((Array.range (cn * ie.size)).map (z.cells[· % z.cells.size]!)) = (rep cn ie.zero).toArray:=by
    rw [← hzs,← Array.toList_inj,range_rep,k5]
  have hz:=(show (zeroValue e).run P w = .ok z w by simp [zeroValue,typeInfo,k1,k4])
  have hti:=(show (typeInfo e).run P w = .ok inf w by simp [typeInfo,k1])
  by_cases c5:cn = 0
  · subst c5
    obtain rfl:ln = 0:=by omega
    unfold Instr.makeSlice
    simp only [Sem.run_bind,run_underlying hu,Result.andThen_ok,asInt,asIntOf,hti,Sem.run_pure,hw1,hw2,k3]
    simp [e3,askRoom,newRow,t_size hT hie,rep]
    congr 2
    apply Array.toList_inj.1
    simp
  have e4:¬ (cn * ie.size = 0):=by
    have:=Nat.mul_pos (show 0 < cn by omega) c4
    omega
  unfold Instr.makeSlice
  simp only [Sem.run_bind,run_underlying hu,Result.andThen_ok,asInt,asIntOf,hti,Sem.run_pure,hw1,hw2,k3]
  simp [k3,e1,e2,e3,e4,askRoom,hz,hr,newRow,c1,t_size hT hie]
  intro hcc; exfalso; omega
def optNat:Option AV→Option (Option Nat)
  | none=>some none
  | some v=>match natOf v with
    | some n=>some (some n)
    | none=>none
def BoundV (x:Option Value) (n:Option Nat):Prop:=match n with
  | none=>x = none
  | some n=>∃ k,x = some (.int k n)
def OptV (ρ:Env) (x:Option Value):Option AV→Prop
  | none=>x = none
  | some v=>∃ y,gam ρ v = some y∧x = some y
theorem optNat_gam {v:Option AV} {n:Option Nat} (h:optNat v = some n) {x:Option Value} (hx:OptV ρ x v):BoundV x n:=by
  unfold optNat at h
  cases v with
  | none=>simp only at h; injection h with h; subst h; exact hx
  | some v =>
    obtain ⟨y,hy,rfl⟩:=hx
    cases hn:natOf v with
    | none=>simp [hn] at h
    | some k =>
      simp only [hn] at h
      injection h with h; subst h
      obtain ⟨kk,rfl⟩:=natOf_gam hn hy
      exact ⟨kk,rfl⟩
theorem run_bound (w:World) (k:IntKind) (n y:Nat) (c:BoundsCode) (h:n ≤ y):(Instr.sliceBound (.int k n) y c).run P w = .ok n w:=by
  have h1:(n:Int) ≤ y:=by omega
  simp [Instr.sliceBound,asIntOf,h]
theorem run_bounds (w:World) (b:Bool) (len cap:Nat) {lo hi mx:Option Value} {l h k:Option Nat} (hl:BoundV lo l) (hh:BoundV hi h) (hk:BoundV mx k)
    (hx:k.isSome = true→h.isSome = true) (h1:k.getD cap ≤ cap) (h2:h.getD len ≤ k.getD cap) (h3:l.getD 0 ≤ h.getD len) :
    (Instr.sliceBounds b len cap lo hi mx).run P w = .ok (l.getD 0,h.getD len,k.getD cap) w:=by
  unfold Instr.sliceBounds
  cases k with
  | none =>
    obtain rfl:mx = none:=hk
    cases h with
    | none =>
      obtain rfl:hi = none:=hh
      cases l with
      | none=>obtain rfl:lo = none:=hl; simp
      | some l=>obtain ⟨kl,rfl⟩:=hl; simp [run_bound w kl l len _ (by simpa using h3)]
    | some h =>
      obtain ⟨kh,rfl⟩:=hh
      have e2:h ≤ cap:=by simpa using h2
      cases l with
      | none=>obtain rfl:lo = none:=hl; cases b <;> simp [run_bound w kh h cap _ e2]
      | some l =>
        obtain ⟨kl,rfl⟩:=hl
        have e3:l ≤ h:=by simpa using h3
        cases b <;> simp [run_bound w kh h cap _ e2,run_bound w kl l h _ e3]
  | some k =>
    obtain ⟨kk,rfl⟩:=hk
    have e1:k ≤ cap:=by simpa using h1
    cases h with
    | none=>simp at hx
    | some h =>
      obtain ⟨kh,rfl⟩:=hh
      have e2:h ≤ k:=by simpa using h2
      cases l with
      | none=>obtain rfl:lo = none:=hl; cases b <;> simp [run_bound w kh h k _ e2,run_bound w kk k cap _ e1]
      | some l =>
        obtain ⟨kl,rfl⟩:=hl
        have e3:l ≤ h:=by simpa using h3
        cases b <;> simp [run_bound w kh h k _ e2,run_bound w kk k cap _ e1,run_bound w kl l h _ e3]
def cutA (b o sz:Nat) (l h k:Nat):AV:=if k = l then .slc b o (h - l) sz (.ex 0) else .slc b (o + l * sz) (h - l) sz (.ex (k - l))
def sliceA (T:TypeId→Option TInf) (m:M) (t:TypeId) (x:AV) (lo hi mx:Option AV):Option AV :=
  match T t,optNat lo,optNat hi,optNat mx with
  | some i,some lo,some hi,some mx =>
    match i.desc,x with
    | .slice e, .slc b o n sz c=>match T e with
      | some ie =>
        if decide (ie.size = sz) && decide (0 < sz) && (hi.isSome || mx.isNone) then
          match mx,c with
          | some k, .ex cc=>if decide (lo.getD 0 ≤ hi.getD n) && decide (hi.getD n ≤ k) && decide (k ≤ cc) then some (cutA b o sz (lo.getD 0) (hi.getD n) k) else none
          | none, .ex cc=>if decide (lo.getD 0 ≤ hi.getD n) && decide (hi.getD n ≤ cc) then some (cutA b o sz (lo.getD 0) (hi.getD n) cc) else none
          | some k, .lo _ _=>match m.H.get b with
            | some (.cells _ cs _)=>if decide (lo.getD 0 ≤ hi.getD n) && decide (hi.getD n ≤ k) && decide (o + k * sz ≤ cs.length) then some (cutA b o sz (lo.getD 0) (hi.getD n) k) else none
            | _=>none
          | none, .lo i j=>match m.H.get b with
            | some (.cells _ cs _)=>if decide (lo.getD 0 ≤ hi.getD n) && decide (o + hi.getD n * sz ≤ cs.length) && (decide (lo.getD 0 = 0) || decide (o + lo.getD 0 * sz < cs.length)) then some (.slc b (o + lo.getD 0 * sz) (hi.getD n - lo.getD 0) sz (.lo i (j + lo.getD 0))) else if decide (lo.getD 0 = n) && decide (hi.getD n = n) then some (.cut b o n sz (.lo i j)) else none
            | _=>none
        else none
      | none=>none
    | .array n e, .ptr b o=>match T e,m.H.get b with
      | some ie,some (.cells _ cs _)=>if decide (lo.getD 0 ≤ hi.getD n) && decide (hi.getD n ≤ mx.getD n) && decide (mx.getD n ≤ n) && (hi.isSome || mx.isNone) && decide (o + n * ie.size ≤ cs.length) then some (cutA b o ie.size (lo.getD 0) (hi.getD n) (mx.getD n)) else none
      | _,_=>none
    | _,_=>none
  | _,_,_,_=>none
theorem cut_gam {b o sz g o0 z l:Nat} (hq:ρ.blk b = some (g,o0,z,l)) {lo hi k:Nat} (h1:lo ≤ hi) (h2:hi ≤ k) (h3:o + k * sz ≤ l) :
    gam ρ (cutA b o sz lo hi k) = some (.slice (some (if k = lo then (⟨g,o0 + o,none⟩:Addr) else (⟨g,o0 + o,none⟩:Addr).add (lo * sz))) (hi - lo) (k - lo)):=by
  unfold cutA
  split
  · rename_i e
    unfold gam slcV
    rw [hq]
    have:hi - lo = 0:=by omega
    have h4:o ≤ l:=by omega
    simp [this,e,h4]
  · unfold gam slcV
    rw [hq]
    have h4:o + lo * sz + (k - lo) * sz ≤ l:=by
      have:(k - lo) * sz = k * sz - lo * sz:=Nat.sub_mul _ _ _
      have:lo * sz ≤ k * sz:=Nat.mul_le_mul_right _ (by omega)
      omega
    rw [add_none]
    simp [h4,Nat.add_assoc]
    omega
theorem MRel.lenq (h:MRel ρ m w) {b:Nat} {e:TypeId} {cs:List AV} {tg:Bool} (hb:m.H.get b = some (.cells e cs tg)) {g o0 z l:Nat} (hq:ρ.blk b = some (g,o0,z,l)):l = cs.length:=by
  obtain ⟨g',o',z',arr,xs,h1,_⟩:=row_of h hb
  rw [hq] at h1
  injection h1 with h1; injection h1 with e1 h1; injection h1 with e2 h1; injection h1 with e3 h1
theorem slice_ok (hT:TOK P T) (h:MRel ρ m w) {t:TypeId} {x r:AV} {lo hi mx:Option AV} (hs:sliceA T m t x lo hi mx = some r) {X:Value} {L H K:Option Value} (hx:gam ρ x = some X)
    (hl:OptV ρ L lo) (hh:OptV ρ H hi) (hk:OptV ρ K mx) :
    OpOK P (Instr.sliceAt t X L H K) ρ m w r m:=by
  unfold sliceA at hs
  split at hs
  case h_2=>cases hs
  rename_i i l hn k hi' hol hoh hok
  have bl:=optNat_gam hol hl
  have bh:=optNat_gam hoh hh
  have bk:=optNat_gam hok hk
  have hu:=(hT t i hi').und
  split at hs
  · rename_i e b o n sz c hd
    rw [hd] at hu
    split at hs
    case h_2=>cases hs
    rename_i ie hie
    split at hs
    case isFalse=>cases hs
    rename_i hc
    simp only [Bool.and_eq_true,Bool.or_eq_true,decide_eq_true_eq] at hc
    obtain ⟨⟨c1,c2⟩,c3⟩:=hc
    have c3':k.isSome = true→hn.isSome = true:=by
      intro hk1; rcases c3 with c3 | c3
      · exact c3
      · cases k <;> simp_all
    unfold gam slcV at hx
    split at hs
    · rename_i k cc
      split at hs
      case isFalse=>cases hs
      rename_i hc; simp only [Bool.and_eq_true,decide_eq_true_eq] at hc; obtain ⟨⟨d1,d2⟩,d3⟩:=hc
      injection hs with hs; subst hs
      cases hq:ρ.blk b with
      | none=>simp [hq] at hx
      | some q =>
        obtain ⟨g,o0,z,len⟩:=q
        simp only [hq] at hx
        split at hx
        case isFalse=>cases hx
        rename_i hb
        injection hx with hx; subst hx
        have hm:o + k * sz ≤ len:=by have:=Nat.mul_le_mul_right sz d3; omega
        refine OpOK.here h ?_ (cut_gam hq d1 d2 hm)
        have hrun:=run_bounds (P:=P) w true n cc bl bh bk c3' d3 d2 d1
        subst c1
        simp only [Instr.sliceAt,Instr.slice,Sem.run_bind,run_underlying hu,Result.andThen_ok,hrun,t_size hT hie,Sem.run_pure,Option.map_some,Option.getD_some]
        congr 3
        split <;> rfl
    · rename_i cc
      split at hs
      case isFalse=>cases hs
      rename_i hc; simp only [Bool.and_eq_true,decide_eq_true_eq] at hc; obtain ⟨d1,d2⟩:=hc
      injection hs with hs; subst hs
      cases hq:ρ.blk b with
      | none=>simp [hq] at hx
      | some q =>
        obtain ⟨g,o0,z,len⟩:=q
        simp only [hq] at hx
        split at hx
        case isFalse=>cases hx
        rename_i hb
        injection hx with hx; subst hx
        refine OpOK.here h ?_ (cut_gam hq d1 d2 hb.2)
        have hrun:=run_bounds (P:=P) w true n cc bl bh bk c3' (Nat.le_refl _) d2 d1
        subst c1
        simp only [Instr.sliceAt,Instr.slice,Sem.run_bind,run_underlying hu,Result.andThen_ok,hrun,t_size hT hie,Sem.run_pure,Option.map_some,Option.getD_none]
        congr 3
        split <;> rfl
    · rename_i k ci cj
      split at hs
      case h_2=>cases hs
      rename_i e' cs tg hcs
      split at hs
      case isFalse=>cases hs
      rename_i hc; simp only [Bool.and_eq_true,decide_eq_true_eq] at hc; obtain ⟨⟨d1,d2⟩,d3⟩:=hc
      injection hs with hs; subst hs
      cases hq:ρ.blk b with
      | none=>simp [hq] at hx
      | some q =>
        obtain ⟨g,o0,z,len⟩:=q
        cases hκ:ρ.cap ci with
        | none=>simp [hq,hκ] at hx
        | some κ =>
          simp only [hq,hκ] at hx
          split at hx
          case isFalse=>cases hx
          rename_i hb
          injection hx with hx; subst hx
          obtain ⟨b1,b3,b4⟩:=hb
          have hlen:=h.lenq hcs hq
          subst hlen
          have hkc:k ≤ κ - cj:=by
            have:k * sz ≤ (κ - cj) * sz:=by omega
            exact Nat.le_of_mul_le_mul_right this c2
          refine OpOK.here h ?_ (cut_gam hq d1 d2 d3)
          have hrun:=run_bounds (P:=P) w true n (κ - cj) bl bh bk c3' hkc d2 d1
          subst c1
          simp only [Instr.sliceAt,Instr.slice,Sem.run_bind,run_underlying hu,Result.andThen_ok,hrun,t_size hT hie,Sem.run_pure,Option.map_some,Option.getD_some]
          congr 3
          split <;> rfl
    · rename_i ci cj
      split at hs
      case h_2=>cases hs
      rename_i e' cs tg hcs
      split at hs
      case isFalse =>
        split at hs
        case isFalse=>cases hs
        rename_i hc; simp only [Bool.and_eq_true,decide_eq_true_eq] at hc; obtain ⟨d1,d2⟩:=hc
        injection hs with hs; subst hs
        cases hq:ρ.blk b with
        | none=>simp [hq] at hx
        | some q =>
          obtain ⟨g,o0,z,len⟩:=q
          cases hκ:ρ.cap ci with
          | none=>simp [hq,hκ] at hx
          | some κ =>
            simp only [hq,hκ] at hx
            split at hx
            case isFalse=>cases hx
            rename_i hb
            injection hx with hx; subst hx
            have hrun:=run_bounds (P:=P) w true n (κ - cj) bl bh bk c3' (Nat.le_refl _) (show hn.getD n ≤ κ - cj by omega) (by omega)
            subst c1
            refine OpOK.here h (x:=.slice (some (if κ - cj = n then (⟨g,o0 + o,none⟩:Addr) else (⟨g,o0 + o,none⟩:Addr).add (n * ie.size))) 0 (κ - cj - n)) ?_ ?_
            · simp only [Instr.sliceAt,Instr.slice,Sem.run_bind,run_underlying hu,Result.andThen_ok,hrun,t_size hT hie,Sem.run_pure,Option.map_some,Option.getD_none]
              rw [d1,d2,Nat.sub_self]
              congr 3
              split <;> rfl
            · unfold gam
              have hv:slcV ρ b o n ie.size (.lo ci cj) = some (.slice (some ⟨g,o0 + o,none⟩) n (κ - cj)):=by
                unfold slcV
                rw [hq]
                simp only [hκ]
                rw [if_pos hb]
              rw [hv]
      rename_i hc; simp only [Bool.and_eq_true,Bool.or_eq_true,decide_eq_true_eq] at hc; obtain ⟨⟨d1,d2⟩,d3⟩:=hc
      injection hs with hs; subst hs
      cases hq:ρ.blk b with
      | none=>simp [hq] at hx
      | some q =>
        obtain ⟨g,o0,z,len⟩:=q
        cases hκ:ρ.cap ci with
        | none=>simp [hq,hκ] at hx
        | some κ =>
          simp only [hq,hκ] at hx
          split at hx
          case isFalse=>cases hx
          rename_i hb
          injection hx with hx; subst hx
          obtain ⟨b1,b3,b4⟩:=hb
          have hlen:=h.lenq hcs hq
          subst hlen
          have hkc:hn.getD n ≤ κ - cj:=by
            have:hn.getD n * sz ≤ (κ - cj) * sz:=by omega
            exact Nat.le_of_mul_le_mul_right this c2
          have hrun:=run_bounds (P:=P) w true n (κ - cj) bl bh bk c3' (Nat.le_refl _) hkc d1
          subst c1
          have e1:(κ - cj - l.getD 0) * ie.size = (κ - cj) * ie.size - l.getD 0 * ie.size:=Nat.sub_mul _ _ _
          have e2:(hn.getD n - l.getD 0) * ie.size = hn.getD n * ie.size - l.getD 0 * ie.size:=Nat.sub_mul _ _ _
          have e3:l.getD 0 * ie.size ≤ (κ - cj) * ie.size:=Nat.mul_le_mul_right _ (by omega)
          have e4:l.getD 0 * ie.size ≤ hn.getD n * ie.size:=Nat.mul_le_mul_right _ d1
          have e5:κ - (cj + l.getD 0) = κ - cj - l.getD 0:=by omega
          refine OpOK.here h (x:=.slice (some ⟨g,o0 + o + l.getD 0 * ie.size,none⟩) (hn.getD n - l.getD 0) (κ - cj - l.getD 0)) ?_ ?_
          · simp only [Instr.sliceAt,Instr.slice,Sem.run_bind,run_underlying hu,Result.andThen_ok,hrun,t_size hT hie,Sem.run_pure,Option.map_some,Option.getD_none]
            congr 3
            split
            · rename_i e6
              rcases d3 with d3 | d3
              · rw [d3]; simp
              · exfalso
                rw [← e6] at d3
                omega
            · rw [add_none]
          · unfold gam slcV
            rw [hq]
            simp only [hκ]
            rw [e5]
            rw [if_pos (by omega),← Nat.add_assoc]
  · rename_i n e b o hd
    rw [hd] at hu
    split at hs
    case h_2=>cases hs
    rename_i ie e' cs tg hie hcs
    split at hs
    case isFalse=>cases hs
    rename_i hc
    simp only [Bool.and_eq_true,Bool.or_eq_true,decide_eq_true_eq] at hc
    obtain ⟨⟨⟨⟨d1,d2⟩,d3⟩,c3⟩,d4⟩:=hc
    injection hs with hs; subst hs
    obtain ⟨g,o0,z,len,hq,rfl⟩:=ptr_gam hx
    have hlen:=h.lenq hcs hq
    subst hlen
    have c3':k.isSome = true→hn.isSome = true:=by
      intro hk1; rcases c3 with c3 | c3
      · exact c3
      · cases k <;> simp_all
    have hm:o + k.getD n * ie.size ≤ cs.length:=by have:=Nat.mul_le_mul_right ie.size d3; omega
    refine OpOK.here h ?_ (cut_gam hq d1 d2 hm)
    have hrun:=run_bounds (P:=P) w false n n bl bh bk c3' d3 d2 d1
    simp only [Instr.sliceAt,Instr.sureAddr,Sem.run_bind,run_underlying hu,Result.andThen_ok,hrun,t_size hT hie,Sem.run_pure]
  · cases hs
end Go.Sym
end
section
namespace Go.Sym
open Go
variable {P:Program} {T:TypeId→Option TInf} {ρ:Env} {m m':M} {w:World}
theorem flds_get (hT:TOK P T) {t:TypeId} {i:TInf} (hi:T t = some i) {fs:Array Field} (hd:i.desc = .struct fs) {k:Nat} {q:Nat × Nat × TypeId} (hq:i.flds[k]? = some q) :
    ∃ f,fs[k]? = some f∧f.offset = q.1∧f.type = q.2.2∧∃ inf,P.info? f.type = some inf∧inf.size = q.2.1:=by
  obtain ⟨h1,h2⟩:=(hT t i hi).flds fs hd
  have hlen:fs.toList.length = i.flds.length:=by
    have:=congrArg List.length h2
    simpa using this
  have hk:k < fs.toList.length:=by rw [hlen]; exact (List.getElem?_eq_some_iff.1 hq).1
  refine ⟨fs.toList[k],by simp,?_⟩
  have hg:=mapM_some_get h1 k fs.toList[k] (by simp [hk])
  rw [List.getElem?_map,hq] at hg
  have h3:(fs.toList.map (·.type))[k]? = some q.2.2:=by rw [h2,List.getElem?_map,hq]; rfl
  rw [List.getElem?_map,List.getElem?_eq_getElem hk] at h3
  cases hinf:P.info? fs.toList[k].type with
  | none=>rw [hinf] at hg; cases hg
  | some inf =>
    rw [hinf] at hg
    simp only [Option.map_some,Option.some.injEq,Prod.mk.injEq] at hg h3
    exact ⟨hg.1,h3,inf,rfl,hg.2⟩
def fieldAddrA (T:TypeId→Option TInf) (s:TypeId) (x:AV) (f:Nat):Option AV :=
  match T s,x with
  | some i, .ptr b o=>match i.desc with
    | .struct _=>match i.flds[f]? with
      | some (off,size,_)=>if size = 0 then none else some (.ptr b (o + off))
      | none=>none
    | _=>none
  | _,_=>none
theorem fieldAddr_ok (hT:TOK P T) (h:MRel ρ m w) {s:TypeId} {x r:AV} {f:Nat} (hs:fieldAddrA T s x f = some r) {X:Value} (hx:gam ρ x = some X):OpOK P (Instr.fieldAt s X f) ρ m w r m:=by
  unfold fieldAddrA at hs
  split at hs
  case h_2=>cases hs
  rename_i i b o hi
  split at hs
  case h_2=>cases hs
  rename_i fs hd
  split at hs
  case h_2=>cases hs
  rename_i off size ty hq
  split at hs
  case isTrue=>cases hs
  rename_i hsz
  injection hs with hs; subst hs
  obtain ⟨g,o0,z,l,hb,rfl⟩:=ptr_gam hx
  obtain ⟨fl,h1,h2,h3,inf,h4,h5⟩:=flds_get hT hi hd hq
  have hu:=(hT s i hi).und
  rw [hd] at hu
  have hz:(sizeOf fl.type).run P w = .ok size w:=by simp [sizeOf,typeInfo,h4]; exact h5
  refine OpOK.here h (x:=.pointer (some ⟨g,o0 + (o + off),none⟩)) ?_ (by unfold gam; rw [hb])
  have h2':fl.offset = off:=h2
  simp [Instr.fieldAt,run_underlying hu,h1,Instr.sureAddr,fieldPlace,hz,hsz,add_none,h2',Nat.add_assoc]
def indexAddrA (T:TypeId→Option TInf) (t:TypeId) (x i:AV):Option AV :=
  match T t,x,natOf i with
  | some inf, .slc b o n sz _,some k=>match inf.desc with
    | .slice e=>match T e with
      | some ie=>if decide (ie.size = sz) && decide (k < n) then some (.ptr b (o + k * sz)) else none
      | none=>none
    | _=>none
  | some inf, .ptr b o,some k=>match inf.desc with
    | .array n e=>match T e with
      | some ie=>if k < n then some (.ptr b (o + k * ie.size)) else none
      | none=>none
    | _=>none
  | _,_,_=>none
theorem slc_gam {b o n sz:Nat} {c:Cap} {X:Value} (h:gam ρ (.slc b o n sz c) = some X):∃ g o0 z l κ,ρ.blk b = some (g,o0,z,l)∧X = .slice (some ⟨g,o0 + o,none⟩) n κ∧n ≤ κ∧True:=by
  unfold gam at h
  cases c with
  | ex c =>
    unfold slcV at h
    cases hq:ρ.blk b with
    | none=>simp [hq] at h
    | some q =>
      obtain ⟨g,o0,z,l⟩:=q
      simp only [hq] at h
      split at h
      · rename_i hc
        injection h with h
        exact ⟨g,o0,z,l,c,rfl,h.symm,hc.1,trivial⟩
      · cases h
  | lo i k =>
    unfold slcV at h
    cases hq:ρ.blk b with
    | none=>simp [hq] at h
    | some q =>
      obtain ⟨g,o0,z,l⟩:=q
      cases hκ:ρ.cap i with
      | none=>simp [hq,hκ] at h
      | some κ =>
        simp only [hq,hκ] at h
        split at h
        · rename_i hc
          injection h with h
          exact ⟨g,o0,z,l,κ - k,rfl,h.symm,by omega,trivial⟩
        · cases h
theorem indexAddr_ok (hT:TOK P T) (h:MRel ρ m w) {t:TypeId} {x i r:AV} (hs:indexAddrA T t x i = some r) {X I:Value} (hx:gam ρ x = some X) (hi:gam ρ i = some I):OpOK P (Instr.indexAt t X I) ρ m w r m:=by
  unfold indexAddrA at hs
  split at hs
  · rename_i inf b o n sz c k hinf hk
    split at hs
    case h_2=>cases hs
    rename_i e hd
    split at hs
    case h_2=>cases hs
    rename_i ie hie
    split at hs
    case isFalse=>cases hs
    rename_i hc
    simp only [Bool.and_eq_true,decide_eq_true_eq] at hc
    obtain ⟨c1,c2⟩:=hc
    injection hs with hs; subst hs
    obtain ⟨kk,rfl⟩:=natOf_gam hk hi
    obtain ⟨g,o0,z,l,κ,hq,rfl,_,_⟩:=slc_gam hx
    have hu:=(hT t inf hinf).und
    rw [hd] at hu
    refine OpOK.here h (x:=.pointer (some ⟨g,o0 + (o + k * sz),none⟩)) ?_ (by unfold gam; rw [hq])
    have hk2:(0:Int) ≤ k∧(k:Int) < n:=by omega
    subst c1
    simp only [Instr.indexAt,asIntOf,Sem.run_bind,Sem.run_pure,Result.andThen_ok,run_underlying hu]
    rw [if_pos hk2]
    simp [t_size hT hie,add_none,Nat.add_assoc]
  · rename_i inf b o k hinf hk
    split at hs
    case h_2=>cases hs
    rename_i n e hd
    split at hs
    case h_2=>cases hs
    rename_i ie hie
    split at hs
    case isFalse=>cases hs
    rename_i c2
    injection hs with hs; subst hs
    obtain ⟨kk,rfl⟩:=natOf_gam hk hi
    obtain ⟨g,o0,z,l,hq,rfl⟩:=ptr_gam hx
    have hu:=(hT t inf hinf).und
    rw [hd] at hu
    refine OpOK.here h (x:=.pointer (some ⟨g,o0 + (o + k * ie.size),none⟩)) ?_ (by unfold gam; rw [hq])
    have hk2:(0:Int) ≤ k∧(k:Int) < n:=by omega
    simp only [Instr.indexAt,asIntOf,Sem.run_bind,Sem.run_pure,Result.andThen_ok,run_underlying hu,Instr.sureAddr]
    rw [if_pos hk2]
    simp [t_size hT hie,add_none,Nat.add_assoc]
  · cases hs
def partA (T:TypeId→Option TInf) (t:TypeId) (cs:List AV) (off:Nat):Option AV :=
  match T t with
  | some i=>if i.agg then some (.agg ((cs.drop off).take i.size)) else cs[off]?
  | none=>none
theorem part_ok (hT:TOK P T) (h:MRel ρ m w) {t:TypeId} {cs:List AV} {off:Nat} {r:AV} (hs:partA T t cs off = some r) {xs:Array Value} (hx:gams ρ cs = some xs.toList):OpOK P (part t xs off) ρ m w r m:=by
  unfold partA at hs
  split at hs
  case h_2=>cases hs
  rename_i i hi
  split at hs
  · rename_i ha
    injection hs with hs; subst hs
    refine OpOK.here h (x:=.agg (xs.extract off (off + i.size))) ?_ ?_
    · simp [part,t_agg hT hi,ha,t_size hT hi]
    · unfold gam
      rw [gams_take i.size (gams_drop off hx)]
      show some (Value.agg _) = some (Value.agg _)
      congr 2
      apply Array.toList_inj.1
      simp
  · rename_i ha
    have ha':i.agg = false:=by simpa using ha
    obtain ⟨y,hy,hg⟩:=gams_get hx hs
    refine OpOK.here h (x:=y) ?_ hg
    have:xs[off]? = some y:=by simpa using hy
    simp [part,t_agg hT hi,ha',this]
def fieldA (T:TypeId→Option TInf) (t:TypeId) (x:AV) (f:Nat):Option AV :=
  match T t with
  | some i=>match i.desc with
    | .struct _=>match i.flds[f]?,x with
      | some (off,_,ty), .agg cs=>partA T ty cs off
      | some (off,_,ty), .lit (.agg cs)=>partA T ty (cs.toList.map .lit) off
      | _,_=>none
    | _=>none
  | none=>none
theorem field_ok (hT:TOK P T) (h:MRel ρ m w) {t:TypeId} {x r:AV} {f:Nat} (hs:fieldA T t x f = some r) {X:Value} (hx:gam ρ x = some X):OpOK P (Instr.field t X f) ρ m w r m:=by
  unfold fieldA at hs
  split at hs
  case h_2=>cases hs
  rename_i i hi
  split at hs
  case h_2=>cases hs
  rename_i fs hd
  have hu:=(hT t i hi).und
  rw [hd] at hu
  have main:∀ (off sz:Nat) (ty:TypeId) (cs:List AV) (xs:Array Value),i.flds[f]? = some (off,sz,ty)→X = .agg xs→gams ρ cs = some xs.toList→partA T ty cs off = some r→OpOK P (Instr.field t X f) ρ m w r m:=by
    rintro off sz ty cs xs hq rfl hc hp
    obtain ⟨fl,h1,h2,h3,inf,h4,h5⟩:=flds_get hT hi hd hq
    obtain ⟨ρ',w',v,k1,k2,k3⟩:=part_ok hT h hp hc
    refine ⟨ρ',w',v,?_,k2,k3⟩
    have h2':fl.offset = off:=h2
    have h3':fl.type = ty:=h3
    simp [Instr.field,run_underlying hu,h1,asAgg,h2',h3',k1]
  split at hs
  · rename_i off sz ty cs hq
    unfold gam at hx
    cases hc:gams ρ cs with
    | none=>simp [hc] at hx
    | some ys =>
      simp only [hc] at hx
      injection hx with hx
      exact main off sz ty cs ys.toArray hq hx.symm (by simpa using hc) hs
  · rename_i off sz ty cs hq
    simp only [gam] at hx
    injection hx with hx
    exact main off sz ty _ cs hq hx.symm (gams_lits _) hs
  · cases hs
def extractA (x:AV) (i:Nat):Option AV :=
  match x with
  | .tup l=>l[i]?
  | .lit (.tuple vs)=>(vs[i]?).map .lit
  | _=>none
theorem extract_ok (h:MRel ρ m w) {x r:AV} {i:Nat} (hs:extractA x i = some r) {X:Value} (hx:gam ρ x = some X):OpOK P (Instr.extract X i) ρ m w r m:=by
  unfold extractA at hs
  split at hs
  · rename_i l
    unfold gam at hx
    cases hc:gams ρ l with
    | none=>simp [hc] at hx
    | some ys =>
      simp only [hc] at hx
      injection hx with hx
      subst hx
      obtain ⟨y,hy,hg⟩:=gams_get hc hs
      refine OpOK.here h (x:=y) ?_ hg
      simp [Instr.extract,hy]
  · rename_i vs
    simp only [gam] at hx
    injection hx with hx
    subst hx
    cases hv:vs[i]? with
    | none=>simp [hv] at hs
    | some y =>
      simp only [hv,Option.map_some] at hs
      injection hs with hs; subst hs
      refine OpOK.here h (x:=y) ?_ rfl
      simp [Instr.extract,hv]
  · cases hs
theorem pure_ok (h:MRel ρ m w) {s:Sem Value} {x:Value} (hs:runPure P s = some x):OpOK P s ρ m w (.lit x) m:=OpOK.here h (runPure_run hs w) rfl
end Go.Sym
end
section
namespace Go.Sym
open Go
variable {P:Program} {T:TypeId→Option TInf} {ρ:Env} {m m':M} {w:World}
def Src (P:Program) (argTypes:Array TypeId) (i:TInf) (x:Value) (n:Nat) (new:List Value) (w:World):Prop :=
  new.length = n * i.size∧(∀ y ∈ new,y.oneCell' = true) ∧
  ((∃ xT d, argTypes[1]? = some xT ∧ P.underlying xT = some d ∧ ((∃ e', d = .slice e') ∨ d = .string) ∧ (∀ w0, (Builtin.lenOf x).run P w0 = .ok n w0) ∧ ∀ w', w'.heap = w.heap → (Builtin.firstCells i.size n x).run P w' = .ok new.toArray w') ∨
   (∃ xT k k',argTypes[1]? = some xT∧P.underlying xT = some (.int k)∧x = .int k' n∧new = rep n i.zero∧n ≤ 16777216∧n * i.bytes ≤ 281474976710656∧(0 < n * i.size∨n = 0)))
theorem zeroCells_rep (z:Array Value) (n:Nat):(Builtin.zeroCells z n).toList = rep n z.toList:=range_rep z n
theorem wrap_nat (n:Nat) (h:n ≤ 16777216):IntKind.i64.wrap (n:Int) = n:=by unfold IntKind.wrap; simp [IntKind.signed,IntKind.bits]; omega
theorem run_append_at (hT:TOK P T) {argTypes:Array TypeId} {t ty e:TypeId} (h0:argTypes[0]? = some t) (ht:P.underlying t = some (.slice e)) {i:TInf} (hie:T e = some i) {x:Value} {n:Nat} {new:List Value} (src:Src P argTypes i x n new w)
    (base:Option Addr) (sLen sCap:Nat) (hroom:sLen + n ≤ sCap) :
    (Builtin.append_ argTypes ty #[.slice base sLen sCap,x]).run P w = match base with
      | some a=>((storeCells (a.add (sLen * i.size)) new).run P w).andThen fun _ w' => .ok (.slice (some a) (sLen + n) sCap) w'
      | none => .ok (.slice none (sLen + n) sCap) w:=by
  obtain ⟨inf,z,k1,k2,k3,k4,k5,k6,k7⟩:=(hT e i hie).info
  obtain ⟨_,_,src⟩:=src
  rcases src with ⟨xT,d,a1,a2,a3,a4,a5⟩ | ⟨xT,k,k',a1,a2,rfl,a4,a5,a6,a7⟩
  · have a5':=a5 w rfl
    rcases a3 with ⟨e',rfl⟩ | rfl
    · cases base with
      | none=>simp [Builtin.append_,h0,a1,run_underlying ht,run_underlying a2,sizeOf,typeInfo,k1,k2,a4,hroom,a5']
      | some a=>simp [Builtin.append_,h0,a1,run_underlying ht,run_underlying a2,sizeOf,typeInfo,k1,k2,a4,hroom,a5']
    · cases base with
      | none=>simp [Builtin.append_,h0,a1,run_underlying ht,run_underlying a2,sizeOf,typeInfo,k1,k2,a4,hroom,a5']
      | some a=>simp [Builtin.append_,h0,a1,run_underlying ht,run_underlying a2,sizeOf,typeInfo,k1,k2,a4,hroom,a5']
  · have hz:=(show (zeroValue e).run P w = .ok z w by simp [zeroValue,typeInfo,k1,k4])
    rcases a7 with a7 | a7
    case inr =>
      subst a7
      have a4':new = []:=a4
      subst a4'
      cases base with
      | none=>simp [Builtin.append_,h0,a1,run_underlying ht,run_underlying a2,sizeOf,typeInfo,k1,k2,k3,show IntKind.i64.wrap 0 = 0 from rfl,asInt,asIntOf,show sLen ≤ sCap by omega]
      | some a=>simp [Builtin.append_,h0,a1,run_underlying ht,run_underlying a2,sizeOf,typeInfo,k1,k2,k3,show IntKind.i64.wrap 0 = 0 from rfl,asInt,asIntOf,show sLen ≤ sCap by omega]
    have hne:¬ (n * i.size = 0):=by omega
    have e1:¬ (281474976710656 < (n:Int) * i.bytes):=by
      have:((n * i.bytes:Nat):Int) ≤ 281474976710656:=by omega
      rw [Int.natCast_mul] at this; omega
    have e2:¬ ((n:Int) < 0):=by omega
    have hr:(Builtin.zeroCells z.cells n).toList = new:=by rw [zeroCells_rep,k5,a4]
    cases base with
    | none=>simp [Builtin.append_,h0,a1,run_underlying ht,run_underlying a2,sizeOf,typeInfo,k1,k2,k3,hroom,hz,wrap_nat n a5,asInt,asIntOf,e1,e2,hne]
    | some a=>simp [Builtin.append_,h0,a1,run_underlying ht,run_underlying a2,sizeOf,typeInfo,k1,k2,k3,hroom,hz,wrap_nat n a5,asInt,asIntOf,e1,e2,hne,hr]
theorem run_append_more (hT:TOK P T) {argTypes:Array TypeId} {t ty e:TypeId} (h0:argTypes[0]? = some t) (ht:P.underlying t = some (.slice e)) {i:TInf} (hie:T e = some i) {x:Value} {n:Nat} {new:List Value} (src:Src P argTypes i x n new w)
    (base:Option Addr) (sLen sCap:Nat) (hroom:sCap < sLen + n) (hs:(sLen + n) * i.bytes ≤ 140737488355328) (hs2:sLen + n ≤ 16777216) {old:List Value}
    (hold:(Builtin.firstCells i.size sLen (.slice base sLen sCap)).run P w.drew = .ok old.toArray w.drew) :
    ∃ rest κ,(Builtin.append_ argTypes ty #[.slice base sLen sCap,x]).run P w = .ok (.slice (some ⟨w.heap.size,0,none⟩) (sLen + n) κ) (w.drew.alloc (.cells ((old ++ new) ++ rest).toArray e))∧sLen + n ≤ κ∧rest.length = (κ - (sLen + n)) * i.size:=by
  obtain ⟨inf,z,k1,k2,k3,k4,k5,k6,k7⟩:=(hT e i hie).info
  obtain ⟨_,_,src⟩:=src
  have hn:¬ (sLen + n ≤ sCap):=by omega
  have h63':¬ (9223372036854775807 < ((sLen:Int) + (n:Int))):=by omega
  have h48':¬ (281474976710656 < Builtin.nextslicecap (sLen + n) sCap * i.bytes):=by have:=growslice_fits (old:=sCap) hroom hs; omega
  have hzs:z.cells.size = i.size:=by rw [← k6,← k5]; simp
  refine ⟨(Builtin.zeroCells z.cells (grownCap w (sLen + n) sCap e - (sLen + n))).toList,grownCap w (sLen + n) sCap e,?_,grownCap_ge _ _ _ _,by rw [Array.length_toList,size_zeroCells,hzs]⟩
  rcases src with ⟨xT,d,a1,a2,a3,a4,a5⟩ | ⟨xT,k,k',a1,a2,rfl,a4,a5,a6,a7⟩
  · have a5':=a5 w.drew rfl
    rcases a3 with ⟨e',rfl⟩ | rfl
    · simp [Builtin.append_,h0,a1,run_underlying ht,run_underlying a2,sizeOf,typeInfo,zeroValue,k1,k2,k3,k4,a4,hn,h63',h48',Question.forced,hold,a5',newRow,grownCap]
      congr 2; apply Array.ext'; simp [List.append_assoc]
    · simp [Builtin.append_,h0,a1,run_underlying ht,run_underlying a2,sizeOf,typeInfo,zeroValue,k1,k2,k3,k4,a4,hn,h63',h48',Question.forced,hold,a5',newRow,grownCap]
      congr 2; apply Array.ext'; simp [List.append_assoc]
  · rcases a7 with a7 | a7
    case inr =>
      subst a7
      have a4':new = []:=a4
      subst a4'
      simp [Builtin.append_,h0,a1,run_underlying ht,run_underlying a2,sizeOf,typeInfo,zeroValue,k1,k2,k3,k4,show ¬ sLen ≤ sCap by omega,show ¬ (9223372036854775807 < (sLen:Int)) by omega,show ¬ (281474976710656 < Builtin.nextslicecap sLen sCap * i.bytes) from h48',Question.forced,hold,newRow,grownCap,show IntKind.i64.wrap 0 = 0 from rfl,asInt,asIntOf]
      congr 2; apply Array.ext'; simp [List.append_assoc]
    have hne:¬ (n * i.size = 0):=by omega
    have e1:¬ (281474976710656 < (n:Int) * i.bytes):=by
      have:((n * i.bytes:Nat):Int) ≤ 281474976710656:=by omega
      rw [Int.natCast_mul] at this; omega
    have e2:¬ ((n:Int) < 0):=by omega
    have hr:(Builtin.zeroCells z.cells n) = new.toArray:=by rw [← Array.toList_inj,zeroCells_rep,k5,a4]
    simp [Builtin.append_,h0,a1,run_underlying ht,run_underlying a2,sizeOf,typeInfo,zeroValue,k1,k2,k3,k4,hn,h63',h48',Question.forced,hold,newRow,grownCap,wrap_nat n a5,asInt,asIntOf,e1,e2,hne,hr]
    congr 2; apply Array.ext'; simp [List.append_assoc]
def srcA (T:TypeId→Option TInf) (m:M) (xT:Option TypeId) (i:TInf) (x:AV):Option (Nat × List AV) :=
  match xT with
  | none=>none
  | some xT=>match T xT with
    | none=>none
    | some ix=>match ix.desc with
      | .int _=>match natOf x with
        | some n=>if decide (n ≤ 16777216) && decide (n * i.bytes ≤ 281474976710656) && (decide (0 < n * i.size) || decide (n = 0)) then some (n,rep n (i.zero.map .lit)) else none
        | none=>none
      | .slice _=>match x with
        | .slc b o n sz _=>match m.H.get b with
          | some (.cells _ cs _)=>if decide (sz = i.size) && decide (o + n * sz ≤ cs.length) then some (n,(cs.drop o).take (n * sz)) else none
          | _=>none
        | .lit (.slice none 0 _)=>some (0,[])
        | _=>none
      | .string=>match x with
        | .lit (.string s)=>if i.size = 1 then some (s.size,s.data.toList.map fun b => .lit (.int .u8 b.toNat)) else none
        | _=>none
      | _=>none
theorem loadCells_heap {a:Addr} {l:List Value} {w w':World} (hw:w'.heap = w.heap) (h:∀ j v,l[j]? = some v→w.cell? (a.add j) = some v):(loadCells a l.length).run P w' = .ok l.toArray w':=by
  refine run_loadCells_list (P:=P) w' a l (fun j v hv=>?_)
  rw [← h j v hv]
  unfold World.cell?
  rw [hw]
theorem src_ok (hT:TOK P T) (h:MRel ρ m w) {argTypes:Array TypeId} {e:TypeId} {i:TInf} (hie:T e = some i) {x:AV} {n:Nat} {new:List AV} (hs:srcA T m argTypes[1]? i x = some (n,new)) {X:Value} (hx:gam ρ x = some X) :
    ∃ ys,gams ρ new = some ys∧Src P argTypes i X n ys w:=by
  obtain ⟨inf,z,k1,k2,k3,k4,k5,k6,k7⟩:=(hT e i hie).info
  unfold srcA at hs
  split at hs
  · cases hs
  rename_i xT hxT
  split at hs
  · cases hs
  rename_i ix hix
  have hu:=(hT xT ix hix).und
  split at hs
  · rename_i k hd
    rw [hd] at hu
    split at hs
    case h_2=>cases hs
    rename_i n' hn
    split at hs
    case isFalse=>cases hs
    rename_i hc
    simp only [Bool.and_eq_true,Bool.or_eq_true,decide_eq_true_eq] at hc
    injection hs with hs; injection hs with e1 e2; subst e1; subst e2
    obtain ⟨k',rfl⟩:=natOf_gam hn hx
    refine ⟨rep n' i.zero,by rw [rep_map]; exact gams_lits _,by rw [rep_length,k6],fun y hy=>k7 y (rep_mem hy), .inr ⟨xT,k,k',hxT,hu,rfl,rfl,hc.1.1,hc.1.2,hc.2⟩⟩
  · rename_i e' hd
    rw [hd] at hu
    split at hs
    · rename_i b o n' sz c
      split at hs
      case h_2=>cases hs
      rename_i e1 cs tg hcs
      split at hs
      case isFalse=>cases hs
      rename_i hc
      simp only [Bool.and_eq_true,decide_eq_true_eq] at hc
      obtain ⟨c1,c2⟩:=hc
      injection hs with hs; injection hs with e1 e2; subst e1; subst e2
      obtain ⟨g,o0,z0,l,κ,hq,rfl,_,_⟩:=slc_gam hx
      obtain ⟨ys,y1,y2,y3,y4,y5⟩:=load_cells (P:=P) h hcs hq o (n' * sz) c2
      refine ⟨ys,y1,by rw [y2,c1],y3, .inl ⟨xT,_,hxT,hu, .inl ⟨_,rfl⟩,fun w0=>by simp [Builtin.lenOf],fun w' hw'=>?_⟩⟩
      simp only [Builtin.firstCells]
      rw [← c1,← y2]
      exact loadCells_heap hw' y4
    · injection hs with hs; injection hs with e1 e2; subst e1; subst e2
      simp only [gam] at hx; injection hx with hx; subst hx
      exact ⟨[],rfl,by simp,(fun y hy=>by cases hy), .inl ⟨xT,_,hxT,hu, .inl ⟨_,rfl⟩,fun w0=>by simp [Builtin.lenOf],fun w' hw'=>by simp [Builtin.firstCells]⟩⟩
    · cases hs
  · rename_i hd
    rw [hd] at hu
    split at hs
    case h_2=>cases hs
    rename_i s
    split at hs
    case isFalse=>cases hs
    rename_i hc
    injection hs with hs; injection hs with e1 e2; subst e1; subst e2
    simp only [gam] at hx; injection hx with hx; subst hx
    refine ⟨s.data.toList.map fun b => .int .u8 b.toNat,?_,?_,?_, .inl ⟨xT,_,hxT,hu, .inr rfl,fun w0=>by simp [Builtin.lenOf],fun w' hw'=>?_⟩⟩
    · rw [show (s.data.toList.map fun b=>AV.lit (.int .u8 b.toNat)) = (s.data.toList.map fun b=>Value.int .u8 b.toNat).map AV.lit by rw [List.map_map]; rfl]
      exact gams_lits _
    · rw [hc,Nat.mul_one,List.length_map]; rfl
    · intro y hy
      obtain ⟨b,_,rfl⟩:=List.mem_map.1 hy
      rfl
    · have hse:s.extract 0 s.size = s:=ByteArray.extract_zero_size
      show Result.ok ((s.extract 0 s.size).data.map fun b=>Value.int .u8 b.toNat) w' = _
      rw [hse]
      congr 1
      apply Array.toList_inj.1
      rw [Array.toList_map]
  · cases hs
theorem StepR.drew1 (h:MRel ρ m w):StepR ρ m w ρ m w.drew:=(StepR.refl h).drewN 1
theorem add_slc_lo (ρ:Env) (m:M) (g o0 z l n sz κ nb nc:Nat) (hb:nb = m.nb) (hc:nc = m.nc) (h1:n ≤ κ) (h3:l ≤ κ * sz) (h4:o0 + κ * sz ≤ z) :
    gam (ρ.add m (g,o0,z,l) (some κ)) (.slc nb 0 n sz (.lo nc 0)) = some (.slice (some ⟨g,o0,none⟩) n κ):=by
  subst hb; subst hc
  have e1:=Env.add_new ρ m (g,o0,z,l) (some κ)
  have e2:=Env.add_cap ρ m (g,o0,z,l) κ
  unfold gam slcV
  simp only [e1,e2,Nat.add_zero,Nat.zero_add,Nat.sub_zero]
  rw [if_pos ⟨h1,h3,h4⟩]
def growA (m0:M) (e:TypeId) (cells:List AV) (n sz nc:Nat):Option (AV × M) :=
  match newB m0 (.cells e cells false) with
  | some m1=>some (.slc m0.nb 0 n sz (.lo nc 0),{ m1 with nc:=nc + 1 })
  | none=>none
def appendA (T:TypeId→Option TInf) (m:M) (argTypes:Array TypeId) (s x:AV):Option (AV × M) :=
  match argTypes[0]? with
  | none=>none
  | some t=>match T t with
    | none=>none
    | some it=>match it.desc with
      | .slice e=>match T e with
        | none=>none
        | some i=>match srcA T m argTypes[1]? i x with
          | none=>none
          | some (n,new) =>
            match s with
            | .slc b o len sz c=>match m.H.get b with
              | some (.cells e' cs tg) =>
                if decide (sz = i.size) && decide (0 < sz) && decide ((len + n) * i.bytes ≤ 140737488355328) && decide (len + n ≤ 16777216) && decide (e' = e) && decide (o + len * sz ≤ cs.length) then
                  if n = 0 then some (s,m) else
                  match c with
                  | .ex cc=>if len + n ≤ cc then some (.slc b o (len + n) sz c,putB m b (some (.cells e' (wr cs (o + len * sz) new) tg)))
                    else growA m e ((cs.drop o).take (len * sz) ++ new) (len + n) sz m.nc
                  | .lo _ _=>if o + (len + n) * sz ≤ cs.length then some (.slc b o (len + n) sz c,putB m b (some (.cells e' (wr cs (o + len * sz) new) tg)))
                    else growA (putB m b none) e ((cs.drop o).take (len * sz) ++ new) (len + n) sz m.nc
                else none
              | _=>none
            | .lit (.slice none 0 0) =>
              if decide (0 < i.size) && decide (n * i.bytes ≤ 140737488355328) && decide (n ≤ 16777216) then
                if n = 0 then some (s,m) else growA m e new n i.size m.nc
              else none
            | _=>none
      | _=>none
theorem grow_ok {m0:M} {r:AV} (h:MRel ρ m0 w) {e:TypeId} {cells:List AV} {n sz nc:Nat} (hnc:m0.nc = nc) (hg:growA m0 e cells n sz nc = some (r,m')) {ys:List Value} (hy:gams ρ cells = some ys) (h1:∀ y ∈ ys,y.oneCell' = true) (hl:ys.length = n * sz)
    {rest:List Value} {κ:Nat} (hκ:n ≤ κ) (hr:rest.length = (κ - n) * sz) :
    ∃ ρ',gam ρ' r = some (.slice (some ⟨w.heap.size,0,none⟩) n κ)∧StepR ρ m0 w ρ' m' (w.drew.alloc (.cells (ys ++ rest).toArray e)):=by
  unfold growA at hg
  split at hg
  case h_2=>cases hg
  rename_i m1 hm
  injection hg with hg; injection hg with e1 e2; subst e1; subst e2
  have hd:=StepR.drew1 h
  have hs:=new_row hd.rel e hy h1 hm rest (some κ) (fun h=>by cases h)
  have hlen:=gams_length hy
  subst hnc
  refine ⟨_,?_,hd.trans hs⟩
  have e3:(κ - n) * sz = κ * sz - n * sz:=Nat.sub_mul _ _ _
  have e4:n * sz ≤ κ * sz:=Nat.mul_le_mul_right _ hκ
  exact add_slc_lo ρ m0 _ _ _ _ n sz κ _ _ rfl rfl hκ (by omega) (by omega)
theorem append_ok (hT:TOK P T) (h:MRel ρ m w) {argTypes:Array TypeId} {ty:TypeId} {s x r:AV} (ha:appendA T m argTypes s x = some (r,m')) {S X:Value} (hS:gam ρ s = some S) (hX:gam ρ x = some X) :
    OpOK P (Builtin.append_ argTypes ty #[S,X]) ρ m w r m':=by
  unfold appendA at ha
  split at ha
  · cases ha
  rename_i t h0
  split at ha
  · cases ha
  rename_i it hit
  split at ha
  case h_2=>cases ha
  rename_i e hd
  split at ha
  · cases ha
  rename_i i hie
  split at ha
  · cases ha
  rename_i n new hsrc
  have ht:=(hT t it hit).und
  rw [hd] at ht
  obtain ⟨ys,hy,src⟩:=src_ok (P:=P) hT h hie hsrc hX
  have hylen:ys.length = n * i.size:=src.1
  have hone:=src.2.1
  split at ha
  · rename_i b o len sz c
    split at ha
    case h_2=>cases ha
    rename_i e' cs tg hcs
    split at ha
    case isFalse=>cases ha
    rename_i hc
    simp only [Bool.and_eq_true,decide_eq_true_eq] at hc
    obtain ⟨⟨⟨⟨⟨c1,c2⟩,c3⟩,c4⟩,c5⟩,hcov⟩:=hc
    subst c1; subst c5
    have hS':=hS
    obtain ⟨g,o0,z,l,κ,hq,rfl,hκ,_⟩:=slc_gam hS
    have hlen:=h.lenq hcs hq
    subst hlen
    split at ha
    · rename_i hn
      injection ha with ha; injection ha with e1 e2; subst e1; subst e2
      subst hn
      have hys:ys = []:=List.eq_nil_of_length_eq_zero (by rw [hylen]; simp)
      subst hys
      refine OpOK.here h ?_ hS'
      rw [run_append_at hT h0 ht hie src (some _) len κ (by omega)]
      simp [storeCells]
    rename_i hn
    obtain ⟨olds,o1,o2,o3,o4,o5⟩:=load_cells (P:=P) h hcs hq o (len * i.size) hcov
    have hadd:o + len * i.size + n * i.size = o + (len + n) * i.size:=by rw [Nat.add_mul]; omega
    have hnew:=gams_length hy
    have inPlace:len + n ≤ κ→o + (len + n) * i.size ≤ cs.length→∀ v,gam ρ v = some (.slice (some ⟨g,o0 + o,none⟩) (len + n) κ)→OpOK P (Builtin.append_ argTypes ty #[.slice (some ⟨g,o0 + o,none⟩) len κ,X]) ρ m w v (putB m b (some (.cells e' (wr cs (o + len * i.size) new) tg))):=by
      intro i1 i2 v hv
      obtain ⟨w',s1,s2⟩:=store_cells (P:=P) h hcs hq (o + len * i.size) hy hone (by omega)
      refine ⟨ρ,w',_,?_,hv,s2⟩
      rw [run_append_at hT h0 ht hie src (some _) len κ i1]
      simp only [add_none]
      rw [Nat.add_assoc,s1]
      rfl
    have hold:(Builtin.firstCells i.size len (.slice (some ⟨g,o0 + o,none⟩) len κ)).run P w.drew = .ok olds.toArray w.drew:=by
      simp only [Builtin.firstCells]
      rw [← o2]
      exact loadCells_heap rfl o4
    have hcat:gams ρ ((cs.drop o).take (len * i.size) ++ new) = some (olds ++ ys):=gams_append o1 hy
    have hcat1:∀ y ∈ olds ++ ys,y.oneCell' = true:=by
      intro y hy'
      rcases List.mem_append.1 hy' with hy' | hy'
      · exact o3 y hy'
      · exact hone y hy'
    have hcatl:(olds ++ ys).length = (len + n) * i.size:=by rw [List.length_append,o2,hylen,Nat.add_mul]
    split at ha
    · rename_i cc
      have hκc:κ = cc∧o + cc * i.size ≤ cs.length:=by
        unfold gam slcV at hS'
        rw [hq] at hS'
        simp only at hS'
        split at hS'
        · rename_i hb
          injection hS' with hS'
          injection hS' with _ _ e3
          exact ⟨e3.symm,hb.2⟩
        · cases hS'
      obtain ⟨rfl,hcc⟩:=hκc
      split at ha
      · rename_i hin
        injection ha with ha; injection ha with e1 e2; subst e1; subst e2
        have hm:o + (len + n) * i.size ≤ cs.length:=by have:=Nat.mul_le_mul_right i.size hin; omega
        refine inPlace hin hm _ ?_
        unfold gam slcV
        rw [hq]
        simp only
        rw [if_pos ⟨hin,hcc⟩]
      · rename_i hin
        obtain ⟨rest,κ',r1,r2,r3⟩:=run_append_more (ty:=ty) hT h0 ht hie src (some ⟨g,o0 + o,none⟩) len κ (by omega) c3 c4 hold
        obtain ⟨ρ',g1,g2⟩:=grow_ok h rfl ha hcat hcat1 hcatl r2 r3
        exact ⟨ρ',_,_,r1,g1,g2⟩
    · rename_i ci cj
      cases hκ0:ρ.cap ci with
      | none=>unfold gam slcV at hS'; simp [hq,hκ0] at hS'
      | some κ0 =>
        have hb:κ = κ0 - cj∧len + cj ≤ κ0∧cs.length ≤ o + (κ0 - cj) * i.size∧o0 + o + (κ0 - cj) * i.size ≤ z:=by
          unfold gam slcV at hS'
          rw [hq] at hS'
          simp only [hκ0] at hS'
          split at hS'
          · rename_i hb
            injection hS' with hS'
            injection hS' with _ _ e3
            exact ⟨e3.symm,hb⟩
          · cases hS'
        obtain ⟨rfl,b1,b3,b4⟩:=hb
        split at ha
        · rename_i hin
          injection ha with ha; injection ha with e1 e2; subst e1; subst e2
          have hin2:len + n ≤ κ0 - cj:=by
            have:(len + n) * i.size ≤ (κ0 - cj) * i.size:=by omega
            exact Nat.le_of_mul_le_mul_right this c2
          refine inPlace hin2 hin _ ?_
          unfold gam slcV
          rw [hq]
          simp only [hκ0]
          rw [if_pos ⟨by omega,b3,b4⟩]
        · rename_i hin
          by_cases hroom:len + n ≤ κ0 - cj
          · have ha':=ha
            unfold growA at ha
            split at ha
            case h_2=>cases ha
            rename_i m1 hm
            injection ha with ha; injection ha with e1 e2; subst e1; subst e2
            obtain ⟨g',o',z',arr,xs,k1,k2,k3,k4,k5,k6,k7,k8⟩:=row_of h hcs
            rw [hq] at k1; injection k1 with k1; injection k1 with e1 k1; injection k1 with e2 k1; injection k1 with e3 e4
            subst e1; subst e2; subst e3
            have hmul:(len + n) * i.size ≤ (κ0 - cj) * i.size:=Nat.mul_le_mul_right _ hroom
            have hst:=run_storeCells_at P g (o0 + o + len * i.size) e' ys 0 arr w k2 (by omega) hone
            refine ⟨_,w.setRow g (arr.toList.take (o0 + o + len * i.size) ++ ys ++ arr.toList.drop (o0 + o + len * i.size + ys.length)).toArray, .slice (some ⟨g,o0 + o,none⟩) (len + n) (κ0 - cj),?_,?_,StepR.renew h hcs hq (g,o0 + o,z,(len + n) * i.size) (some (κ0 - cj)) hm rfl ?_ (fun k hk=>setRow_other w g k _ hk) (by simp) rfl rfl rfl⟩
            · rw [run_append_at hT h0 ht hie src (some _) len (κ0 - cj) hroom]
              simp only [add_none]
              simp only [Nat.add_zero] at hst
              rw [hst]
              rfl
            · exact add_slc_lo ρ m _ _ _ _ _ _ _ _ _ rfl rfl hroom hmul b4
            · have hal:((cs.drop o).take (len * i.size) ++ new).length = (len + n) * i.size:=by rw [← hcatl,gams_length hcat]
              refine ⟨g,o0 + o,z,_,olds ++ ys,?_,setRow_heap w g arr _ e' (0,0) k2,?_,by rw [hal]; omega,gams_mono (h.le_add _ _) _ hcat,hcat1,?_,(fun h=>by cases h)⟩
              · rw [hal]; exact Env.add_new _ _ _ _
              · simp only [List.size_toArray,List.length_append,List.length_take,List.length_drop,Array.length_toList]
                omega
              · intro j hj
                rw [hal] at hj
                simp only [List.getElem?_toArray]
                have T1:(arr.toList.take (o0 + o + len * i.size)).length = o0 + o + len * i.size:=by rw [List.length_take,Array.length_toList]; omega
                rw [List.append_assoc]
                by_cases cj1:j < len * i.size
                · rw [List.getElem?_append_left (by omega),List.getElem?_append_left (by omega),List.getElem?_take,if_pos (by omega)]
                  have q1:=o4 j olds[j] (by simp [o2,cj1])
                  rw [add_none,cell_of_row w g _ _ _ _ k2] at q1
                  rw [List.getElem?_eq_getElem (by omega:j < olds.length),← q1]
                  simp
                · have L:∀ D:List Value,(arr.toList.take (o0 + o + len * i.size) ++ (ys ++ D))[o0 + o + j]? = (ys ++ D)[j - len * i.size]?:=fun D=>by
                    rw [List.getElem?_append_right (by omega),T1,show o0 + o + j - (o0 + o + len * i.size) = j - len * i.size by omega]
                  have R:(olds ++ ys)[j]? = ys[j - len * i.size]?:=by
                    rw [List.getElem?_append_right (by omega),o2]
                  rw [L,R,List.getElem?_append_left (by omega)]
          · obtain ⟨rest,κ',r1,r2,r3⟩:=run_append_more (ty:=ty) hT h0 ht hie src (some ⟨g,o0 + o,none⟩) len (κ0 - cj) (by omega) c3 c4 hold
            have hkill:=StepR.kill (w':=w) h hcs hq (fun _ _=>rfl) rfl rfl rfl rfl
            obtain ⟨ρ',g1,g2⟩:=grow_ok hkill.rel rfl ha hcat hcat1 hcatl r2 r3
            exact ⟨ρ',_,_,r1,g1,hkill.trans g2⟩
  · split at ha
    case isFalse=>cases ha
    rename_i hc
    simp only [Bool.and_eq_true,decide_eq_true_eq] at hc
    obtain ⟨⟨c1,c2⟩,c3⟩:=hc
    simp only [gam] at hS; injection hS with hS; subst hS
    split at ha
    · rename_i hn
      injection ha with ha; injection ha with e1 e2; subst e1; subst e2
      subst hn
      refine OpOK.here h ?_ rfl
      rw [run_append_at hT h0 ht hie src none 0 0 (by omega)]
    · rename_i hn
      have hold:(Builtin.firstCells i.size 0 (.slice none 0 0)).run P w.drew = .ok ([]:List Value).toArray w.drew:=by simp [Builtin.firstCells]
      obtain ⟨rest,κ',r1,r2,r3⟩:=run_append_more (ty:=ty) hT h0 ht hie src none 0 0 (by omega) (by simpa using c2) (by omega) hold
      rw [Nat.zero_add] at r1 r2 r3
      rw [List.nil_append] at r1
      obtain ⟨ρ',g1,g2⟩:=grow_ok h rfl ha hy hone hylen r2 r3
      exact ⟨ρ',_,_,r1,g1,g2⟩
  · cases ha
end Go.Sym
end
section
namespace Go.Sym
open Go
variable {P:Program} {T:TypeId→Option TInf} {ρ:Env} {m m':M} {w:World}
theorem cut_form {b o n sz:Nat} {c:Cap} {x:Value} (h:gam ρ (.cut b o n sz c) = some x):∃ a k,x = .slice (some a) 0 k:=by
  unfold gam at h
  split at h
  · injection h with h
    exact ⟨_,_,h.symm⟩
  · cases h
def lenA:AV→Option Nat
  | .slc _ _ n _ _=>some n
  | .cut _ _ _ _ _=>some 0
  | .lit (.slice none n _)=>some n
  | .lit (.string s)=>some s.size
  | _=>none
theorem lenA_gam {v:AV} {n:Nat} (h:lenA v = some n) {x:Value} (hx:gam ρ v = some x) (w:World):(Builtin.lenOf x).run P w = .ok n w:=by
  unfold lenA at h
  split at h
  · injection h with h; subst h
    obtain ⟨g,o0,z,l,κ,_,rfl,_,_⟩:=slc_gam hx
    simp [Builtin.lenOf]
  · injection h with h; subst h
    obtain ⟨a,c,rfl⟩:=cut_form hx
    simp [Builtin.lenOf]
  · injection h with h; subst h
    simp only [gam] at hx; injection hx with hx; subst hx
    simp [Builtin.lenOf]
  · injection h with h; subst h
    simp only [gam] at hx; injection hx with hx; subst hx
    simp [Builtin.lenOf]
  · cases h
def headA (m:M) (size n:Nat):AV→Option (List AV)
  | .slc b o _ _ _=>match m.H.get b with
    | some (.cells _ cs _)=>if o + n * size ≤ cs.length then some ((cs.drop o).take (n * size)) else none
    | _=>none
  | .lit (.slice none _ _)=>some []
  | .lit (.string s)=>some ((s.data.toList.take n).map fun b => .lit (.int .u8 b.toNat))
  | _=>none
theorem headA_ok (h:MRel ρ m w) {size n:Nat} {v:AV} {l:List AV} (hs:headA m size n v = some l) {x:Value} (hx:gam ρ v = some x):∃ ys,gams ρ l = some ys∧(∀ y ∈ ys,y.oneCell' = true)∧(Builtin.firstCells size n x).run P w = .ok ys.toArray w:=by
  unfold headA at hs
  split at hs
  · rename_i b o k sz c
    split at hs
    case h_2=>cases hs
    rename_i e cs tg hcs
    split at hs
    case isFalse=>cases hs
    rename_i hc
    injection hs with hs; subst hs
    obtain ⟨g,o0,z,len,κ,hq,rfl,_,_⟩:=slc_gam hx
    obtain ⟨ys,y1,y2,y3,y4,y5⟩:=load_cells (P:=P) h hcs hq o (n * size) hc
    exact ⟨ys,y1,y3,y5⟩
  · injection hs with hs; subst hs
    simp only [gam] at hx; injection hx with hx; subst hx
    exact ⟨[],rfl,(fun y hy=>by cases hy),by simp [Builtin.firstCells]⟩
  · rename_i s
    injection hs with hs; subst hs
    simp only [gam] at hx; injection hx with hx; subst hx
    refine ⟨(s.data.toList.take n).map fun b => .int .u8 b.toNat,?_,?_,?_⟩
    · rw [show ((s.data.toList.take n).map fun b=>AV.lit (.int .u8 b.toNat)) = ((s.data.toList.take n).map fun b=>Value.int .u8 b.toNat).map AV.lit by rw [List.map_map]; rfl]
      exact gams_lits _
    · intro y hy
      obtain ⟨b,_,rfl⟩:=List.mem_map.1 hy
      rfl
    · show Result.ok ((s.extract 0 n).data.map fun b=>Value.int .u8 b.toNat) w = _
      congr 1
      apply Array.toList_inj.1
      simp [ByteArray.data_extract]
  · cases hs
def copyA (T:TypeId→Option TInf) (m:M) (argTypes:Array TypeId) (d x:AV):Option (AV × M) :=
  match argTypes[0]? with
  | none=>none
  | some t=>match T t with
    | none=>none
    | some it=>match it.desc with
      | .slice e=>match T e,d,lenA x with
        | some i, .slc b o n _ _,some k=>match headA m i.size (Nat.min k n) x,m.H.get b with
          | some new,some (.cells e' cs tg)=>if o + new.length ≤ cs.length then some (.lit (goInt (Nat.min k n)),putB m b (some (.cells e' (wr cs o new) tg))) else none
          | _,_=>none
        | some _, .lit (.slice none 0 0),some _=>some (.lit (goInt 0),m)
        | _,_,_=>none
      | _=>none
theorem copy_ok (hT:TOK P T) (h:MRel ρ m w) {argTypes:Array TypeId} {ty:TypeId} {d x r:AV} (ha:copyA T m argTypes d x = some (r,m')) {D X:Value} (hD:gam ρ d = some D) (hX:gam ρ x = some X) :
    OpOK P (Builtin.copy_ argTypes ty #[D,X]) ρ m w r m':=by
  unfold copyA at ha
  split at ha
  · cases ha
  rename_i t h0
  split at ha
  · cases ha
  rename_i it hit
  split at ha
  case h_2=>cases ha
  rename_i e hd
  have ht:=(hT t it hit).und
  rw [hd] at ht
  split at ha
  · rename_i i b o n sz c k hie hk
    split at ha
    case h_2=>cases ha
    rename_i new e' cs tg hnew hcs
    split at ha
    case isFalse=>cases ha
    rename_i hc
    injection ha with ha; injection ha with e1 e2; subst e1; subst e2
    obtain ⟨g,o0,z,l,κ,hq,rfl,_,_⟩:=slc_gam hD
    obtain ⟨ys,y1,y2,y3⟩:=headA_ok (P:=P) h hnew hX
    obtain ⟨w',s1,s2⟩:=store_cells (P:=P) h hcs hq o y1 y2 hc
    refine ⟨ρ,w',goInt (Nat.min k n),?_,rfl,s2⟩
    simp [Builtin.copy_,h0,run_underlying ht,lenA_gam hk hX,t_size hT hie,y3,s1]
  · rename_i i k hie hk
    injection ha with ha; injection ha with e1 e2; subst e1; subst e2
    simp only [gam] at hD; injection hD with hD; subst hD
    refine OpOK.here h (x:=goInt 0) ?_ rfl
    have hz:∀ n:Nat,Nat.min n 0 = 0:=fun n=>Nat.min_zero n
    have hf:(Builtin.firstCells i.size 0 X).run P w = .ok #[] w:=by
      unfold lenA at hk
      split at hk
      · obtain ⟨g,o0,z,l,κ,_,rfl,_,_⟩:=slc_gam hX
        simp [Builtin.firstCells,loadCells,loadCellsFrom]
      · obtain ⟨a,q,rfl⟩:=cut_form hX
        simp [Builtin.firstCells,loadCells,loadCellsFrom]
      · simp only [gam] at hX; injection hX with hX; subst hX
        simp [Builtin.firstCells]
      · simp only [gam] at hX; injection hX with hX; subst hX
        simp [Builtin.firstCells]
      · cases hk
    simp [Builtin.copy_,h0,run_underlying ht,lenA_gam hk hX,t_size hT hie,hz,hf]
  · cases ha
def clearA (T:TypeId→Option TInf) (m:M) (argTypes:Array TypeId) (d:AV):Option M :=
  match argTypes[0]? with
  | none=>none
  | some t=>match T t with
    | none=>none
    | some it=>match it.desc,d with
      | .slice e, .slc b o n _ _=>match T e,m.H.get b with
        | some i,some (.cells e' cs tg)=>if n = 0 then some m else if o + n * i.size ≤ cs.length then some (putB m b (some (.cells e' (wr cs o (rep n (i.zero.map .lit))) tg))) else none
        | _,_=>none
      | .slice _, .lit (.slice none _ _)=>some m
      | _,_=>none
theorem clear_ok (hT:TOK P T) (h:MRel ρ m w) {argTypes:Array TypeId} {ty:TypeId} {d:AV} (ha:clearA T m argTypes d = some m') {D:Value} (hD:gam ρ d = some D) :
    OpOK P (Builtin.clear_ argTypes ty #[D]) ρ m w (.lit (.tuple #[])) m':=by
  unfold clearA at ha
  split at ha
  · cases ha
  rename_i t h0
  split at ha
  · cases ha
  rename_i it hit
  split at ha
  · rename_i e b o n sz c hd
    have ht:=(hT t it hit).und
    rw [hd] at ht
    split at ha
    case h_2=>cases ha
    rename_i i e' cs tg hie hcs
    obtain ⟨g,o0,z,l,κ,hq,rfl,_,_⟩:=slc_gam hD
    split at ha
    · rename_i hn
      injection ha with ha; subst ha
      subst hn
      refine OpOK.here h (x:=.tuple #[]) ?_ rfl
      simp [Builtin.clear_,h0,run_underlying ht]
    · rename_i hn
      split at ha
      case isFalse=>cases ha
      rename_i hc
      injection ha with ha; subst ha
      obtain ⟨inf,zz,k1,k2,k3,k4,k5,k6,k7⟩:=(hT e i hie).info
      have hg:gams ρ (rep n (i.zero.map .lit)) = some (rep n i.zero):=by rw [rep_map]; exact gams_lits _
      obtain ⟨w',s1,s2⟩:=store_cells (P:=P) h hcs hq o hg (fun y hy=>k7 y (rep_mem hy)) (by rw [rep_length,List.length_map,k6]; exact hc)
      refine ⟨ρ,w', .tuple #[],?_,rfl,s2⟩
      obtain ⟨n',rfl⟩:∃ n',n = n' + 1:=⟨n - 1,by omega⟩
      have hz:=(show (zeroValue e).run P w = .ok zz w by simp [zeroValue,typeInfo,k1,k4])
      simp [Builtin.clear_,h0,run_underlying ht,hz,zeroCells_rep,k5,s1]
  · rename_i e n c hd
    have ht:=(hT t it hit).und
    rw [hd] at ht
    injection ha with ha; subst ha
    simp only [gam] at hD; injection hD with hD; subst hD
    refine OpOK.here h (x:=.tuple #[]) ?_ rfl
    simp [Builtin.clear_,h0,run_underlying ht]
  · cases ha
def lenOpA (T:TypeId→Option TInf) (m:M) (argTypes:Array TypeId) (x:AV):Option AV :=
  match argTypes[0]? with
  | none=>none
  | some t=>match T t with
    | none=>none
    | some it=>match it.desc,x with
      | .slice _, .slc _ _ n _ _=>some (.lit (goInt n))
      | .slice _, .cut _ _ _ _ _=>some (.lit (goInt 0))
      | .map _ _, .mp b=>match m.H.get b with
        | some (.map es)=>some (.lit (goInt es.length))
        | _=>none
      | _,_=>none
theorem lenOp_ok (hT:TOK P T) (h:MRel ρ m w) {argTypes:Array TypeId} {ty:TypeId} {x r:AV} (ha:lenOpA T m argTypes x = some r) {X:Value} (hX:gam ρ x = some X) :
    OpOK P (Builtin.len_ argTypes ty #[X]) ρ m w r m:=by
  unfold lenOpA at ha
  split at ha
  · cases ha
  rename_i t h0
  split at ha
  · cases ha
  rename_i it hit
  split at ha
  · rename_i e b o n sz c hd
    have ht:=(hT t it hit).und
    rw [hd] at ht
    injection ha with ha; subst ha
    obtain ⟨g,o0,z,l,κ,hq,rfl,_,_⟩:=slc_gam hX
    refine OpOK.here h (x:=goInt n) ?_ rfl
    simp [Builtin.len_,h0,run_underlying ht]
  · rename_i e b o n sz c hd
    have ht:=(hT t it hit).und
    rw [hd] at ht
    injection ha with ha; subst ha
    obtain ⟨a,k,rfl⟩:=cut_form hX
    refine OpOK.here h (x:=goInt 0) ?_ rfl
    simp [Builtin.len_,h0,run_underlying ht,goInt]
  · rename_i k e b hd
    have ht:=(hT t it hit).und
    rw [hd] at ht
    split at ha
    case h_2=>cases ha
    rename_i es hes
    injection ha with ha; subst ha
    obtain ⟨g,entries,clock,vs,h1,h2,h3,h4,h5⟩:=h.live b _ hes
    unfold gam at hX
    rw [h1] at hX
    simp only at hX
    injection hX with hX; subst hX
    have hl:=h4.length_eq
    have hv:=gams_length h3
    simp only [List.length_map,Array.length_toList,List.length_zip] at hl hv
    refine OpOK.here h (x:=goInt es.length) ?_ rfl
    have:entries.size = es.length:=by omega
    have hg:(getObj g).run P w = .ok (.map entries clock) w:=by simp [getObj,Sem.run,h2]
    simp [Builtin.len_,h0,run_underlying ht,hg,this]
  · cases ha
def capA (T:TypeId→Option TInf) (argTypes:Array TypeId) (x:AV):Option AV :=
  match argTypes[0]? with
  | none=>none
  | some t=>match T t with
    | none=>none
    | some it=>match it.desc,x with
      | .slice _, .slc _ _ _ _ (.ex c)=>some (.lit (goInt c))
      | .slice _, .lit (.slice none 0 0)=>some (.lit (goInt 0))
      | _,_=>none
theorem cap_ok (hT:TOK P T) (h:MRel ρ m w) {argTypes:Array TypeId} {ty:TypeId} {x r:AV} (ha:capA T argTypes x = some r) {X:Value} (hX:gam ρ x = some X) :
    OpOK P (Builtin.cap_ argTypes ty #[X]) ρ m w r m:=by
  unfold capA at ha
  split at ha
  · cases ha
  rename_i t h0
  split at ha
  · cases ha
  rename_i it hit
  split at ha
  · rename_i e b o n sz c hd
    have ht:=(hT t it hit).und
    rw [hd] at ht
    injection ha with ha; subst ha
    unfold gam slcV at hX
    cases hq:ρ.blk b with
    | none=>simp [hq] at hX
    | some q =>
      simp only [hq] at hX
      split at hX
      · injection hX with hX; subst hX
        refine OpOK.here h (x:=goInt c) ?_ rfl
        simp [Builtin.cap_,h0,run_underlying ht]
      · cases hX
  · rename_i e hd
    have ht:=(hT t it hit).und
    rw [hd] at ht
    injection ha with ha; subst ha
    simp only [gam] at hX; injection hX with hX; subst hX
    refine OpOK.here h (x:=goInt 0) ?_ rfl
    simp [Builtin.cap_,h0,run_underlying ht]
  · cases ha
end Go.Sym
end
section
namespace Go.Sym
open Go
variable {P:Program} {T:TypeId→Option TInf} {ρ:Env} {m m':M} {w:World}
def sameA (d:TypeDesc) (x y:AV):Option Bool :=
  match d,x,y with
  | .pointer _, .ptr _ _, .lit (.pointer none) | .pointer _, .lit (.pointer none), .ptr _ _=>some false
  | .pointer _, .lit (.pointer (some _)), .lit (.pointer none) | .pointer _, .lit (.pointer none), .lit (.pointer (some _))=>some false
  | .pointer _, .ptr b o, .ptr b' o'=>if decide (b = b') && decide (o = o') then some true else none
  | .slice _, .slc _ _ _ _ _, .lit (.slice none _ _) | .slice _, .lit (.slice none _ _), .slc _ _ _ _ _=>some false
  | .map _ _, .mp _, .lit (.map none) | .map _ _, .lit (.map none), .mp _=>some false
  | .func _ _ _, .fn _ _ _, .lit .nilFunc | .func _ _ _, .lit .nilFunc, .fn _ _ _=>some false
  | .interface _, .ifc _ _, .lit .nilIface | .interface _, .lit .nilIface, .ifc _ _=>some false
  | _,_,_=>none
theorem same_run {t:TypeId} {d:TypeDesc} (ht:P.underlying t = some d) (hsz:∀ e,d = .pointer e→∃ inf,P.info? e = some inf) {x y:AV} {r:Bool} (hs:sameA d x y = some r) {X Y:Value} (hx:gam ρ x = some X) (hy:gam ρ y = some Y) :
    (∀ k (w:World),(Op.equalIn (k + 1) t X Y).run P w = .ok r w)∧(∀ op a b (w:World),(eqGuard op t a b X Y).run P w = .ok () w)∧(∀ w:World,(binOp .eql t X Y).run P w = .ok (.bool r) w)∧(∀ w:World,(binOp .neq t X Y).run P w = .ok (.bool !r) w):=by
  have fin:(∀ k (w:World),(Op.equalIn (k + 1) t X Y).run P w = .ok r w)→(∀ op a b (w:World),(eqGuard op t a b X Y).run P w = .ok () w)→binOp .eql t X Y = (do pure (.bool (← Op.equal t X Y)))→binOp .neq t X Y = (do pure (.bool (!(← Op.equal t X Y)))) →
      (∀ k (w:World),(Op.equalIn (k + 1) t X Y).run P w = .ok r w)∧(∀ op a b (w:World),(eqGuard op t a b X Y).run P w = .ok () w)∧(∀ w:World,(binOp .eql t X Y).run P w = .ok (.bool r) w)∧(∀ w:World,(binOp .neq t X Y).run P w = .ok (.bool !r) w):=by
    intro h1 h2 h3 h4
    refine ⟨h1,h2,fun w=>?_,fun w=>?_⟩
    · rw [h3]
      have:=h1 9999 w
      simp [Op.equal,Op.maxDepth,this]
    · rw [h4]
      have:=h1 9999 w
      simp [Op.equal,Op.maxDepth,this]
  unfold sameA at hs
  split at hs
  · injection hs with hs; subst hs
    obtain ⟨g,o0,z,l,_,rfl⟩:=ptr_gam hx
    simp only [gam] at hy; injection hy with hy; subst hy
    exact fin (fun k w=>by simp [Op.equalIn,run_underlying ht]) (fun op a b w=>by cases op <;> rfl) rfl rfl
  · injection hs with hs; subst hs
    obtain ⟨g,o0,z,l,_,rfl⟩:=ptr_gam hy
    simp only [gam] at hx; injection hx with hx; subst hx
    exact fin (fun k w=>by simp [Op.equalIn,run_underlying ht]) (fun op a b w=>by cases op <;> rfl) rfl rfl
  · injection hs with hs; subst hs
    simp only [gam] at hx hy; injection hx with hx; subst hx; injection hy with hy; subst hy
    exact fin (fun k w=>by simp [Op.equalIn,run_underlying ht]) (fun op a b w=>by cases op <;> rfl) rfl rfl
  · injection hs with hs; subst hs
    simp only [gam] at hx hy; injection hx with hx; subst hx; injection hy with hy; subst hy
    exact fin (fun k w=>by simp [Op.equalIn,run_underlying ht]) (fun op a b w=>by cases op <;> rfl) rfl rfl
  · rename_i e b o b' o'
    split at hs
    case isFalse=>cases hs
    rename_i hc
    simp only [Bool.and_eq_true,decide_eq_true_eq] at hc
    obtain ⟨rfl,rfl⟩:=hc
    injection hs with hs; subst hs
    rw [hx] at hy; injection hy with hy; subst hy
    obtain ⟨g,o0,z,l,_,rfl⟩:=ptr_gam hx
    obtain ⟨inf,hinf⟩:=hsz e rfl
    exact fin (fun k w=>by simp [Op.equalIn,run_underlying ht,sizeOf,typeInfo,hinf,run_sameAddr_same]) (fun op a b w=>by cases op <;> rfl) rfl rfl
  · injection hs with hs; subst hs
    obtain ⟨g,o0,z,l,κ,_,rfl,_⟩:=slc_gam hx
    simp only [gam] at hy; injection hy with hy; subst hy
    exact fin (fun k w=>by simp [Op.equalIn,run_underlying ht]) (fun op a b w=>by cases op <;> rfl) rfl rfl
  · injection hs with hs; subst hs
    obtain ⟨g,o0,z,l,κ,_,rfl,_⟩:=slc_gam hy
    simp only [gam] at hx; injection hx with hx; subst hx
    exact fin (fun k w=>by simp [Op.equalIn,run_underlying ht]) (fun op a b w=>by cases op <;> rfl) rfl rfl
  · injection hs with hs; subst hs
    rename_i b
    unfold gam at hx
    cases hq:ρ.blk b with
    | none=>simp [hq] at hx
    | some q =>
      simp only [hq] at hx; injection hx with hx; subst hx
      simp only [gam] at hy; injection hy with hy; subst hy
      exact fin (fun k w=>by simp [Op.equalIn,run_underlying ht]) (fun op a b w=>by cases op <;> rfl) rfl rfl
  · injection hs with hs; subst hs
    rename_i b
    unfold gam at hy
    cases hq:ρ.blk b with
    | none=>simp [hq] at hy
    | some q =>
      simp only [hq] at hy; injection hy with hy; subst hy
      simp only [gam] at hx; injection hx with hx; subst hx
      exact fin (fun k w=>by simp [Op.equalIn,run_underlying ht]) (fun op a b w=>by cases op <;> rfl) rfl rfl
  · injection hs with hs; subst hs
    unfold gam at hx
    split at hx
    case h_2=>cases hx
    injection hx with hx; subst hx
    simp only [gam] at hy; injection hy with hy; subst hy
    exact fin (fun k w=>by simp [Op.equalIn,run_underlying ht]) (fun op a b w=>by cases op <;> rfl) rfl rfl
  · injection hs with hs; subst hs
    unfold gam at hy
    split at hy
    case h_2=>cases hy
    injection hy with hy; subst hy
    simp only [gam] at hx; injection hx with hx; subst hx
    exact fin (fun k w=>by simp [Op.equalIn,run_underlying ht]) (fun op a b w=>by cases op <;> rfl) rfl rfl
  · injection hs with hs; subst hs
    unfold gam at hx
    split at hx
    case h_2=>cases hx
    injection hx with hx; subst hx
    simp only [gam] at hy; injection hy with hy; subst hy
    exact fin (fun k w=>by simp [Op.equalIn,run_underlying ht]) (fun op a b w=>by cases op <;> rfl) rfl rfl
  · injection hs with hs; subst hs
    unfold gam at hy
    split at hy
    case h_2=>cases hy
    injection hy with hy; subst hy
    simp only [gam] at hx; injection hx with hx; subst hx
    exact fin (fun k w=>by simp [Op.equalIn,run_underlying ht]) (fun op a b w=>by cases op <;> rfl) rfl rfl
  · cases hs
def ptrOK (T:TypeId→Option TInf):TypeDesc→Bool
  | .pointer e=>(T e).isSome
  | _=>true
def cmpA (T:TypeId→Option TInf) (op:BinOp) (t:TypeId) (x y:AV):Option AV :=
  match T t with
  | none=>none
  | some i =>
    if ptrOK T i.desc then
      match op,sameA i.desc x y with
      | .eql,some r=>some (.lit (.bool r))
      | .neq,some r=>some (.lit (.bool !r))
      | _,_=>none
    else none
theorem cmp_ok (hT:TOK P T) (h:MRel ρ m w) {op:BinOp} {t:TypeId} {x y r:AV} {a b:Operand} (hs:cmpA T op t x y = some r) {X Y:Value} (hx:gam ρ x = some X) (hy:gam ρ y = some Y) :
    OpOK P (do eqGuard op t a b X Y; binOp op t X Y) ρ m w r m:=by
  unfold cmpA at hs
  split at hs
  · cases hs
  rename_i i hi
  have hu:=(hT t i hi).und
  split at hs
  case isFalse=>cases hs
  rename_i hp
  have hsz:∀ e,i.desc = .pointer e→∃ inf,P.info? e = some inf:=by
    intro e he
    rw [he] at hp
    unfold ptrOK at hp
    obtain ⟨ie,hie⟩:=Option.isSome_iff_exists.1 hp
    obtain ⟨inf,z,k1,_⟩:=(hT e ie hie).info
    exact ⟨inf,k1⟩
  split at hs
  · rename_i r' hr
    injection hs with hs; subst hs
    obtain ⟨_,h2,h3,_⟩:=same_run hu hsz hr hx hy
    refine OpOK.here h (x:=.bool r') ?_ rfl
    simp [h2,h3]
  · rename_i r' hr
    injection hs with hs; subst hs
    obtain ⟨_,h2,_,h4⟩:=same_run hu hsz hr hx hy
    refine OpOK.here h (x:=.bool !r') ?_ rfl
    simp [h2,h4]
  · cases hs
def bytesOf:List AV→Option (List Int)
  | []=>some []
  | .lit (.int .u8 n) :: l=>match bytesOf l with
    | some r=>some (n :: r)
    | none=>none
  | _=>none
theorem bytesOf_gam:∀ {l:List AV} {ns:List Int},bytesOf l = some ns→gams ρ l = some (ns.map (Value.int .u8))
  | [],ns,h=>by simp [bytesOf] at h; subst h; rfl
  | v :: l,ns,h=>by
    unfold bytesOf at h
    split at h
    · rename_i heq; cases heq
    · rename_i n l' heq
      injection heq with e1 e2; subst e1; subst e2
      split at h
      · rename_i r hr
        injection h with h; subst h
        exact gams_cons.2 ⟨_,_,rfl,bytesOf_gam hr,rfl⟩
      · cases h
    · cases h
def strOf (ns:List Int):ByteArray:=⟨(ns.map fun n=>UInt8.ofNat n.toNat).toArray⟩
def toStrA (T:TypeId→Option TInf) (m:M) (s d:TypeId) (x:AV):Option AV :=
  match x,T s,T d with
  | .slc b o n _ _,some is,some id=>match is.desc,id.desc with
    | .slice e, .string=>match T e,m.H.get b with
      | some ie,some (.cells _ cs _)=>match ie.desc,bytesOf ((cs.drop o).take n) with
        | .int .u8,some ns=>if o + n ≤ cs.length then some (.lit (.string (strOf ns))) else none
        | _,_=>none
      | _,_=>none
    | _,_=>none
  | _,_,_=>none
theorem toStr_ok (hT:TOK P T) (h:MRel ρ m w) {s d:TypeId} {x r:AV} (hs:toStrA T m s d x = some r) {X:Value} (hx:gam ρ x = some X):OpOK P (convert s d X) ρ m w r m:=by
  unfold toStrA at hs
  split at hs
  case h_2=>cases hs
  rename_i b o n sz c is id his hid
  split at hs
  case h_2=>cases hs
  rename_i e hsd hdd
  split at hs
  case h_2=>cases hs
  rename_i ie e' cs tg hie hcs
  split at hs
  case h_2=>cases hs
  rename_i ns hed hns
  split at hs
  case isFalse=>cases hs
  rename_i hc
  injection hs with hs; subst hs
  obtain ⟨g,o0,z,l,κ,hq,rfl,_,_⟩:=slc_gam hx
  obtain ⟨ys,y1,y2,y3,y4,y5⟩:=load_cells (P:=P) h hcs hq o n hc
  have hg:=bytesOf_gam (ρ:=ρ) hns
  rw [hg] at y1; injection y1 with y1; subst y1
  have u1:=(hT s is his).und
  have u2:=(hT d id hid).und
  have u3:=(hT e ie hie).und
  rw [hsd] at u1; rw [hdd] at u2; rw [hed] at u3
  refine OpOK.here h (x:=.string (strOf ns)) ?_ rfl
  rw [run_convert_bytes_string w s d e _ n κ u1 u3 u2,run_bytesToString w _ n κ ns y5,foldl_push_bytes]
  simp [strOf,ByteArray.empty,ByteArray.emptyWithCapacity]
  try rfl
def unsafeA (P:Program) (T:TypeId→Option TInf) (m:M) (s d:TypeId) (x:AV):Option AV :=
  match x,T s,T d with
  | .ptr b o,some is,some id=>match is.desc,id.desc with
    | .pointer t, .unsafePointer=>match T t,m.H.get b with
      | some it,some (.cells _ cs _)=>if decide (it.size ≠ 0) && decide (o < cs.length) then some x else none
      | _,_=>none
    | .unsafePointer, .pointer u=>match T u,m.H.get b with
      | some _,some (.cells e cs true)=>if liesAt P P.depth e (cs.length / P.cellsOf e) o u 1 then some x else none
      | _,_=>none
    | _,_=>none
  | _,_,_=>none
theorem unsafe_ok (hT:TOK P T) (h:MRel ρ m w) {s d:TypeId} {x r:AV} (hs:unsafeA P T m s d x = some r) {X:Value} (hx:gam ρ x = some X):OpOK P (convert s d X) ρ m w r m:=by
  unfold unsafeA at hs
  split at hs
  case h_2=>cases hs
  rename_i b o is id his hid
  have u1:=(hT s is his).und
  have u2:=(hT d id hid).und
  split at hs
  · rename_i t hsd hdd
    rw [hsd] at u1; rw [hdd] at u2
    split at hs
    case h_2=>cases hs
    rename_i it e cs tg hit hcs
    split at hs
    case isFalse=>cases hs
    rename_i hc
    simp only [Bool.and_eq_true,decide_eq_true_eq] at hc
    injection hs with hs; subst hs
    obtain ⟨g,o0,z,arr,xs,k1,k2,k3,k4,k5,k6,k7,k8⟩:=row_of h hcs
    have hx':=hx
    obtain ⟨g',o0',z',l',hq,rfl⟩:=ptr_gam hx
    rw [k1] at hq; injection hq with hq; injection hq with e1 hq; injection hq with e2 hq; injection hq with e3 e4
    subst e1; subst e2; subst e3
    obtain ⟨inf,zz,i1,i2,_⟩:=(hT t it hit).info
    exact OpOK.here h (Lib.run_to_unsafe w ⟨g,o0 + o,none⟩ u1 u2 i1 (by rw [i2]; exact hc.1) (e:=e) (cells:=arr.size) (by simp [World.shape?,k2]) (by show o0 + o < arr.size; omega)) hx'
  · rename_i u hsd hdd
    rw [hsd] at u1; rw [hdd] at u2
    split at hs
    case h_2=>cases hs
    rename_i iu e cs hiu hcs
    split at hs
    case isFalse=>cases hs
    rename_i hc
    injection hs with hs; subst hs
    obtain ⟨g,o0,z,arr,xs,k1,k2,k3,k4,k5,k6,k7,k8⟩:=row_of h hcs
    obtain ⟨r1,r2⟩:=k8 rfl
    have hx':=hx
    obtain ⟨g',o0',z',l',hq,rfl⟩:=ptr_gam hx
    rw [k1] at hq; injection hq with hq; injection hq with e1 hq; injection hq with e2 hq; injection hq with e3 e4
    subst e1; subst e2; subst e3; subst r1
    obtain ⟨inf,zz,i1,i2,_⟩:=(hT u iu hiu).info
    exact OpOK.here h (Lib.run_from_unsafe w ⟨g,0 + o,none⟩ u1 u2 i1 (e:=e) (cells:=arr.size) (by simp [World.shape?,k2]) (by rw [k3,r2]; simpa using hc)) hx'
  · cases hs
def sliceDataA (x:AV):Option AV :=
  match x with
  | .slc b o n _ _=>if n = 0 then none else some (.ptr b o)
  | .lit (.slice none _ _)=>some (.lit (.pointer none))
  | _=>none
theorem sliceData_ok (h:MRel ρ m w) {argTypes:Array TypeId} {ty:TypeId} {x r:AV} (hs:sliceDataA x = some r) {X:Value} (hx:gam ρ x = some X):OpOK P (Builtin.unsafeSliceData_ argTypes ty #[X]) ρ m w r m:=by
  unfold sliceDataA at hs
  split at hs
  · rename_i b o n sz c
    split at hs
    · cases hs
    rename_i hn
    injection hs with hs; subst hs
    obtain ⟨g,o0,z,l,κ,hq,rfl,hκ,_⟩:=slc_gam hx
    exact OpOK.here h (Lib.run_unsafeSliceData_row w argTypes ty _ n κ (by omega)) (by unfold gam; rw [hq])
  · injection hs with hs; subst hs
    simp only [gam] at hx; injection hx with hx; subst hx
    exact OpOK.here h (Lib.run_unsafeSliceData_nil w argTypes ty _ _) rfl
  · cases hs
theorem liesAt_bytes' {e:TypeId} (hc:P.cellsOf e = 1) (count o n:Nat) (hn:o + n ≤ count):liesAt P P.depth e count o e n = true:=by
  have hd:P.depth = (2 * (P.types.size + Made.depth) + 1) + 1:=rfl
  rw [hd]
  simp only [liesAt,Bool.or_eq_true]
  left
  rw [hd]
  simp [rowAt,hc,hn,sameLayout,Nat.mod_one]
theorem run_unsafeString_at (w:World) (pt it ty e:TypeId) (hp:P.underlying pt = some (.pointer e)) (hc:P.cellsOf e = 1) (g o cells:Nat) (hsh:w.shape? g = some (e,cells)) (l:List UInt8) (h0:l ≠ []) (hn:o + l.length ≤ cells) (h63:l.length ≤ 9223372036854775807)
    (hcell:∀ j x,l[j]? = some x→w.cell? ((⟨g,o,none⟩:Addr).add j) = some (.int .u8 x.toNat)) :
    (Builtin.unsafeString_ #[pt,it] ty #[.pointer (some ⟨g,o,none⟩), .int .i64 l.length]).run P w = .ok (.string ⟨l.toArray⟩) (w.freeze ⟨g,o,none⟩ l.length):=by
  have hl:l.length ≠ 0:=by simpa using h0
  have hlb:=Lib.run_loadBytes (P:=P) w l ⟨g,o,none⟩ .empty hcell
  have hlies:=liesAt_bytes' (P:=P) hc (cells / P.cellsOf e) o l.length (by rw [hc]; simpa using hn)
  have h63':¬ (9223372036854775807:Int) < (l.length:Int):=by omega
  change (Bind.bind (asInt (.int .i64 l.length)) _:Sem Value).run P w = _
  have hmax:IntKind.i64.max = 9223372036854775807:=rfl
  have hneg:¬ (l.length:Int) < 0:=by omega
  simp [asInt,asIntOf,hmax,h63',hneg,hl,variablesAt,hsh,elemOf,run_underlying hp,hlies,hlb]
def byteCells:List AV→Option (List UInt8)
  | []=>some []
  | .lit (.int .u8 (.ofNat n)) :: l=>if n < 256 then (match byteCells l with
    | some r=>some (UInt8.ofNat n :: r)
    | none=>none) else none
  | _=>none
theorem byteCells_gam:∀ {l:List AV} {bs:List UInt8},byteCells l = some bs→gams ρ l = some (bs.map fun b=>Value.int .u8 b.toNat)
  | [],bs,h=>by simp [byteCells] at h; subst h; rfl
  | v :: l,bs,h=>by
    unfold byteCells at h
    split at h
    · rename_i heq; cases heq
    · rename_i n l' heq
      injection heq with e1 e2; subst e1; subst e2
      split at h
      case isFalse=>cases h
      rename_i hn
      split at h
      · rename_i r hr
        injection h with h; subst h
        refine gams_cons.2 ⟨_,_,rfl,byteCells_gam hr,?_⟩
        have:(UInt8.ofNat n).toNat = n:=by simp; omega
        rw [List.map_cons,this]
        rfl
      · cases h
    · cases h
theorem freeze_other (w:World) (g o n k:Nat) (hk:k ≠ g):(w.freeze ⟨g,o,none⟩ n).heap[k]? = w.heap[k]?:=by
  unfold World.freeze
  split
  · rfl
  · simp only [Array.getElem?_modify]
    rw [if_neg (fun e=>hk e.symm)]
def unsafeStrA (P:Program) (T:TypeId→Option TInf) (m:M) (argTypes:Array TypeId) (x n:AV):Option (AV × M) :=
  match argTypes.toList,x,natOf n with
  | [pt,_], .ptr b o,some k=>match T pt,m.H.get b with
    | some ip,some (.cells e cs _)=>match ip.desc,byteCells ((cs.drop o).take k),n with
      | .pointer e',some bs, .lit (.int .i64 _)=>if decide (e' = e) && decide (P.cellsOf e = 1) && decide (o + k ≤ cs.length) && decide (0 < k) && decide (k ≤ 16777216) then some (.lit (.string ⟨bs.toArray⟩),putB m b none) else none
      | _,_,_=>none
    | _,_=>none
  | [pt,_], .lit (.pointer none),some 0=>match n with
    | .lit (.int .i64 _)=>some (.lit (.string .empty),m)
    | _=>none
  | _,_,_=>none
theorem unsafeStr_ok (hT:TOK P T) (h:MRel ρ m w) {argTypes:Array TypeId} {ty:TypeId} {x n r:AV} (hs:unsafeStrA P T m argTypes x n = some (r,m')) {X N:Value} (hx:gam ρ x = some X) (hn:gam ρ n = some N) :
    OpOK P (Builtin.unsafeString_ argTypes ty #[X,N]) ρ m w r m':=by
  unfold unsafeStrA at hs
  split at hs
  · rename_i pt it b o k hat hk
    obtain rfl:argTypes = #[pt,it]:=by rw [← Array.toList_inj,hat]
    split at hs
    case h_2=>cases hs
    rename_i ip e cs tg hip hcs
    split at hs
    case h_2=>cases hs
    rename_i e' bs kk hd hbs
    split at hs
    case isFalse=>cases hs
    rename_i hc
    simp only [Bool.and_eq_true,decide_eq_true_eq] at hc
    obtain ⟨⟨⟨⟨rfl,c1⟩,c2⟩,c3⟩,c4⟩:=hc
    injection hs with hs; injection hs with e1 e2; subst e1; subst e2
    simp only [gam] at hn; injection hn with hn; subst hn
    obtain ⟨k1,hkk⟩:=natOf_gam (ρ:=ρ) hk rfl
    injection hkk with _ hkk
    subst hkk
    have hu:=(hT pt ip hip).und
    rw [hd] at hu
    obtain ⟨g,o0,z,arr,xs,q1,q2,q3,q4,q5,q6,q7,q8⟩:=row_of h hcs
    obtain ⟨g',o0',z',l',hq,rfl⟩:=ptr_gam hx
    rw [q1] at hq; injection hq with hq; injection hq with e1 hq; injection hq with e2 hq; injection hq with e3 e4
    subst e1; subst e2; subst e3
    obtain ⟨ys,y1,y2,y3,y4,y5⟩:=load_cells (P:=P) h hcs q1 o k c2
    rw [byteCells_gam hbs] at y1; injection y1 with y1; subst y1
    rw [List.length_map] at y2
    have hrun:=run_unsafeString_at (P:=P) w pt it ty e' hu c1 g (o0 + o) arr.size (by simp [World.shape?,q2]) bs (by intro e; rw [e] at y2; simp at y2; omega) (by omega) (by omega) (fun j x hj=>y4 j _ (by rw [List.getElem?_map,hj]; rfl))
    rw [y2] at hrun
    refine ⟨ρ,_,_,hrun,rfl,StepR.kill h hcs q1 (fun k hk=>freeze_other w g _ _ k hk) ?_ ?_ ?_ ?_⟩
    · unfold World.freeze; split
      · rfl
      · simp
    · unfold World.freeze; split <;> rfl
    · unfold World.freeze; split <;> rfl
    · unfold World.freeze; split <;> rfl
  · rename_i pt it hat hk
    obtain rfl:argTypes = #[pt,it]:=by rw [← Array.toList_inj,hat]
    split at hs
    case h_2=>cases hs
    rename_i kk
    injection hs with hs; injection hs with e1 e2; subst e1; subst e2
    simp only [gam] at hn hx; injection hn with hn; subst hn; injection hx with hx; subst hx
    obtain ⟨k1,hkk⟩:=natOf_gam (ρ:=ρ) hk rfl
    injection hkk with _ hkk
    subst hkk
    exact OpOK.here h (Lib.run_unsafeString_none w pt it ty none) rfl
  · cases hs
def isIface:TypeDesc→Bool
  | .interface _=>true
  | _=>false
def makeIfaceA (T:TypeId→Option TInf) (t:TypeId) (x:AV):Option AV :=
  match T t with
  | some i=>if isIface i.desc then none else some (.ifc t x)
  | none=>none
theorem makeIface_ok (hT:TOK P T) (h:MRel ρ m w) {t:TypeId} {x r:AV} (hs:makeIfaceA T t x = some r) {X:Value} (hx:gam ρ x = some X):OpOK P (Instr.makeInterface t X) ρ m w r m:=by
  unfold makeIfaceA at hs
  split at hs
  case h_2=>cases hs
  rename_i i hi
  split at hs
  · cases hs
  rename_i hd
  injection hs with hs; subst hs
  have hu:=(hT t i hi).und
  refine OpOK.here h (x:=.iface t X) ?_ (by unfold gam; rw [hx])
  unfold Instr.makeInterface
  simp only [Sem.run_bind,run_underlying hu,Result.andThen_ok]
  cases hdd:i.desc <;> first
    | (rw [hdd] at hd; exact absurd rfl hd)
    | rfl
def assertA (T:TypeId→Option TInf) (x:AV) (asserted:TypeId) (ok:Bool):Option AV :=
  match T asserted,x with
  | some i, .ifc t y=>if isIface i.desc then none else
    if t = asserted then some (if ok then .tup [y, .lit (.bool true)] else y)
    else if ok then some (.tup [.lit i.zv, .lit (.bool false)]) else none
  | _,_=>none
theorem assert_ok (hT:TOK P T) (h:MRel ρ m w) {x r:AV} {xt asserted:TypeId} {ok:Bool} (hs:assertA T x asserted ok = some r) {X:Value} (hx:gam ρ x = some X):OpOK P (Instr.typeAssert X xt asserted ok) ρ m w r m:=by
  unfold assertA at hs
  split at hs
  case h_2=>cases hs
  rename_i i t y hi
  split at hs
  · cases hs
  rename_i hd
  have hu:=(hT asserted i hi).und
  unfold gam at hx
  split at hx
  case h_2=>cases hx
  rename_i Y hY
  injection hx with hx; subst hx
  have hz:(zeroValue asserted).run P w = .ok i.zv w:=by
    have:=(hT asserted i hi).zv
    cases hinf:P.info? asserted with
    | none=>simp [hinf] at this
    | some inf =>
      simp only [hinf,Option.bind_some] at this
      simp [zeroValue,typeInfo,hinf,this]
  split at hs
  · rename_i ht
    subst ht
    injection hs with hs; subst hs
    refine OpOK.here h (x:=if ok then .tuple #[Y, .bool true] else Y) ?_ ?_
    · unfold Instr.typeAssert
      simp only [Sem.run_bind,run_underlying hu,Result.andThen_ok]
      cases hdd:i.desc <;> first
        | (rw [hdd] at hd; exact absurd rfl hd)
        | (simp)
    · cases ok
      · exact hY
      · show gam ρ (.tup [y, .lit (.bool true)]) = _
        unfold gam
        rw [gams_cons.2 ⟨Y,[.bool true],hY,rfl,rfl⟩]
        rfl
  · rename_i ht
    split at hs
    case isFalse=>cases hs
    rename_i hok
    subst hok
    injection hs with hs; subst hs
    refine OpOK.here h (x:=.tuple #[i.zv, .bool false]) ?_ rfl
    unfold Instr.typeAssert
    simp only [Sem.run_bind,run_underlying hu,Result.andThen_ok]
    cases hdd:i.desc <;> first
      | (rw [hdd] at hd; exact absurd rfl hd)
      | (simp [ht,hz])
end Go.Sym
end
