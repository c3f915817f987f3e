/- A part of the proof: an abstract reading of the model, contracts of functions. -/
import Derived.Test.YtlkbeomimbohlaaGreatC5
namespace Go.Abs
open Go
set_option linter.unusedSimpArgs false
set_option linter.unusedVariables false
structure AB where
 dst:Option Nat
 op:AOp
 guard:Option (Nat×Bool)
 after:List Nat
 deriving Inhabited
structure AI where
 b:AB
 drop:List Nat
 dropS:List Nat
 keys:List Nat
 na:List Nat
 pl:Nat
 deriving Inhabited
def afterOf (o:Oper):List Nat:=o.after.toList.filterMap fun e=>if Region.binds .any e then some e.on else none
def dstOk (N:Nat):Option Nat→Bool
 | some d=>decide (d<N)
 | none=>true
def resolveI (P:Program) (N:Nat) (ops:Array Oper) (o:Oper):Option AB:=
 match resolveOp P o.op with
 | none=>none
 | some op=>
  if dstOk N o.dst=true then
   match o.guard with
   | none=>some ⟨o.dst,op,none,afterOf o⟩
   | some (j,want)=>match (ops[j]?).bind (·.dst) with
    | some t=>some ⟨o.dst,op,some (t,want),afterOf o⟩
    | none=>none
  else none
def stepI (P:Program) (G:FF) (i:AB) (δ:Del):Prop:=match i.guard with
 | none=>exOp P G (i.dst.getD 0) i.op δ
 | some (t,want)=>(∃ b,G.var t=some (.p (.bool b))∧(b=want→exOp P G (i.dst.getD 0) i.op δ)∧(b≠want→δ=⟨.p (.tup []),[],[]⟩))∨(G.var t=some (.p (.tup []))∧δ=⟨.p (.tup []),[],[]⟩)
section
variable {P:Program} {N:Nat} {w0:Base} {ι:Inj} {S:Snap} {F:FF} {a:Act} {w:World}
theorem stepI_ok (h:St N w0 ι S F a w) {ops:Array Oper} {k:Nat} {o:Oper} {i:AB} {δ:Del} (hi:ops[k]?=some o) (hr:resolveI P N ops o=some i) (hs:stepI P F i δ) (hf:∀ s∈newS i.op δ,F.noSlot s)
  {K:Act→World→Prop} {Q:Exit→Act→World→Prop} (hK:∀ ι' S' a' w',St N w0 ι' S' (F.app i.dst δ) a' w'→K a' w'):wpOp P ops Q k K a w:=by
 have hop:∃ op,resolveOp P o.op=some op∧i.op=op∧i.dst=o.dst∧(∀ d,o.dst=some d→d<N)∧((o.guard=none∧i.guard=none)∨∃ j want t,o.guard=some (j,want)∧(ops[j]?).bind (·.dst)=some t∧i.guard=some (t,want)):=by
  unfold resolveI at hr
  split at hr
  ·simp at hr
  ·rename_i op h1
   split at hr
   ·rename_i h2
    have hd:∀ d,o.dst=some d→d<N:=by
     intro d hd;rw [hd] at h2;simpa [dstOk] using h2
    split at hr
    ·rename_i h3;simp at hr;subst hr;exact ⟨op,h1,rfl,rfl,hd,.inl ⟨h3,rfl⟩⟩
    ·rename_i j want h3
     split at hr
     ·rename_i t h4;simp at hr;subst hr;exact ⟨op,h1,rfl,rfl,hd,.inr ⟨j,want,t,h3,h4,rfl⟩⟩
     ·simp at hr
   ·simp at hr
 obtain ⟨op,h1,rfl,h2,h3,h4⟩:=hop
 have hdb:i.dst.getD 0<BIG:=by
  cases hq:i.dst with
  | none=>simp [BIG]
  | some d=>exact Nat.lt_of_lt_of_le (h3 d (by rw [←h2,hq])) h.nb
 have run:exOp P F (i.dst.getD 0) i.op δ→o.wp P a w K Q:=fun hex=>exOp_ok h h1 hex hf hdb h3 (by rw [h2] at hK;exact hK)
 unfold wpOp
 rw [hi]
 simp only
 unfold stepI at hs
 rcases h4 with ⟨g1,g2⟩ | ⟨j,want,t,g1,g2,g3⟩
 ·rw [g2] at hs
  have:Region.wanted o (yielded ops a.tmps)=true:=by simp [Region.wanted,g1]
  rw [if_pos this]
  exact .inl (run hs)
 ·rw [g3] at hs
  rcases hs with ⟨b,q1,q2,q3⟩ | ⟨q1,rfl⟩
  rotate_left
  ·obtain ⟨x,q4,q5⟩:=h.vars t _ q1
   have hx:∃ vs:List Value,x=.tuple vs.toArray:=by
    cases q5 with
    | p v x hp=>cases hp with
     | tup cells vs hl hh=>exact ⟨vs,rfl⟩
   obtain ⟨vs,rfl⟩:=hx
   have hy:yielded ops a.tmps j=none:=by simp [yielded,g2,q4]
   have hw:Region.wanted o (yielded ops a.tmps)=false:=by
    simp only [Region.wanted,g1,hy];rfl
   rw [hw]
   simp only [Bool.false_eq_true,if_false]
   refine hK ι S _ w ?_
   rw [FF.app_val,h2]
   exact h.put (.p _ _ (.tup [] [] rfl (by simp))) h3
  obtain ⟨x,q4,q5⟩:=h.vars t _ q1
  obtain rfl:=inv_bool q5
  have hy:yielded ops a.tmps j=some b:=by simp [yielded,g2,q4]
  have hw:Region.wanted o (yielded ops a.tmps)=(b == want):=by
   simp only [Region.wanted,g1,hy]
   cases b<;>cases want<;>rfl
  rw [hw]
  by_cases hb:b=want
  ·subst hb
   simp only [beq_self_eq_true,if_true]
   exact .inl (run (q2 rfl))
  ·have:(b == want)=false:=by cases b<;>cases want<;>simp_all
   rw [this]
   simp only [Bool.false_eq_true,if_false]
   have hδ:=q3 hb
   subst hδ
   refine hK ι S _ w ?_
   rw [FF.app_val,h2]
   exact h.put (.p _ _ (.tup [] [] rfl (by simp))) h3
end
def callK (P:Program) (G:FF) (d:Nat) (f:FuncId) (vs:List AV) (ok:Del→Bool) (K:Del→Prop):Prop:=∃ δ,exCall P G d f vs δ∧ok δ=true∧K δ
def awpStep (P:Program) (G:FF) (i:AB) (ok:Del→Bool) (K:Del→Prop):Prop:=
 match i.op with
 | .call f args=>match G.vals args with
  | some vs=>callK P G (i.dst.getD 0) f vs ok K
  | none=>False
 | .callv x args=>match G.val x,G.vals args with
  | some u,some vs=>match cloOf u with
   | some (f,fi,ca)=>callK P G (i.dst.getD 0) f (fi++vs++ca) ok K
   | none=>False
  | _,_=>False
 | op=>match evDel G (i.dst.getD 0) op with
  | some δ=>ok δ=true∧K δ
  | none=>False
def awpI (P:Program) (G:FF) (i:AB) (ok:Del→Bool) (K:Del→Prop):Prop:=
 match i.guard with
 | none=>awpStep P G i ok K
 | some (t,want)=>match G.var t with
  | some (.p (.bool b))=>(b=want→awpStep P G i ok K)∧(b≠want→K ⟨.p (.tup []),[],[]⟩)
  | some (.p (.tup []))=>K ⟨.p (.tup []),[],[]⟩
  | _=>False
theorem awpStep_ex {P:Program} {G:FF} {i:AB} {ok:Del→Bool} {K:Del→Prop} (h:awpStep P G i ok K):∃ δ,exOp P G (i.dst.getD 0) i.op δ∧ok δ=true∧K δ:=by
 unfold awpStep at h
 split at h
 ·rename_i f args hop
  split at h
  ·rename_i vs h1
   obtain ⟨δ,h2,h3,h4⟩:=h
   exact ⟨δ,by rw [hop];exact ⟨vs,h1,h2⟩,h3,h4⟩
  ·exact h.elim
 ·rename_i x args hop
  split at h
  ·rename_i u vs h1 h2
   split at h
   ·rename_i f fi ca h3
    obtain ⟨δ,h4,h5,h6⟩:=h
    exact ⟨δ,by rw [hop];exact ⟨u,vs,f,fi,ca,h1,h2,h3,h4⟩,h5,h6⟩
   ·exact h.elim
  ·exact h.elim
 ·rename_i h1 h2
  split at h
  ·rename_i δ hδ
   refine ⟨δ,?_,h.1,h.2⟩
   generalize i.op=op at *
   cases op<;>first | exact hδ | exact absurd rfl (h1 _ _) | exact absurd rfl (h2 _ _)
  ·exact h.elim
theorem awpI_ex {P:Program} {G:FF} {i:AB} {ok:Del→Bool} {K:Del→Prop} (h:awpI P G i ok K):∃ δ,stepI P G i δ∧(ok δ=true∨δ=⟨.p (.tup []),[],[]⟩)∧K δ:=by
 unfold awpI at h
 split at h
 ·rename_i hg
  obtain ⟨δ,h1,h2,h3⟩:=awpStep_ex h
  exact ⟨δ,by unfold stepI;rw [hg];exact h1,.inl h2,h3⟩
 ·rename_i t want hg
  split at h
  ·rename_i b hb
   by_cases hw:b=want
   ·obtain ⟨δ,h1,h2,h3⟩:=awpStep_ex (h.1 hw)
    exact ⟨δ,by unfold stepI;rw [hg];exact .inl ⟨b,hb,fun _=>h1,fun q=>absurd hw q⟩,.inl h2,h3⟩
   ·exact ⟨_,by unfold stepI;rw [hg];exact .inl ⟨b,hb,fun q=>absurd q hw,fun _=>rfl⟩,.inr rfl,h.2 hw⟩
  ·rename_i hb
   exact ⟨_,by unfold stepI;rw [hg];exact .inr ⟨hb,rfl⟩,.inr rfl,h⟩
  ·exact h.elim
def freshB (F:Fr) (op:AOp) (δ:Del):Bool:=(newS op δ).all fun s=>F.noSlot s
def awpR (P:Program):List AB→(Fr→Prop)→Fr→Prop
 | [],K,F=>K F
 | i :: l,K,F=>awpI P F.ff i (freshB F i.op) fun δ=>awpR P l K (F.app i.dst δ)
theorem fresh_ok {F:Fr} {op:AOp} {δ:Del} (h:freshB F op δ=true∨δ=⟨.p (.tup []),[],[]⟩):∀ s∈newS op δ,F.ff.noSlot s:=by
 intro s hs
 rcases h with h | rfl
 ·exact Fr.noSlot_ff (List.all_eq_true.1 h s hs)
 ·cases op<;>simp [newS] at hs
theorem awpR_ok {P:Program} {N:Nat} {w0:Base} {ops:Array Oper} {Q:Exit→Act→World→Prop} {K:Fr→Prop}:∀ (l:List AB) (k:Nat) (F:Fr) (ι:Inj) (S:Snap) (a:Act) (w:World),
  (∀ j i,l[j]?=some i→∃ o,ops[k+j]?=some o∧resolveI P N ops o=some i)→awpR P l K F→St N w0 ι S F.ff a w →
  (∀ F' ι' S' a' w',K F'→St N w0 ι' S' F'.ff a' w'→Q .normal a' w')→wpOps P ops Q (List.range' k l.length) a w
 | [],k,F,ι,S,a,w,hl,h,hst,hQ=>by
  simp only [List.length_nil,List.range'_zero,wpOps]
  exact hQ F ι S a w h hst
 | i :: l,k,F,ι,S,a,w,hl,h,hst,hQ=>by
  obtain ⟨o,h1,h2⟩:=hl 0 i rfl
  obtain ⟨δ,h3,h4,h5⟩:=awpI_ex h
  simp only [List.length_cons,List.range'_succ,wpOps_cons]
  refine stepI_ok hst h1 h2 h3 (fresh_ok h4) fun ι' S' a' w' hst'=>?_
  rw [←Fr.app_ff] at hst'
  exact awpR_ok l (k+1) _ ι' S' a' w' (fun j i' hj=>by
   obtain ⟨o',g1,g2⟩:=hl (j+1) i' (by simpa using hj)
   exact ⟨o',by rw [←g1];congr 1;omega,g2⟩) h5 hst' hQ
inductive Ghost where
 | keep (vs:List Nat)
 | own (t d:Nat) (e:TypeId) (size:Nat)
 | freeze (s:Slot)
 | ren (s s':Slot)
 | canV (t:Nat) (s':Slot)
 | canC (b:Slot) (j:Nat) (s':Slot)
 | ownC (b:Slot) (j:Nat) (s':Slot) (e:TypeId) (size:Nat)
 | zsl (t size:Nat)
 | zslC (b:Slot) (j size:Nat)
 deriving Inhabited
mutual
def AV.fz (s:Slot) (sz:Nat) (rows:List (List PV)):AV→AV
 | .ref s' size off len=>if s'=s then (if size=sz∧off+len≤rows.length then .p (.sl size ((rows.drop off).take len)) else .top) else .ref s' size off len
 | .ptr s' size row off=>if s'=s then (if size=sz∧row<rows.length∧off=0 then .p (.ro (rows.getD row [])) else .top) else .ptr s' size row off
 | .agg cs=>mkAgg (AV.fzL s sz rows cs)
 | .tup cs=>mkTup (AV.fzL s sz rows cs)
 | .clo fn f c=>.clo fn (AV.fzL s sz rows f) (AV.fzL s sz rows c)
 | .p v=>.p v
 | .top=>.top
def AV.fzL (s:Slot) (sz:Nat) (rows:List (List PV)):List AV→List AV
 | []=>[]
 | v :: l=>v.fz s sz rows :: AV.fzL s sz rows l
end
def Blk.fz (s:Slot) (sz:Nat) (rows:List (List PV)):Blk→Blk
 | .box cells=>.box (AV.fzL s sz rows cells)
 | k=>k
mutual
def AV.rn (s s':Slot):AV→AV
 | .ref t size off len=>.ref (if t=s then s' else t) size off len
 | .ptr t size row off=>.ptr (if t=s then s' else t) size row off
 | .agg cs=>.agg (AV.rnL s s' cs)
 | .tup cs=>.tup (AV.rnL s s' cs)
 | .clo fn f c=>.clo fn (AV.rnL s s' f) (AV.rnL s s' c)
 | .p v=>.p v
 | .top=>.top
def AV.rnL (s s':Slot):List AV→List AV
 | []=>[]
 | v :: l=>v.rn s s' :: AV.rnL s s' l
end
def Blk.rn (s s':Slot):Blk→Blk
 | .box cells=>.box (AV.rnL s s' cells)
 | k=>k
def Fr.spoken (F:Fr) (vs:List (Nat×AV)) (s:Slot):Bool:=vs.any (fun y=>!(y.2.noSlot s)) || F.mem.any (fun y=>!(y.2.noSlot s))
def insM (s:Slot) (k:Blk):List (Slot×Blk)→List (Slot×Blk)
 | []=>[(s,k)]
 | x :: l=>if x.1=s then (s,k) :: l else if s.1<x.1.1∨(s.1=x.1.1∧s.2<x.1.2) then (s,k) :: x :: l else x :: insM s k l
def normM:List (Slot×Blk)→List (Slot×Blk)
 | []=>[]
 | x :: l=>insM x.1 x.2 (normM l)
theorem look_insM {s s':Slot} {k:Blk}:∀ {l:List (Slot×Blk)},look s' (insM s k l)=if s'=s then some k else look s' l
 | []=>by simp [insM,look]
 | (s1,k1) :: l=>by
  simp only [insM]
  by_cases h1:s1=s
  ·subst h1
   simp only [if_true,look]
   split<;>rfl
  ·rw [if_neg h1]
   split
   ·simp [look]
   ·simp only [look]
    rw [look_insM (l:=l)]
    by_cases h2:s'=s1
    ·subst h2;simp [h1]
    ·simp [h2]
theorem look_normM {s:Slot}:∀ {l:List (Slot×Blk)},look s (normM l)=look s l
 | []=>rfl
 | (s1,k1) :: l=>by
  simp only [normM,look_insM,look,look_normM (l:=l)]
def renF (s s':Slot) (F:Fr):Option Fr:=
 if s=s' then some F else if F.noSlot s then some F else if F.noSlot s'=true∧(s'.1<1000000∨s'.2≠0)∧(s.1<1000000∨s.2≠0) then some ⟨F.vars.map fun x=>(x.1,x.2.rn s s'),F.mem.map fun x=>(if x.1=s then s' else x.1,x.2.rn s s')⟩ else none
def Blk.trim (n:Nat):Blk→Blk
 | .sl e sz rows=>.sl e sz (rows.take n)
 | k=>k
def Fr.trim (s:Slot) (n:Nat) (F:Fr):Fr:=⟨F.vars,F.mem.map fun x=>(x.1,if x.1=s then x.2.trim n else x.2)⟩
def Ghost.app:Ghost→Fr→Option Fr
 | .keep vs,F=>some ⟨vs.filterMap fun t=>(F.var t).map (t,·),normM (F.mem.filter fun x=>F.spoken (vs.filterMap fun t=>(F.var t).map (t,·)) x.1)⟩
 | .own t d e size,F=>match F.var t with
  | some (.p .nsl)=>if F.noSlot (d,0)=true∧d<1000000 then some ⟨(t,.ref (d,0) size 0 0) :: F.vars,((d,0),.sl e size []) :: F.mem⟩ else none
  | some (.ref s a b c)=>some F
  | _=>none
 | .freeze s,F=>match F.blk s with
  | some (.sl e sz rows)=>some ⟨F.vars.map fun x=>(x.1,x.2.fz s sz rows),(F.mem.filter fun x=>decide (x.1≠s)).map fun x=>(x.1,x.2.fz s sz rows)⟩
  | some (.box cells)=>match allP cells with
   | some ps=>some ⟨F.vars.map fun x=>(x.1,x.2.fz s ps.length [ps]),(F.mem.filter fun x=>decide (x.1≠s)).map fun x=>(x.1,x.2.fz s ps.length [ps])⟩
   | none=>some F
  | _=>some F
 | .ren s s',F=>renF s s' F
 | .canV t s',F=>match F.var t with
  | some (.ref s _ 0 len)=>(renF s s' F).map (Fr.trim s' len)
  | _=>some F
 | .canC b j s',F=>match F.blk b with
  | some (.box cells)=>match cells[j]? with
   | some (.ref s _ 0 len)=>(renF s s' F).map (Fr.trim s' len)
   | _=>some F
  | _=>some F
 | .ownC b j s' e size,F=>match F.blk b with
  | some (.box cells)=>match cells[j]? with
   | some (.p .nsl)=>if F.noSlot s'=true∧(s'.1<1000000∨s'.2≠0) then some ⟨F.vars,(s',.sl e size []) :: F.mem.map fun x=>(x.1,if x.1=b then .box (cells.set j (.ref s' size 0 0)) else x.2)⟩ else none
   | _=>some F
  | _=>some F
 | .zsl t size,F=>match F.var t with
  | some (.p .nsl)=>some ⟨(t,.p (.sl size [])) :: F.vars,F.mem⟩
  | _=>some F
 | .zslC b j size,F=>match F.blk b with
  | some (.box cells)=>match cells[j]? with
   | some (.p .nsl)=>some ⟨F.vars,F.mem.map fun x=>(x.1,if x.1=b then .box (cells.set j (.p (.sl size []))) else x.2)⟩
   | _=>some F
  | _=>some F
theorem look_filterMap {κ α:Type} [DecidableEq κ] {f:κ→Option α} {k:κ} {v:α}:∀ {l:List κ},look k (l.filterMap fun t=>(f t).map (t,·))=some v→f k=some v
 | [],h=>by simp [look] at h
 | t :: l,h=>by
  simp only [List.filterMap_cons] at h
  cases hf:f t with
  | none=>simp [hf] at h;exact look_filterMap h
  | some u=>
   simp only [hf,Option.map_some,look] at h
   split at h
   ·rename_i e;subst e;simp at h;subst h;exact hf
   ·exact look_filterMap h
theorem look_map {κ α β:Type} [DecidableEq κ] {g:α→β} {k:κ} {v:β}:∀ {l:List (κ×α)},look k (l.map fun x=>(x.1,g x.2))=some v→∃ u,look k l=some u∧g u=v
 | [],h=>by simp [look] at h
 | (t,u) :: l,h=>by
  simp only [List.map_cons,look] at h ⊢
  split at h
  ·rename_i e;simp at h;exact ⟨u,by simp [e],h⟩
  ·rename_i e;rw [if_neg e];exact look_map h
section
variable {P:Program} {N:Nat} {w0:Base} {ι:Inj} {S:Snap} {a:Act} {w:World}
theorem mkTup_rel {ι:Inj} {S:Snap} {cs:List AV} {vs:List Value} (h:Rs ι S cs vs):AVRel ι S (mkTup cs) (.tuple vs.toArray):=by
 unfold mkTup
 split
 ·rename_i ps e;exact .p _ _ (.tup ps vs (h.toPs e).1 (h.toPs e).2)
 ·exact .tup cs vs h.1 h.2
theorem fzL_get {s:Slot} {sz:Nat} {rows:List (List PV)}:∀ {l:List AV} {j:Nat} {v:AV},(AV.fzL s sz rows l)[j]?=some v→∃ u,l[j]?=some u∧v=u.fz s sz rows
 | [],j,v,h=>by simp [AV.fzL] at h
 | x :: l,0,v,h=>by simp [AV.fzL] at h;exact ⟨x,rfl,h.symm⟩
 | x :: l,j+1,v,h=>by simp [AV.fzL] at h;simpa using fzL_get h
theorem fzL_len {s:Slot} {sz:Nat} {rows:List (List PV)}:∀ {l:List AV},(AV.fzL s sz rows l).length=l.length
 | []=>rfl
 | x :: l=>by simp [AV.fzL,fzL_len]
theorem fz_rel {s:Slot} {e:TypeId} {sz:Nat} {rows:List (List PV)} {S':Snap} (hS:S.le S') (hb:BRel ι S w s (.sl e sz rows)) (hS':∀ b t,ι s=some (b,t)→∀ x:Addr,x.block=b→S' x=w.cell? x) {v:AV} {x:Value} (h:AVRel ι S v x) :
  AVRel ι S' (v.fz s sz rows) x:=by
 induction h with
 | p v x hr=>simp only [AV.fz];exact .p _ _ (hr.mono hS)
 | ref s' size off len b total cap p hi hct hl ha=>
  simp only [AV.fz]
  by_cases hs:s'=s
  ·subst hs
   rw [if_pos rfl]
   split
   ·rename_i hc
    obtain ⟨rfl,hle⟩:=hc
    refine .p _ _ ?_
    obtain ⟨hwf,hm⟩:=hb
    have hget:∀ i,((rows.drop off).take len)[i]?=if i<len then rows[off+i]? else none:=by
     intro i;simp [List.getElem?_take,List.getElem?_drop]
    have hlen:((rows.drop off).take len).length=len:=by simp;omega
    have hwf':∀ (i:Nat) (row:List PV),((rows.drop off).take len)[i]?=some row→row.length=size:=fun i row e1=>by
     rw [hget] at e1
     split at e1
     ·exact hwf _ row e1
     ·simp at e1
    have hcell:∀ (i:Nat) (row:List PV) (j:Nat) (pv:PV),((rows.drop off).take len)[i]?=some row→row[j]?=some pv→∃ u,S' (p.add (i*size+j))=some u∧PRel S' pv u:=by
     intro i row j pv e1 e2
     have hlt:i<len:=by have:=(List.getElem?_eq_some_iff.1 e1).1;omega
     have hp:p=⟨b,off*size,none⟩:=by
      rcases ha with h0 | h0
      ·omega
      ·exact h0
     subst hp
     rw [hget,if_pos hlt] at e1
     rcases hm with ⟨q,_⟩ | ⟨b',t',e',c,q1,q2,q3,q4,q5,q6,q7⟩
     ·rw [hi] at q;simp at q
     ·rw [hi] at q1;simp at q1;obtain ⟨rfl,rfl⟩:=q1
      obtain ⟨u,u1,u2⟩:=q7 (off+i) j (.p pv) (by simp [Blk.cell,e1,e2])
      refine ⟨u,?_,u2.inv_p.mono hS⟩
      rw [hS' b total hi _ (by rw [addr_add]),addr_add,q2.cell,←u1]
      congr 1
      simp only [Blk.size,Nat.add_mul,Nat.add_assoc]
    have:=PRel.sl (S:=S') size ((rows.drop off).take len) (some p) cap (fun i j=>(S' (p.add (i*size+j))).getD undef) (by omega) hwf'
     (fun i row j pv e1 e2=>by
      obtain ⟨u,u1,_⟩:=hcell i row j pv e1 e2
      exact ⟨p,rfl,by rw [u1];rfl⟩)
     (fun i row j pv e1 e2=>by
      obtain ⟨u,u1,u2⟩:=hcell i row j pv e1 e2
      simp only [u1,Option.getD_some]
      exact u2)
    rw [hlen] at this
    exact this
   ·exact .top _
  ·rw [if_neg hs];exact .ref s' size off len b total cap p hi hct hl ha
 | refnil s' size hi=>
  simp only [AV.fz]
  by_cases hs:s'=s
  ·subst hs
   rw [if_pos rfl]
   split
   ·simp only [List.drop_zero,List.take_zero]
    exact .p _ _ (.sl size [] none 0 (fun _ _=>undef) (Nat.le_refl _) (by simp) (by simp) (by simp))
   ·exact .top _
  ·rw [if_neg hs];exact .refnil s' size hi
 | ptr s' size row off b total hi=>
  simp only [AV.fz]
  by_cases hs:s'=s
  ·subst hs
   rw [if_pos rfl]
   split
   ·rename_i hc
    obtain ⟨rfl,hrow,rfl⟩:=hc
    refine .p _ _ ?_
    obtain ⟨hwf,hm⟩:=hb
    have hgd:rows[row]?=some (rows.getD row []):=by rw [List.getD_eq_getElem?_getD,List.getElem?_eq_getElem hrow];rfl
    rcases hm with ⟨q,_⟩ | ⟨b',t',e',c,q1,q2,q3,q4,q5,q6,q7⟩
    ·rw [hi] at q;simp at q
    ·rw [hi] at q1;simp at q1;obtain ⟨rfl,rfl⟩:=q1
     have hcell:∀ (j:Nat) (pv:PV),(rows.getD row [])[j]?=some pv→∃ u,S' ((⟨b,row*size+0,none⟩:Addr).add j)=some u∧PRel S' pv u:=by
      intro j pv e2
      obtain ⟨u,u1,u2⟩:=q7 row j (.p pv) (by simp only [Blk.cell,hgd,Option.bind_some,e2,Option.map_some])
      refine ⟨u,?_,u2.inv_p.mono hS⟩
      rw [hS' b total hi _ (by rw [addr_add]),addr_add,q2.cell,←u1]
      rfl
     exact .ro _ _ (fun j=>(S' ((⟨b,row*size+0,none⟩:Addr).add j)).getD undef)
      (fun j pv e2=>by obtain ⟨u,u1,_⟩:=hcell j pv e2;rw [u1];rfl)
      (fun j pv e2=>by obtain ⟨u,u1,u2⟩:=hcell j pv e2;simp only [u1,Option.getD_some];exact u2)
   ·exact .top _
  ·rw [if_neg hs];exact .ptr s' size row off b total hi
 | agg cells vs hl h ih=>
  simp only [AV.fz]
  refine mkAgg_rel ⟨by rw [fzL_len];exact hl,fun j p v e1 e2=>?_⟩
  obtain ⟨u,e3,rfl⟩:=fzL_get e1
  exact ih j u v e3 e2
 | tup cells vs hl h ih=>
  simp only [AV.fz]
  refine mkTup_rel ⟨by rw [fzL_len];exact hl,fun j p v e1 e2=>?_⟩
  obtain ⟨u,e3,rfl⟩:=fzL_get e1
  exact ih j u v e3 e2
 | clo fn first captured fs cs hf hc h1 h2 ih1 ih2=>
  simp only [AV.fz]
  refine .clo fn _ _ fs cs (by rw [fzL_len];exact hf) (by rw [fzL_len];exact hc) (fun j p v e1 e2=>?_) (fun j p v e1 e2=>?_)
  ·obtain ⟨u,e3,rfl⟩:=fzL_get e1
   exact ih1 j u v e3 e2
  ·obtain ⟨u,e3,rfl⟩:=fzL_get e1
   exact ih2 j u v e3 e2
 | top x=>exact .top x
theorem rnL_get {s s':Slot}:∀ {l:List AV} {j:Nat} {v:AV},(AV.rnL s s' l)[j]?=some v→∃ u,l[j]?=some u∧v=u.rn s s'
 | [],j,v,h=>by simp [AV.rnL] at h
 | x :: l,0,v,h=>by simp [AV.rnL] at h;exact ⟨x,rfl,h.symm⟩
 | x :: l,j+1,v,h=>by simp [AV.rnL] at h;simpa using rnL_get h
theorem rnL_len {s s':Slot}:∀ {l:List AV},(AV.rnL s s' l).length=l.length
 | []=>rfl
 | x :: l=>by simp [AV.rnL,rnL_len]
theorem rn_inj {s s' t:Slot} (ht:t≠s') {ι:Inj}:(if (if t=s then s' else t)=s' then ι s else ι (if t=s then s' else t))=ι t:=by
 by_cases h:t=s
 ·subst h;simp
 ·simp [h,ht]
theorem rn_rel {ι:Inj} {S:Snap} {s s':Slot} {v:AV} {x:Value} (h:AVRel ι S v x) (hn:v.noSlot s'=true):AVRel (fun r=>if r=s' then ι s else ι r) S (v.rn s s') x:=by
 induction h with
 | p v x h=>exact .p v x h
 | ref t size off len b total cap a h1 hc hl ha=>exact .ref _ size off len b total cap a (by rw [rn_inj (by simpa [AV.noSlot] using hn)];exact h1) hc hl ha
 | refnil t size h1=>exact .refnil _ size (by rw [rn_inj (by simpa [AV.noSlot] using hn)];exact h1)
 | ptr t size row off b total h1=>exact .ptr _ size row off b total (by rw [rn_inj (by simpa [AV.noSlot] using hn)];exact h1)
 | agg cells vs hl h ih=>
  refine .agg _ vs (by rw [rnL_len];exact hl) fun j p v e1 e2=>?_
  obtain ⟨u,e3,rfl⟩:=rnL_get e1
  exact ih j u v e3 e2 (AV.noSlotL_get (by simpa [AV.noSlot] using hn) e3)
 | tup cells vs hl h ih=>
  refine .tup _ vs (by rw [rnL_len];exact hl) fun j p v e1 e2=>?_
  obtain ⟨u,e3,rfl⟩:=rnL_get e1
  exact ih j u v e3 e2 (AV.noSlotL_get (by simpa [AV.noSlot] using hn) e3)
 | clo fn first captured fs cs hf hc h1 h2 ih1 ih2=>
  simp [AV.noSlot] at hn
  refine .clo fn _ _ fs cs (by rw [rnL_len];exact hf) (by rw [rnL_len];exact hc) (fun j p v e1 e2=>?_) (fun j p v e1 e2=>?_)
  ·obtain ⟨u,e3,rfl⟩:=rnL_get e1
   exact ih1 j u v e3 e2 (AV.noSlotL_get hn.1 e3)
  ·obtain ⟨u,e3,rfl⟩:=rnL_get e1
   exact ih2 j u v e3 e2 (AV.noSlotL_get hn.2 e3)
 | top x=>exact .top x
theorem look_ren {s s':Slot} {t:Slot} {k':Blk}:∀ {l:List (Slot×Blk)},(∀ x∈l,x.1≠s')→look t (l.map fun x=>(if x.1=s then s' else x.1,x.2.rn s s'))=some k'→∃ r k,look r l=some k∧t=(if r=s then s' else r)∧k'=k.rn s s'∧r≠s'
 | [],_,h=>by simp [look] at h
 | (r,k) :: l,hl,h=>by
  simp only [List.map_cons,look] at h
  have hr:=hl (r,k) (by simp)
  by_cases e:t=(if r=s then s' else r)
  ·rw [if_pos e] at h;simp at h;exact ⟨r,k,by simp [look],e,h.symm,hr⟩
  ·rw [if_neg e] at h
   obtain ⟨r',k1,h1,h2,h3,h4⟩:=look_ren (fun x hx=>hl x (by simp [hx])) h
   refine ⟨r',k1,?_,h2,h3,h4⟩
   simp only [look]
   rw [if_neg (fun e'=>e (by rw [h2,e'])),h1]
theorem renF_ok {s s':Slot} {F F':Fr} (h:St N w0 ι S F.ff a w) (e:renF s s' F=some F'):∃ ι' S',St N w0 ι' S' F'.ff a w:=by
 unfold renF at e
 split at e
 ·simp only [Option.some.injEq] at e
  subst e
  exact ⟨ι,S,h⟩
 split at e
 ·simp only [Option.some.injEq] at e
  subst e
  exact ⟨ι,S,h⟩
 ·split at e
  ·rename_i _ hq
   obtain ⟨hn,hx1,hx2⟩:=hq
   simp only [Option.some.injEq] at e
   subst e
   have hf:=Fr.noSlot_ff hn
   have hk:∀ x∈F.mem,x.1≠s':=by
    intro x hx
    simp only [Fr.noSlot,Bool.and_eq_true,List.all_eq_true] at hn
    have:=hn.2 x hx
    simp at this
    exact this.1
   refine ⟨fun r=>if r=s' then ι s else ι r,S,⟨h.nt,h.nb,?_,h.df,h.ob,h.keep,h.sle,h.snew,h.snap,?_,?_,?_,?_⟩⟩
   ·intro t ht
    rw [if_neg]
    ·exact h.fix t ht
    ·intro q;subst q
     have h1:=ht.1
     have h2:=ht.2
     simp only [BIG] at h1
     omega
   ·intro t v q
    obtain ⟨u,q1,q2⟩:=look_map (g:=fun v:AV=>v.rn s s') q
    obtain ⟨x,x1,x2⟩:=h.vars t u q1
    exact ⟨x,x1,q2 ▸ rn_rel x2 (hf.1 t u q1)⟩
   ·intro t k' q
    obtain ⟨r,k,q1,rfl,rfl,hr⟩:=look_ren hk q
    obtain ⟨hwf,hm⟩:=h.mem r k q1
    have hkn:=(hf.2 r k q1).2
    cases k with
    | sl e' sz' rows'=>
     exact ⟨hwf,hm.imp (fun ⟨a1,a2⟩=>⟨(rn_inj hr).trans a1,a2⟩) fun ⟨b,total,t',c,e1,e2,e3,e4,e5,e6,e7⟩=>⟨b,total,t',c,(rn_inj hr).trans e1,e2,e3,e4,e5,e6,fun i j av q=>let ⟨v,v1,v2⟩:=e7 i j av q;⟨v,v1,by
      simp only [Blk.rn,Blk.cell,Option.map_eq_some_iff] at q
      obtain ⟨p,-,rfl⟩:=q
      exact .p _ _ v2.inv_p⟩⟩⟩
    | box cells=>
     refine ⟨trivial,hm.imp (fun ⟨a1,a2⟩=>⟨(rn_inj hr).trans a1,a2⟩) fun ⟨b,total,t',c,e1,e2,e3,e4,e5,e6,e7⟩=>⟨b,total,t',c,(rn_inj hr).trans e1,e2,e3,by simpa [Blk.rn,Blk.size,rnL_len] using e4,e5,e6,fun i j av q=>?_⟩⟩
     simp only [Blk.rn,Blk.cell] at q
     split at q
     ·rename_i hi0;subst hi0
      obtain ⟨u,u1,rfl⟩:=rnL_get q
      obtain ⟨v,v1,v2⟩:=e7 0 j u (by simp [Blk.cell,u1])
      exact ⟨v,by simpa [Blk.rn,Blk.size,rnL_len] using v1,rn_rel v2 (AV.noSlotL_get (by simpa [Blk.noSlot] using hkn) u1)⟩
     ·simp at q
   ·intro t k' q b t' hi
    obtain ⟨r,k,q1,rfl,rfl,hr⟩:=look_ren hk q
    exact h.own r k q1 b t' ((rn_inj hr).symm.trans hi)
   ·intro s1 s2 k1 k2 q1 q2 hne b t b' t' i1 i2
    obtain ⟨r1,c1,g1,rfl,-,hr1⟩:=look_ren hk q1
    obtain ⟨r2,c2,g2,rfl,-,hr2⟩:=look_ren hk q2
    exact h.sep r1 r2 c1 c2 g1 g2 (fun e=>hne (by rw [e])) b t b' t' ((rn_inj hr1).symm.trans i1) ((rn_inj hr2).symm.trans i2)
  ·simp at e
theorem look_mapk {s:Slot} {g:Slot→Blk→Blk} {k':Blk}:∀ {l:List (Slot×Blk)},look s (l.map fun x=>(x.1,g x.1 x.2))=some k'→∃ k,look s l=some k∧k'=g s k
 | [],h=>by simp [look] at h
 | (r,k) :: l,h=>by
  simp only [List.map_cons,look] at h ⊢
  split at h
  ·rename_i e;simp at h;subst e;exact ⟨k,by simp,h.symm⟩
  ·rename_i e;rw [if_neg e];exact look_mapk h
theorem trim_ok {s:Slot} {n:Nat} {F:Fr} (h:St N w0 ι S F.ff a w):St N w0 ι S (F.trim s n).ff a w:=by
 have get:∀ {t:Slot} {k':Blk},(F.trim s n).ff.blk t=some k'→∃ k,F.blk t=some k∧k'=if t=s then k.trim n else k:=fun q=>look_mapk (g:=fun r k=>if r=s then k.trim n else k) q
 refine ⟨h.nt,h.nb,h.fix,h.df,h.ob,h.keep,h.sle,h.snew,h.snap,h.vars,?_,?_,?_⟩
 ·intro t k' q
  obtain ⟨k,q1,rfl⟩:=get q
  have hb:=h.mem t k q1
  split
  ·cases k with
   | box cells=>exact hb
   | sl e sz rows=>
    obtain ⟨hwf,hm⟩:=hb
    have hg:∀ (i:Nat) (r:List PV),(rows.take n)[i]?=some r→rows[i]?=some r:=by
     intro i r q
     rw [List.getElem?_take] at q
     split at q
     ·exact q
     ·simp at q
    refine ⟨fun i row q=>hwf i row (hg i row q),hm.imp (fun ⟨a1,a2⟩=>⟨a1,by simp only [Blk.nrows,Blk.trim,List.length_take] at a2 ⊢;omega⟩) fun ⟨b,total,t',c,e1,e2,e3,e4,e5,e6,e7⟩=>⟨b,total,t',c,e1,e2,e3,e4,by simp only [Blk.nrows,Blk.trim,List.length_take] at e5 ⊢;omega,e6,fun i j av q=>e7 i j av ?_⟩⟩
    simp only [Blk.trim,Blk.cell,Option.map_eq_some_iff,Option.bind_eq_some_iff] at q ⊢
    obtain ⟨p,⟨r,r1,r2⟩,r3⟩:=q
    exact ⟨p,⟨r,hg i r r1,r2⟩,r3⟩
  ·exact hb
 ·intro t k' q b t' hi
  obtain ⟨k,q1,-⟩:=get q
  exact h.own t k q1 b t' hi
 ·intro t1 t2 k1 k2 q1 q2
  obtain ⟨c1,g1,-⟩:=get q1
  obtain ⟨c2,g2,-⟩:=get q2
  exact h.sep t1 t2 c1 c2 g1 g2
theorem ownC_ok {b s':Slot} {j:Nat} {e0:TypeId} {size:Nat} {F:Fr} {cells:List AV} (h:St N w0 ι S F.ff a w) (hb:F.blk b=some (.box cells)) (hj:cells[j]?=some (.p .nsl)) (hn:F.noSlot s'=true) (hx:s'.1<1000000∨s'.2≠0) :
  ∃ ι' S',St N w0 ι' S' (Fr.ff ⟨F.vars,(s',.sl e0 size []) :: F.mem.map fun x=>(x.1,if x.1=b then .box (cells.set j (.ref s' size 0 0)) else x.2)⟩) a w:=by
 have hnf:¬fixS s':=fun q=>by have h1:=q.1;have h2:=q.2;simp only [BIG] at h1;omega
 have hf:=Fr.noSlot_ff hn
 have h1:=h.step (ι':=setι ι s' none) s' (Keep.refl w) (fun _ _ q=>q) h.snap (fun x v q=>.inl q) (fun s hs=>setι_ne hs) hf hnf
 have h2:=h1.lay s' (.sl e0 size []) ⟨by intro i row q;simp at q,.inl ⟨setι_eq,rfl⟩⟩ (fun b t q=>by rw [setι_eq] at q;simp at q)
 have get:∀ {t:Slot} {k':Blk},look t ((s',Blk.sl e0 size []) :: F.mem.map fun x=>(x.1,if x.1=b then .box (cells.set j (.ref s' size 0 0)) else x.2))=some k'→(t=s'∧k'=.sl e0 size [])∨(t≠s'∧∃ k,F.blk t=some k∧k'=if t=b then .box (cells.set j (.ref s' size 0 0)) else k):=by
  intro t k' q
  simp only [look] at q
  split at q
  ·rename_i e;simp at q;exact .inl ⟨e,q.symm⟩
  ·rename_i e;exact .inr ⟨e,look_mapk (g:=fun r k=>if r=b then .box (cells.set j (.ref s' size 0 0)) else k) q⟩
 have lift:∀ {t:Slot} {k:Blk},t≠s'→F.blk t=some k→(if t=s' then some (Blk.sl e0 size []) else look t F.mem)=some k:=fun h1 h2=>by rw [if_neg h1];exact h2
 refine ⟨setι ι s' none,S,h2.nt,h2.nb,h2.fix,h2.df,h2.ob,h2.keep,h2.sle,h2.snew,h2.snap,h2.vars,?_,?_,?_⟩
 ·intro t k' q
  rcases get q with ⟨rfl,rfl⟩ | ⟨hne,k,q1,rfl⟩
  ·exact h2.mem t _ (by show (if t=t then _ else _)=_;simp)
  ·have hm:=h2.mem t k (lift hne q1)
   split
   ·rename_i e;subst e
    rw [hb] at q1
    obtain rfl:=Option.some.inj q1
    obtain ⟨hwf,hm⟩:=hm
    refine ⟨trivial,hm.imp id fun ⟨b,total,t',c,e1,e2,e3,e4,e5,e6,e7⟩=>⟨b,total,t',c,e1,e2,e3,by simpa [Blk.size] using e4,e5,e6,fun i j' av q=>?_⟩⟩
    simp only [Blk.cell] at q
    split at q
    ·rename_i hi;subst hi
     rw [List.getElem?_set] at q
     split at q
     ·rename_i hjj;subst hjj
      split at q
      ·simp at q;subst q
       obtain ⟨v,v1,v2⟩:=e7 0 j (.p .nsl) (by simp [Blk.cell,hj])
       refine ⟨v,by simpa [Blk.size] using v1,?_⟩
       cases v2.inv_p
       exact .refnil s' size setι_eq
      ·simp at q
     ·obtain ⟨v,v1,v2⟩:=e7 0 j' av (by simp [Blk.cell,q])
      exact ⟨v,by simpa [Blk.size] using v1,v2⟩
    ·simp at q
   ·exact hm
 ·intro t k' q b' t' hi
  rcases get q with ⟨rfl,rfl⟩ | ⟨hne,k,q1,rfl⟩
  ·rw [setι_eq] at hi;simp at hi
  ·exact h2.own t k (lift hne q1) b' t' hi
 ·intro t1 t2 k1 k2 q1 q2 hne b1 c1 b2 c2 i1 i2
  rcases get q1 with ⟨rfl,rfl⟩ | ⟨hne1,k1',g1,rfl⟩
  ·rw [setι_eq] at i1;simp at i1
  ·rcases get q2 with ⟨rfl,rfl⟩ | ⟨hne2,k2',g2,rfl⟩
   ·rw [setι_eq] at i2;simp at i2
   ·exact h2.sep t1 t2 k1' k2' (lift hne1 g1) (lift hne2 g2) hne b1 c1 b2 c2 i1 i2
theorem nsl_any {S:Snap} {v:Value} {n:Nat} (h:PRel S .nsl v):PRel S (.sl n []) v:=by
 cases h
 exact .sl n [] none 0 (fun _ _=>undef) (Nat.le_refl _) (by simp) (by simp) (by simp)
theorem ghost_ok {g:Ghost} {F F':Fr} (h:St N w0 ι S F.ff a w) (e:g.app F=some F'):∃ ι' S',St N w0 ι' S' F'.ff a w:=by
 cases g with
 | keep vs=>
  simp only [Ghost.app,Option.some.injEq] at e
  subst e
  refine ⟨ι,S,h.weaken ⟨fun t v q=>look_filterMap (f:=F.var) q,fun s k q=>?_⟩⟩
  have q':look s (normM (F.mem.filter fun x=>F.spoken (vs.filterMap fun t=>(F.var t).map (t,·)) x.1))=some k:=q
  rw [look_normM,look_filter (fun s=>F.spoken (vs.filterMap fun t=>(F.var t).map (t,·)) s)] at q'
  split at q'
  ·exact q'
  ·simp at q'
 | own t d e0 size=>
  simp only [Ghost.app] at e
  split at e
  ·rename_i hv
   split at e
   ·rename_i hns
    simp only [Option.some.injEq] at e
    subst e
    obtain ⟨x,x1,x2⟩:=h.vars t _ hv
    have hx:x=.slice none 0 0:=by cases x2.inv_p;rfl
    subst hx
    have h1:=h.step (ι':=setι ι (d,0) none) (d,0) (Keep.refl w) (fun _ _ q=>q) h.snap (fun x v q=>.inl q) (fun s hs=>setι_ne hs) (Fr.noSlot_ff hns.1) (not_fix hns.2)
    have h2:=h1.lay (d,0) (.sl e0 size []) ⟨by intro i row q;simp at q,.inl ⟨setι_eq,rfl⟩⟩ (fun b t q=>by rw [setι_eq] at q;simp at q)
    refine ⟨setι ι (d,0) none,S,h2.nt,h2.nb,h2.fix,h2.df,h2.ob,h2.keep,h2.sle,h2.snew,h2.snap,fun t' v q=>?_,fun s k q=>?_,fun s k q=>?_,fun s s' k k' q q'=>?_⟩
    ·have q':(if t'=t then some (AV.ref (d,0) size 0 0) else look t' F.vars)=some v:=q
     split at q'
     ·rename_i ht;subst ht;simp at q';subst q';exact ⟨_,x1,.refnil _ _ setι_eq⟩
     ·exact h2.vars t' v q'
    ·exact h2.mem s k (by have q':(if s=(d,0) then some (Blk.sl e0 size []) else look s F.mem)=some k:=q;exact q')
    ·exact h2.own s k (by have q':(if s=(d,0) then some (Blk.sl e0 size []) else look s F.mem)=some k:=q;exact q')
    ·exact h2.sep s s' k k' (by have q1:(if s=(d,0) then some (Blk.sl e0 size []) else look s F.mem)=some k:=q;exact q1) (by have q1:(if s'=(d,0) then some (Blk.sl e0 size []) else look s' F.mem)=some k':=q';exact q1)
   ·simp at e
  ·simp at e;subst e;exact ⟨ι,S,h⟩
  ·simp at e
 | freeze s=>
  have main:∀ (t:TypeId) (sz:Nat) (rows:List (List PV)) (k0:Blk) (hb:F.blk s=some k0) (hbr:BRel ι S w s (.sl t sz rows)),
    ∃ ι' S',St N w0 ι' S' (Fr.ff ⟨F.vars.map fun x=>(x.1,x.2.fz s sz rows),(F.mem.filter fun x=>decide (x.1≠s)).map fun x=>(x.1,x.2.fz s sz rows)⟩) a w:=by
   intro t sz rows k0 hb hbr
   let S':Snap:=fun x=>match ι s with
    | some (b,_)=>if x.block=b then w.cell? x else S x
    | none=>S x
   have hown:=fun b t hi=>(h.own s _ hb b t hi).2
   have hS:S.le S':=by
    intro x v q
    show (match ι s with | some (b,_)=>if x.block=b then w.cell? x else S x | none=>S x)=some v
    split
    ·rename_i b t hi
     split
     ·rename_i hx;rw [hown b t hi x hx] at q;simp at q
     ·exact q
    ·exact q
   have hS1:∀ b t,ι s=some (b,t)→∀ x:Addr,x.block=b→S' x=w.cell? x:=by
    intro b t hi x hx
    show (match ι s with | some (b,_)=>if x.block=b then w.cell? x else S x | none=>S x)=_
    rw [hi];simp [hx]
   have hS2:∀ x v,S' x=some v→w.cell? x=some v:=by
    intro x v q
    have q':(match ι s with | some (b,_)=>if x.block=b then w.cell? x else S x | none=>S x)=some v:=q
    split at q'
    ·split at q'
     ·exact q'
     ·exact h.snap x v q'
    ·exact h.snap x v q'
   have hS3:∀ x:Addr,(∀ b t,ι s=some (b,t)→x.block≠b)→S' x=S x:=by
    intro x hx
    show (match ι s with | some (b,_)=>if x.block=b then w.cell? x else S x | none=>S x)=_
    split
    ·rename_i b t hi;rw [if_neg (hx b t hi)]
    ·rfl
   have hblk:∀ (s':Slot) (k':Blk),look s' ((F.mem.filter fun x=>decide (x.1≠s)).map fun x=>(x.1,x.2.fz s sz rows))=some k' →
     s'≠s∧∃ k,F.blk s'=some k∧k'=k.fz s sz rows:=by
    intro s' k' q
    obtain ⟨k,q1,q2⟩:=look_map (g:=fun k:Blk=>k.fz s sz rows) q
    rw [look_filter (fun x=>decide (x≠s))] at q1
    split at q1
    ·rename_i hs;exact ⟨by simpa using hs,k,q1,q2.symm⟩
    ·simp at q1
   have hS4:∀ x v,S' x=some v→w0.S x=some v∨w0.w.heap.size≤x.block∨w0.M x.block:=by
    intro x v q
    have q':(match ι s with | some (b,_)=>if x.block=b then w.cell? x else S x | none=>S x)=some v:=q
    split at q'
    ·rename_i b t hi
     split at q'
     ·rename_i hx;rw [hx];exact .inr (h.own s _ hb b t hi).1
     ·exact h.snew x v q'
    ·exact h.snew x v q'
   refine ⟨ι,S',⟨h.nt,h.nb,h.fix,h.df,h.ob,h.keep,fun x v q=>hS x v (h.sle x v q),hS4,hS2,?_,?_,?_,?_⟩⟩
   ·intro t v q
    obtain ⟨u,q1,q2⟩:=look_map (g:=fun v:AV=>v.fz s sz rows) q
    obtain ⟨x,x1,x2⟩:=h.vars t u q1
    exact ⟨x,x1,q2 ▸ fz_rel hS hbr hS1 x2⟩
   ·intro s' k' q
    obtain ⟨hne,k,q1,rfl⟩:=hblk s' k' q
    obtain ⟨hwf,hm⟩:=h.mem s' k q1
    cases k with
    | sl e' sz' rows'=>
     exact ⟨hwf,hm.imp id fun ⟨b,total,t',c,e1,e2,e3,e4,e5,e6,e7⟩=>⟨b,total,t',c,e1,e2,e3,e4,e5,e6,fun i j av q=>let ⟨v,v1,v2⟩:=e7 i j av q;⟨v,v1,v2.mono hS⟩⟩⟩
    | box cells=>
     refine ⟨trivial,hm.imp id fun ⟨b,total,t',c,e1,e2,e3,e4,e5,e6,e7⟩=>⟨b,total,t',c,e1,e2,e3,by simpa [Blk.fz,Blk.size,fzL_len] using e4,e5,e6,fun i j av q=>?_⟩⟩
     simp only [Blk.fz,Blk.cell] at q
     split at q
     ·rename_i hi0;subst hi0
      obtain ⟨u,u1,rfl⟩:=fzL_get q
      obtain ⟨v,v1,v2⟩:=e7 0 j u (by simp [Blk.cell,u1])
      exact ⟨v,by simpa using v1,fz_rel hS hbr hS1 v2⟩
     ·simp at q
   ·intro s' k' q b t hi
    obtain ⟨hne,k,q1,rfl⟩:=hblk s' k' q
    obtain ⟨g1,g2⟩:=h.own s' k q1 b t hi
    refine ⟨g1,fun x hx=>?_⟩
    rw [hS3 x (fun b' t' hi'=>by rw [hx];exact h.sep s' s k _ q1 hb hne b t b' t' hi hi')]
    exact g2 x hx
   ·intro s1 s2 k1 k2 q1 q2 hne b t b' t' i1 i2
    obtain ⟨_,k1',g1,_⟩:=hblk s1 k1 q1
    obtain ⟨_,k2',g2,_⟩:=hblk s2 k2 q2
    exact h.sep s1 s2 k1' k2' g1 g2 hne b t b' t' i1 i2
  simp only [Ghost.app] at e
  split at e
  ·rename_i t sz rows hb
   simp only [Option.some.injEq] at e
   subst e
   exact main t sz rows _ hb (h.mem s _ hb)
  ·rename_i cells hb
   split at e
   ·rename_i ps hps
    simp only [Option.some.injEq] at e
    subst e
    obtain rfl:=allP_eq hps
    obtain ⟨hwf,hm⟩:=h.mem s _ hb
    have hbl:∃ t,BRel ι S w s (.sl t ps.length [ps]):=by
     rcases hm with ⟨q,q2⟩ | ⟨b,total,e',c,e1,e2,e3,e4,e5,e6,e7⟩
     ·simp [Blk.nrows] at q2
     ·refine ⟨e',⟨fun i row hr=>?_,.inr ⟨b,total,e',c,e1,e2,rfl,by simpa [Blk.size] using e4,by simpa [Blk.nrows] using e5,e6,fun i j av q=>?_⟩⟩⟩
      ·cases i with
       | zero=>simp at hr;rw [←hr]
       | succ i=>simp at hr
      ·cases i with
       | zero=>
        simp only [Blk.cell,List.getElem?_cons_zero,Option.bind_some,Option.map_eq_some_iff] at q
        obtain ⟨pv,q1,rfl⟩:=q
        have:=e7 0 j (.p pv) (by simp [Blk.cell,q1])
        simpa [Blk.size] using this
       | succ i=>simp [Blk.cell] at q
    obtain ⟨t,hbr⟩:=hbl
    exact main t ps.length [ps] _ hb hbr
   ·simp only [Option.some.injEq] at e
    subst e
    exact ⟨ι,S,h⟩
  ·simp only [Option.some.injEq] at e
   subst e
   exact ⟨ι,S,h⟩
 | ren s s'=>exact renF_ok h e
 | canV t s'=>
  simp only [Ghost.app] at e
  split at e
  ·simp only [Option.map_eq_some_iff] at e
   obtain ⟨G,g1,rfl⟩:=e
   obtain ⟨ι',S',hst⟩:=renF_ok h g1
   exact ⟨ι',S',trim_ok hst⟩
  ·simp at e;subst e;exact ⟨ι,S,h⟩
 | canC b j s'=>
  simp only [Ghost.app] at e
  split at e
  ·split at e
   ·simp only [Option.map_eq_some_iff] at e
    obtain ⟨G,g1,rfl⟩:=e
    obtain ⟨ι',S',hst⟩:=renF_ok h g1
    exact ⟨ι',S',trim_ok hst⟩
   ·simp at e;subst e;exact ⟨ι,S,h⟩
  ·simp at e;subst e;exact ⟨ι,S,h⟩
 | ownC b j s' e0 size=>
  simp only [Ghost.app] at e
  split at e
  ·rename_i cells hb
   split at e
   ·rename_i hj
    split at e
    ·rename_i hq
     simp only [Option.some.injEq] at e
     subst e
     exact ownC_ok h hb hj hq.1 hq.2
    ·simp at e
   ·simp at e;subst e;exact ⟨ι,S,h⟩
  ·simp at e;subst e;exact ⟨ι,S,h⟩
 | zsl t size=>
  simp only [Ghost.app] at e
  split at e
  ·rename_i hv
   simp only [Option.some.injEq] at e
   subst e
   refine ⟨ι,S,⟨h.nt,h.nb,h.fix,h.df,h.ob,h.keep,h.sle,h.snew,h.snap,fun t' v q=>?_,h.mem,h.own,h.sep⟩⟩
   have q':(if t'=t then some (AV.p (.sl size [])) else look t' F.vars)=some v:=q
   split at q'
   ·rename_i ht;subst ht
    obtain ⟨x,x1,x2⟩:=h.vars t' _ hv
    simp at q';subst q'
    exact ⟨x,x1,.p _ _ (nsl_any x2.inv_p)⟩
   ·exact h.vars t' v q'
  ·simp at e;subst e;exact ⟨ι,S,h⟩
 | zslC b j size=>
  simp only [Ghost.app] at e
  split at e
  ·rename_i cells hb
   split at e
   ·rename_i hj
    simp only [Option.some.injEq] at e
    subst e
    have get:∀ {t:Slot} {k':Blk},look t (F.mem.map fun x=>(x.1,if x.1=b then Blk.box (cells.set j (.p (.sl size []))) else x.2))=some k'→∃ k,F.blk t=some k∧k'=if t=b then .box (cells.set j (.p (.sl size []))) else k:=fun q=>look_mapk (g:=fun r k=>if r=b then .box (cells.set j (.p (.sl size []))) else k) q
    refine ⟨ι,S,⟨h.nt,h.nb,h.fix,h.df,h.ob,h.keep,h.sle,h.snew,h.snap,h.vars,fun t k' q=>?_,fun t k' q b' t' hi=>?_,fun t1 t2 k1 k2 q1 q2=>?_⟩⟩
    ·obtain ⟨k,q1,rfl⟩:=get q
     have hm:=h.mem t k q1
     split
     ·rename_i e;subst e
      rw [hb] at q1
      obtain rfl:=Option.some.inj q1
      obtain ⟨hwf,hm⟩:=hm
      refine ⟨trivial,hm.imp id fun ⟨b,total,t',c,e1,e2,e3,e4,e5,e6,e7⟩=>⟨b,total,t',c,e1,e2,e3,by simpa [Blk.size] using e4,e5,e6,fun i j' av q=>?_⟩⟩
      simp only [Blk.cell] at q
      split at q
      ·rename_i hi;subst hi
       rw [List.getElem?_set] at q
       split at q
       ·rename_i hjj;subst hjj
        split at q
        ·simp at q;subst q
         obtain ⟨v,v1,v2⟩:=e7 0 j (.p .nsl) (by simp [Blk.cell,hj])
         exact ⟨v,by simpa [Blk.size] using v1,.p _ _ (nsl_any v2.inv_p)⟩
        ·simp at q
       ·obtain ⟨v,v1,v2⟩:=e7 0 j' av (by simp [Blk.cell,q])
        exact ⟨v,by simpa [Blk.size] using v1,v2⟩
      ·simp at q
     ·exact hm
    ·obtain ⟨k,q1,-⟩:=get q
     exact h.own t k q1 b' t' hi
    ·obtain ⟨c1,g1,-⟩:=get q1
     obtain ⟨c2,g2,-⟩:=get q2
     exact h.sep t1 t2 c1 c2 g1 g2
   ·simp at e;subst e;exact ⟨ι,S,h⟩
  ·simp at e;subst e;exact ⟨ι,S,h⟩
end
end Go.Abs
namespace Go.Abs
open Go
set_option linter.unusedSimpArgs false
set_option linter.unusedVariables false
section
variable {P:Program} {F G:FF}
theorem bind_mono {α β:Type} {x y:Option α} {f g:α→Option β} {b:β} (h:x.bind f=some b) (hx:∀ a,x=some a→y=some a) (hf:∀ a,f a=some b→g a=some b):y.bind g=some b:=by
 simp only [Option.bind_eq_some_iff] at h ⊢
 obtain ⟨a,h1,h2⟩:=h
 exact ⟨a,hx a h1,hf a h2⟩
theorem vals_mono (h:F.le G):∀ {l:List Opd} {vs:List AV},F.vals l=some vs→G.vals l=some vs
 | [],vs,e=>e
 | x :: l,vs,e=>by
  simp only [FF.vals] at e ⊢
  split at e
  ·rename_i v vs' e1 e2
   rw [FF.val_mono h e1,vals_mono h e2];exact e
  ·simp at e
theorem parts_mono (h:F.le G):∀ {l:List (Nat×Nat×Opd)} {r:List (Nat×List AV)},F.parts l=some r→G.parts l=some r
 | [],r,e=>e
 | (off,n,x) :: l,r,e=>by
  simp only [FF.parts] at e ⊢
  split at e
  ·rename_i cs r' e1 e2
   rw [bind_mono e1 (fun a q=>FF.val_mono h q) (fun a q=>q),parts_mono h e2];exact e
  ·simp at e
theorem bound_mono (h:F.le G) {d:Nat} {o:Option Opd} {l:Int} (e:boundO F d o=some l):boundO G d o=some l:=by
 cases o with
 | none=>exact e
 | some x=>exact bind_mono e (fun a q=>FF.val_mono h q) (fun a q=>q)
theorem int_mono (h:F.le G) {o:Opd} {l:Int} (e:(F.val o).bind intO=some l):(G.val o).bind intO=some l:=bind_mono e (fun a q=>FF.val_mono h q) (fun a q=>q)
theorem rows_mono (h:F.le G) {size:Nat} {x:AV} {r:List (List PV)} (e:F.rows size x=some r):G.rows size x=some r:=by
 unfold FF.rows at e ⊢
 split at e
 ·exact e
 ·exact e
 ·rename_i s sz off len
  split at e
  ·rename_i e0 sz' rows hb
   rw [h.2 _ _ hb];exact e
  ·simp at e
 ·simp at e
theorem evV_mono (h:F.le G) {op:AOp} {v:AV} (e:evV F op=some v):evV G op=some v:=by
 cases op with
 | mov x=>exact FF.val_mono h e
 | pick c x y=>
  simp only [evV] at e ⊢
  split at e
  ·rename_i t va vb e1 e2 e3
   rw [FF.val_mono h e1,FF.val_mono h e2,FF.val_mono h e3];exact e
  ·simp at e
 | build z ps=>exact bind_mono e (fun a q=>parts_mono h q) (fun a q=>q)
 | load b n x=>exact bind_mono e (fun a q=>FF.val_mono h q) (fun a q=>bind_mono q (fun c q'=>FF.read_mono h q') (fun c q'=>q'))
 | nilck x=>
  simp only [evV] at e ⊢
  split at e
  ·rename_i e1;rw [FF.val_mono h e1];exact e
  ·rename_i e1;rw [FF.val_mono h e1];exact e
  ·simp at e
 | bin op x y=>
  simp only [evV] at e ⊢
  split at e
  ·rename_i e1 e2;rw [FF.val_mono h e1,FF.val_mono h e2];exact e
  ·simp at e
 | eqb n x y=>
  simp only [evV] at e ⊢
  split at e
  ·rename_i e1 e2;rw [FF.val_mono h e1,FF.val_mono h e2];exact e
  ·simp at e
 | eqs n m ls x y=>
  simp only [evV] at e ⊢
  split at e
  ·rename_i e1 e2;rw [FF.val_mono h e1,FF.val_mono h e2];exact e
  ·simp at e
 | un op x=>exact bind_mono e (fun a q=>FF.val_mono h q) (fun a q=>q)
 | conv k x=>
  simp only [evV] at e ⊢
  split at e
  ·rename_i e1;rw [FF.val_mono h e1];exact e
  ·simp at e
 | mkfn fn f c=>
  simp only [evV] at e ⊢
  split at e
  ·rename_i e1 e2;rw [vals_mono h e1,vals_mono h e2];exact e
  ·simp at e
 | slcS x lo hi=>
  simp only [evV] at e ⊢
  split at e
  ·rename_i e1
   rw [FF.val_mono h e1]
   split at e
   ·rename_i e2 e3;dsimp only;rw [bound_mono h e2,bound_mono h e3];exact e
   ·simp at e
  ·simp at e
 | slcV n x lo hi=>
  simp only [evV] at e ⊢
  split at e
  ·rename_i e1
   rw [FF.val_mono h e1]
   split at e
   ·rename_i e2 e3;dsimp only;rw [bound_mono h e2,bound_mono h e3];exact e
   ·simp at e
  ·rename_i e1
   rw [FF.val_mono h e1]
   split at e
   ·rename_i e2 e3;dsimp only;rw [bound_mono h e2,bound_mono h e3];exact e
   ·simp at e
  ·rename_i e1
   rw [FF.val_mono h e1]
   split at e
   ·rename_i e2 e3;dsimp only;rw [bound_mono h e2,bound_mono h e3];exact e
   ·simp at e
  ·simp at e
 | faddr off x=>
  simp only [evV] at e ⊢
  split at e
  ·rename_i e1;rw [FF.val_mono h e1];exact e
  ·rename_i e1;rw [FF.val_mono h e1];exact e
  ·simp at e
 | field off b n x=>exact bind_mono e (fun a q=>bind_mono q (fun c q'=>FF.val_mono h q') (fun c q'=>q')) (fun a q=>q)
 | iaddr n x i=>
  simp only [evV] at e ⊢
  split at e
  ·rename_i e1 e2;rw [FF.val_mono h e1,int_mono h e2];exact e
  ·rename_i e1 e2;rw [FF.val_mono h e1,int_mono h e2];exact e
  ·simp at e
 | iaddrA n m x i=>
  simp only [evV] at e ⊢
  split at e
  ·rename_i e1 e2;rw [FF.val_mono h e1,int_mono h e2];exact e
  ·rename_i e1 e2;rw [FF.val_mono h e1,int_mono h e2];exact e
  ·simp at e
 | idxS x i=>
  simp only [evV] at e ⊢
  split at e
  ·rename_i e1 e2;rw [FF.val_mono h e1,int_mono h e2];exact e
  ·simp at e
 | idxA n b len x i=>
  simp only [evV] at e ⊢
  split at e
  ·rename_i e1 e2;rw [bind_mono e1 (fun a q=>FF.val_mono h q) (fun a q=>q),int_mono h e2];exact e
  ·simp at e
 | ext x i=>
  simp only [evV] at e ⊢
  split at e
  ·rename_i e1;rw [FF.val_mono h e1];exact e
  ·rename_i e1;rw [FF.val_mono h e1];exact e
  ·simp at e
 | len b x=>
  simp only [evV,Option.map_eq_some_iff] at e ⊢
  obtain ⟨n,e1,e2⟩:=e
  exact ⟨n,bind_mono e1 (fun a q=>FF.val_mono h q) (fun a q=>q),e2⟩
 | mm b x y=>
  simp only [evV] at e ⊢
  split at e
  ·rename_i e1 e2;rw [FF.val_mono h e1,FF.val_mono h e2];exact e
  ·simp at e
 | mm3 b x y z=>
  simp only [evV] at e ⊢
  split at e
  ·rename_i e1 e2 e3;rw [FF.val_mono h e1,FF.val_mono h e2,FF.val_mono h e3];exact e
  ·simp at e
 | nilsl neg x=>
  simp only [evV] at e ⊢
  split at e
  ·rename_i e1;rw [FF.val_mono h e1];exact e
  ·rename_i e1;rw [FF.val_mono h e1];exact e
  ·rename_i e1;rw [FF.val_mono h e1];exact e
  ·simp at e
 | _=>simp [evV] at e
theorem evN_mono (h:F.le G) {op:AOp} {d:Nat} {v:AV×Blk} (e:evN F d op=some v):evN G d op=some v:=by
 cases op with
 | alloc z=>exact e
 | allocR e' z=>exact e
 | box x=>
  simp only [evN,Option.map_eq_some_iff] at e ⊢
  obtain ⟨cs,e1,e2⟩:=e
  exact ⟨cs,bind_mono e1 (fun a q=>FF.val_mono h q) (fun a q=>q),e2⟩
 | bslice t n l z ps=>exact bind_mono e (fun a q=>parts_mono h q) (fun a q=>q)
 | mksl t n b z l c=>
  simp only [evN] at e ⊢
  split at e
  ·rename_i e1 e2;rw [FF.val_mono h e1,FF.val_mono h e2];exact e
  ·simp at e
 | _=>simp [evN] at e
theorem evS_mono (h:F.le G) {op:AOp} {v:Slot×Blk} (e:evS F op=some v):evS G op=some v:=by
 cases op with
 | store n x y=>
  simp only [evS] at e ⊢
  split at e
  ·rename_i s size row off cs e1 e2
   rw [FF.val_mono h e1,bind_mono e2 (fun a q=>FF.val_mono h q) (fun a q=>q)]
   dsimp only
   split at e
   ·rename_i hc
    rw [if_pos hc]
    cases hb:F.blk s with
    | none=>simp [hb] at e
    | some k=>rw [hb] at e;rw [h.2 _ _ hb];exact e
   ·simp at e
  ·simp at e
 | _=>simp [evS] at e
theorem evA_mono (h:F.le G) {op:AOp} {d:Nat} {v:AV×Slot×Blk×List Slot} (e:evA F d op=some v):evA G d op=some v:=by
 cases op with
 | app t n b s x=>
  simp only [evA] at e ⊢
  split at e
  ·rename_i e1 e2
   rw [FF.val_mono h e1,bind_mono e2 (fun a q=>FF.val_mono h q) (fun a q=>rows_mono h q)];exact e
  ·rename_i s0 sz k new e1 e2
   rw [FF.val_mono h e1,bind_mono e2 (fun a q=>FF.val_mono h q) (fun a q=>rows_mono h q)]
   cases hb:F.blk s0 with
   | none=>simp [hb] at e
   | some k=>rw [hb] at e;simp only [h.2 _ _ hb];exact e
  ·simp at e
 | _=>simp [evA] at e
theorem evC_mono (h:F.le G) {op:AOp} {v:AV×List (Slot×Blk)} (e:evC F op=some v):evC G op=some v:=by
 cases op with
 | b2s x=>
  simp only [evC,Option.map_eq_some_iff] at e ⊢
  obtain ⟨ns,e1,e2⟩:=e
  exact ⟨ns,bind_mono e1 (fun a q=>bind_mono q (fun b q=>FF.val_mono h q) (fun b q=>rows_mono h q)) (fun a q=>q),e2⟩
 | s2b t x=>
  simp only [evC] at e ⊢
  split at e
  ·rename_i e1;rw [FF.val_mono h e1];exact e
  ·simp at e
 | cpy n x y=>
  simp only [evC] at e ⊢
  split at e
  ·rename_i s0 sz m new e1 e2
   rw [FF.val_mono h e1,bind_mono e2 (fun a q=>FF.val_mono h q) (fun a q=>rows_mono h q)]
   cases hb:F.blk s0 with
   | none=>simp [hb] at e
   | some k=>rw [hb] at e;simp only [h.2 _ _ hb];exact e
  ·simp at e
 | _=>simp [evC] at e
theorem evDel_mono (h:F.le G) {op:AOp} {d:Nat} {δ:Del} (e:evDel F d op=some δ):evDel G d op=some δ:=by
 have mp:∀ {α β:Type} {x y:Option α} {f:α→β} {b:β},x.map f=some b→(∀ a,x=some a→y=some a)→y.map f=some b:=by
  intro α β x y f b hx hxy
  simp only [Option.map_eq_some_iff] at hx ⊢
  obtain ⟨a,q1,q2⟩:=hx
  exact ⟨a,hxy a q1,q2⟩
 cases op with
 | alloc z=>simp only [evDel] at e ⊢;exact mp e fun a q=>evN_mono h q
 | allocR e' z=>simp only [evDel] at e ⊢;exact mp e fun a q=>evN_mono h q
 | box x=>simp only [evDel] at e ⊢;exact mp e fun a q=>evN_mono h q
 | bslice t n l z ps=>simp only [evDel] at e ⊢;exact mp e fun a q=>evN_mono h q
 | mksl t n b z l c=>simp only [evDel] at e ⊢;exact mp e fun a q=>evN_mono h q
 | store n x v=>simp only [evDel] at e ⊢;exact mp e fun a q=>evS_mono h q
 | app t n b s x=>simp only [evDel] at e ⊢;exact mp e fun a q=>evA_mono h q
 | b2s x=>simp only [evDel] at e ⊢;exact mp e fun a q=>evC_mono h q
 | s2b t x=>simp only [evDel] at e ⊢;exact mp e fun a q=>evC_mono h q
 | cpy n x y=>simp only [evDel] at e ⊢;exact mp e fun a q=>evC_mono h q
 | _=>simp only [evDel] at e ⊢;exact mp e fun a q=>evV_mono h q
theorem mapM_mono {α β:Type} {f g:α→Option β} (h:∀ a b,f a=some b→g a=some b):∀ {l:List α} {r:List β},l.mapM f=some r→l.mapM g=some r
 | [],r,e=>by simpa using e
 | x :: l,r,e=>by
  simp only [List.mapM_cons,Option.bind_eq_bind,Option.bind_eq_some_iff,Option.pure_def,Option.some.injEq] at e ⊢
  obtain ⟨y,h1,ys,h2,rfl⟩:=e
  exact ⟨y,h x y h1,ys,mapM_mono h h2,rfl⟩
theorem reify_mono (h:F.le G):∀ (n:Nat) {v:AV} {p:PV},F.reify n v=some p→G.reify n v=some p
 | 0,v,p,e=>by
  cases v with
  | ref s size off len=>
   simp only [FF.reify,Option.map_eq_some_iff] at e ⊢
   obtain ⟨r,e1,e2⟩:=e
   exact ⟨r,rows_mono h e1,e2⟩
  | _=>first | exact e | (simp [FF.reify] at e)
 | n+1,v,p,e=>by
  cases v with
  | p q=>exact e
  | ref s size off len=>
   simp only [FF.reify,Option.map_eq_some_iff] at e ⊢
   obtain ⟨r,e1,e2⟩:=e
   exact ⟨r,rows_mono h e1,e2⟩
  | ptr s size row off=>
   simp only [FF.reify] at e ⊢
   cases hb:F.blk s with
   | none=>simp [hb] at e
   | some k=>
    rw [hb] at e
    rw [h.2 _ _ hb]
    cases k with
    | sl t sz rows=>exact e
    | box cells=>
     dsimp only at e ⊢
     split at e
     ·rename_i hc
      rw [if_pos hc]
      simp only [Option.map_eq_some_iff] at e ⊢
      obtain ⟨ps,e1,e2⟩:=e
      exact ⟨ps,mapM_mono (fun a b q=>reify_mono h n q) e1,e2⟩
     ·simp at e
  | agg cells=>
   simp only [FF.reify,Option.map_eq_some_iff] at e ⊢
   obtain ⟨ps,e1,e2⟩:=e
   exact ⟨ps,mapM_mono (fun a b q=>reify_mono h n q) e1,e2⟩
  | tup cells=>
   simp only [FF.reify,Option.map_eq_some_iff] at e ⊢
   obtain ⟨ps,e1,e2⟩:=e
   exact ⟨ps,mapM_mono (fun a b q=>reify_mono h n q) e1,e2⟩
  | clo fn f c=>
   simp only [FF.reify] at e ⊢
   split at e
   ·rename_i e1 e2
    rw [mapM_mono (fun a b q=>reify_mono h n q) e1,mapM_mono (fun a b q=>reify_mono h n q) e2];exact e
   ·simp at e
  | top=>simp [FF.reify] at e
theorem exCall_mono (h:F.le G) {d:Nat} {f:FuncId} {vs:List AV} {δ:Del} (e:exCall P F d f vs δ):exCall P G d f vs δ:=by
 rcases e with e | ⟨ps,v,e1,e2⟩ | ⟨M0,K,v,M1,e1,e2⟩ | ⟨ps,e0,sz,rows,e1,e2⟩
 ·exact .inl e
 ·exact .inr (.inl ⟨ps,v,mapM_mono (fun a b q=>reify_mono h 4 q) e1,e2⟩)
 ·exact .inr (.inr (.inl ⟨M0,K,v,M1,fun s k q=>h.2 s k (e1 s k q),e2⟩))
 ·exact .inr (.inr (.inr ⟨ps,e0,sz,rows,mapM_mono (fun a b q=>reify_mono h 4 q) e1,e2⟩))
theorem exOp_mono (h:F.le G) {op:AOp} {d:Nat} {δ:Del} (e:exOp P F d op δ):exOp P G d op δ:=by
 cases op with
 | call f args=>
  obtain ⟨vs,e1,e2⟩:=e
  exact ⟨vs,vals_mono h e1,exCall_mono h e2⟩
 | callv x args=>
  obtain ⟨u,vs,f,fi,ca,e1,e2,e3,e4⟩:=e
  exact ⟨u,vs,f,fi,ca,FF.val_mono h e1,vals_mono h e2,e3,exCall_mono h e4⟩
 | _=>exact evDel_mono h e
theorem stepI_mono (h:F.le G) {i:AB} {δ:Del} (e:stepI P F i δ):stepI P G i δ:=by
 unfold stepI at e ⊢
 split at e
 ·exact exOp_mono h e
 ·rcases e with ⟨b,e1,e2,e3⟩ | ⟨e1,e2⟩
  ·exact .inl ⟨b,h.1 _ _ e1,fun q=>exOp_mono h (e2 q),e3⟩
  ·exact .inr ⟨h.1 _ _ e1,e2⟩
end
def Fr.erase (F:Fr) (vs:List Nat) (ms:List Nat):Fr:=⟨F.vars.filter fun x=>!vs.contains x.1,F.mem.filter fun x=>!ms.contains x.1.1⟩
def Del.noSlot (s:Slot) (δ:Del):Bool:=δ.v.noSlot s && δ.blks.all fun x=>decide (x.1≠s) && x.2.noSlot s
def Del.owners (δ:Del):List Nat:=δ.blks.map (·.1.1)++δ.del.map (·.1)
def okD (F0:Fr) (hist:List (Nat×Del×List Slot)) (i:AI) (δ:Del):Bool:=
 ((newS i.b.op δ).all fun s=>F0.noSlot s && hist.all fun h=>h.2.1.noSlot s) && (hist.all fun h=>!(i.na.contains h.1) || h.2.2.all fun s=>δ.noSlot s) && δ.owners.all fun o=>i.keys.contains o
def awpD (P:Program) (F0:Fr):Nat→List (Nat×Del×List Slot)→List AI→(Fr→Prop)→Fr→Prop
 | _,_,[],K,F=>K F
 | k,hist,i :: l,K,F=>awpI P (F.erase i.drop i.dropS).ff i.b (okD F0 hist i) fun δ=>awpD P F0 (k+1) ((k,δ,newS i.b.op δ) :: hist) l K (F.app i.b.dst δ)
def masks:List (List Nat)→List Nat→List Nat
 | [],acc=>acc
 | a :: l,acc=>masks l (acc++[a.foldl (fun m e=>m ||| 2 ^ e ||| acc.getD e 0) 0])
def keyV (i:AI):List Nat:=i.b.dst.toList
def okMarks (l:List AI):Bool:=
 let ms:=masks (l.map (·.b.after)) []
 (List.range l.length).all fun k=>
  let ik:=l.getD k default
  let mk:=ms.getD k 0
  ik.b.after.all (·<k) &&
  (List.range l.length).all fun j=>
   let ij:=l.getD j default
   let mj:=ms.getD j 0
   j == k || mk.testBit j || ((mj.testBit k || ((keyV ij).all (ik.drop.contains ·) && ij.keys.all (ik.dropS.contains ·) && (keyV ij).all (fun t=>!(keyV ik).contains t) && ij.keys.all (fun o=>!ik.keys.contains o))) && (!(decide (j<k)) || ik.na.contains j))
section
variable {P:Program}
theorem Fr.erase_ff {F:Fr} {vs ms:List Nat}:∀ {t v},(F.erase vs ms).var t=some v→F.var t=some v∧vs.contains t=false:=by
 intro t v h
 simp only [Fr.var,Fr.erase] at h
 rw [look_filter (fun x=>!vs.contains x)] at h
 split at h
 ·rename_i q;exact ⟨h,by simpa using q⟩
 ·simp at h
theorem Fr.erase_blk {F:Fr} {vs ms:List Nat}:∀ {s k},(F.erase vs ms).blk s=some k→F.blk s=some k∧ms.contains s.1=false:=by
 intro s k h
 simp only [Fr.blk,Fr.erase] at h
 rw [look_filter (fun x:Slot=>!ms.contains x.1)] at h
 split at h
 ·rename_i q;exact ⟨h,by simpa using q⟩
 ·simp at h
variable (F0:FF) (dst:Nat→Option Nat) (δ:Nat→Del)
def sig (listed:Nat→Bool):Nat→FF
 | 0=>F0
 | k+1=>if listed k then (sig listed k).app (dst k) (δ k) else sig listed k
variable {F0 dst δ}
theorem sig_var {l1 l2:Nat→Bool} {t:Nat}:∀ {m:Nat},(∀ j,j<m→dst j=some t→l1 j=l2 j)→(sig F0 dst δ l1 m).var t=(sig F0 dst δ l2 m).var t
 | 0,_=>rfl
 | m+1,h=>by
  have ih:=sig_var (m:=m) fun j hj=>h j (by omega)
  simp only [sig]
  by_cases hd:dst m=some t
  ·rw [h m (by omega) hd]
   split
   ·simp [FF.app,hd]
   ·exact ih
  ·have:∀ (F:FF),(F.app (dst m) (δ m)).var t=F.var t:=fun F=>by simp [FF.app,hd]
   cases l1 m<;>cases l2 m<;>simp [this,ih]
theorem sig_blk {l1 l2:Nat→Bool} {s:Slot}:∀ {m:Nat},(∀ j,j<m→(δ j).blk s≠none→l1 j=l2 j)→(sig F0 dst δ l1 m).blk s=(sig F0 dst δ l2 m).blk s
 | 0,_=>rfl
 | m+1,h=>by
  have ih:=sig_blk (m:=m) fun j hj=>h j (by omega)
  simp only [sig]
  by_cases hd:(δ m).blk s=none
  ·have:∀ (F:FF),(F.app (dst m) (δ m)).blk s=F.blk s:=fun F=>by simp [FF.app,hd]
   cases l1 m<;>cases l2 m<;>simp [this,ih]
  ·rw [h m (by omega) hd]
   split
   ·obtain ⟨x,hx⟩:=Option.ne_none_iff_exists'.1 hd
    simp [FF.app,hx]
   ·exact ih
theorem sig_lt {k:Nat}:∀ {n:Nat},k≤n→sig F0 dst δ (fun j=>decide (j<k)) n=sig F0 dst δ (fun _=>true) k
 | n,h=>by
  induction n with
  | zero=>have:k=0:=by omega
          subst this;rfl
  | succ n ih=>
   rcases Nat.lt_or_ge n k with hlt | hge
   ·have hk:k=n+1:=by omega
    subst hk
    have:∀ m,m≤n+1→sig F0 dst δ (fun j=>decide (j<n+1)) m=sig F0 dst δ (fun _=>true) m:=by
     intro m
     induction m with
     | zero=>intro _;rfl
     | succ m ihm=>intro hm;simp only [sig,ihm (by omega)];simp [show m<n+1 by omega]
    exact this _ (Nat.le_refl _)
   ·simp only [sig]
    rw [if_neg (by simp;omega)]
    exact ih hge
theorem sig_last_var {l:Nat→Bool} {k t:Nat} (hk:l k=true) (hd:dst k=some t):∀ {n:Nat},k<n→(∀ j,k<j→j<n→dst j=some t→l j=false)→(sig F0 dst δ l n).var t=some (δ k).v
 | n+1,h,hl=>by
  simp only [sig]
  rcases Nat.lt_or_ge k n with hlt | hge
  ·have ih:=sig_last_var hk hd hlt fun j h1 h2=>hl j h1 (by omega)
   by_cases hdn:dst n=some t
   ·rw [hl n hlt (by omega) hdn];simpa using ih
   ·split
    ·simpa [FF.app,hdn] using ih
    ·exact ih
  ·have:k=n:=by omega
   subst this
   rw [hk];simp [FF.app,hd]
theorem sig_last_blk {l:Nat→Bool} {k:Nat} {s:Slot} {x:Option Blk} (hk:l k=true) (hd:(δ k).blk s=some x):∀ {n:Nat},k<n→(∀ j,k<j→j<n→(δ j).blk s≠none→l j=false)→(sig F0 dst δ l n).blk s=x
 | n+1,h,hl=>by
  simp only [sig]
  rcases Nat.lt_or_ge k n with hlt | hge
  ·have ih:=sig_last_blk hk hd hlt fun j h1 h2=>hl j h1 (by omega)
   by_cases hdn:(δ n).blk s=none
   ·split
    ·simpa [FF.app,hdn] using ih
    ·exact ih
   ·rw [hl n hlt (by omega) hdn];simpa using ih
  ·have:k=n:=by omega
   subst this
   rw [hk];simp [FF.app,hd]
theorem app_noSlot {F:FF} {s:Slot} {d:Option Nat} {x:Del} (h:F.noSlot s) (hx:x.noSlot s=true):(F.app d x).noSlot s:=by
 simp only [Del.noSlot,Bool.and_eq_true,List.all_eq_true] at hx
 refine ⟨fun t v e=>?_,fun s' k e=>?_⟩
 ·simp only [FF.app] at e
  split at e
  ·simp at e;subst e;exact hx.1
  ·exact h.1 t v e
 ·simp only [FF.app,Del.blk] at e
  cases hl:look s' x.blks with
  | some k'=>
   simp [hl] at e;subst e
   have:=hx.2 _ (look_mem hl)
   simpa using this
  | none=>
   simp only [hl] at e
   split at e
   ·simp at e
   ·exact h.2 s' k e
theorem sig_noSlot {l:Nat→Bool} {s:Slot} (h0:F0.noSlot s):∀ {n:Nat},(∀ j,j<n→l j=true→(δ j).noSlot s=true)→(sig F0 dst δ l n).noSlot s
 | 0,_=>h0
 | n+1,h=>by
  have ih:=sig_noSlot h0 (n:=n) fun j hj=>h j (by omega)
  simp only [sig]
  split
  ·rename_i hl;exact app_noSlot ih (h n (by omega) hl)
  ·exact ih
end
end Go.Abs
