/- A part of the proof: an abstract reading of the model, contracts of functions. -/
import Derived.Test.YtlkbeomimbohlaaGreatC7
namespace Go.Abs
open Go
set_option linter.unusedSimpArgs false
set_option linter.unusedVariables false
def Opd.reads:Opd→List Nat
 | .v t=>[t]
 | .c _=>[]
def Opd.readsO:Option Opd→List Nat
 | some o=>o.reads
 | none=>[]
def AOp.reads:AOp→List Nat
 | .mov x | .box x | .nilsl _ x | .b2s x | .s2b _ x | .load _ _ x | .nilck x | .un _ x | .conv _ x | .faddr _ x | .field _ _ _ x | .ext x _ | .len _ x=>x.reads
 | .pick c a b=>c.reads++(a.reads++b.reads)
 | .alloc _ | .allocR _ _=>[]
 | .build _ parts=>parts.flatMap fun p=>p.2.2.reads
 | .bslice _ _ _ _ parts=>parts.flatMap fun p=>p.2.2.reads
 | .store _ x v=>x.reads++v.reads
 | .bin _ x y | .eqb _ x y | .eqs _ _ _ x y | .iaddr _ x y | .iaddrA _ _ x y | .idxS x y | .idxA _ _ _ x y | .mm _ x y | .mksl _ _ _ _ x y | .app _ _ _ x y | .cpy _ x y=>x.reads++y.reads
 | .mm3 _ x y z=>x.reads++(y.reads++z.reads)
 | .mkfn _ f c=>f.flatMap Opd.reads++c.flatMap Opd.reads
 | .slcS x a b | .slcV _ x a b=>x.reads++(Opd.readsO a++Opd.readsO b)
 | .call _ args=>args.flatMap Opd.reads
 | .callv x args=>x.reads++args.flatMap Opd.reads
def AOp.plain:AOp→Bool
 | .alloc _ | .allocR _ _ | .box _ | .bslice _ _ _ _ _ | .load _ _ _ | .store _ _ _ | .mksl _ _ _ _ _ _ | .call _ _ | .callv _ _ | .app _ _ _ _ _ | .b2s _ | .s2b _ _ | .cpy _ _ _=>false
 | _=>true
def AOp.load?:AOp→Bool
 | .load _ _ _=>true
 | _=>false
def AI.plOk (i:AI):Bool:=
 match i.pl with
 | 0=>true
 | 1=>(i.b.op.reads++(i.b.guard.map (·.1)).toList).all (fun t=>!i.drop.contains t) && i.dropS.isEmpty
 | _=>(i.b.op.reads++(i.b.guard.map (·.1)).toList).all (fun t=>!i.drop.contains t) && (i.b.op.plain || (i.b.op.load? && i.dropS.isEmpty))
section
variable {F G:FF}
theorem val_ag {o:Opd} (h:∀ t∈o.reads,F.var t=G.var t):F.val o=G.val o:=by
 cases o with
 | v t=>exact h t (by simp [Opd.reads])
 | c p=>rfl
theorem bound_ag {d:Nat} {o:Option Opd} (h:∀ t∈Opd.readsO o,F.var t=G.var t):boundO F d o=boundO G d o:=by
 cases o with
 | none=>rfl
 | some x=>simp only [boundO];rw [val_ag h]
theorem vals_ag:∀ {l:List Opd},(∀ t∈l.flatMap Opd.reads,F.var t=G.var t)→F.vals l=G.vals l
 | [],_=>rfl
 | x :: l,h=>by
  simp only [FF.vals]
  rw [val_ag (fun t ht=>h t (by simp [List.flatMap_cons,ht])),vals_ag (fun t ht=>h t (by simp only [List.flatMap_cons,List.mem_append];exact .inr ht))]
theorem parts_ag:∀ {l:List (Nat×Nat×Opd)},(∀ t∈l.flatMap (fun p=>p.2.2.reads),F.var t=G.var t)→F.parts l=G.parts l
 | [],_=>rfl
 | (a,b,x) :: l,h=>by
  simp only [FF.parts]
  rw [val_ag (fun t ht=>h t (by simp [List.flatMap_cons,ht])),parts_ag (fun t ht=>h t (by simp only [List.flatMap_cons,List.mem_append];exact .inr ht))]
theorem evV_ag {op:AOp} (h:∀ t∈op.reads,F.var t=G.var t) (hb:op.plain=true∨F.blk=G.blk):evV F op=evV G op:=by
 cases op<;>simp only [AOp.reads,List.mem_append] at h<;>simp only [evV]
 case load agg n x=>
  rw [val_ag h]
  have hb:F.blk=G.blk:=by simpa [AOp.plain] using hb
  have:∀ v,F.read v n=G.read v n:=fun v=>by unfold FF.read;rw [hb]
  simp only [this]
 case build=>rw [parts_ag h]
 case mkfn=>rw [vals_ag fun t ht=>h t (.inl ht),vals_ag fun t ht=>h t (.inr ht)]
 case mm3=>rw [val_ag fun t ht=>h t (.inl ht),val_ag fun t ht=>h t (.inr (.inl ht)),val_ag fun t ht=>h t (.inr (.inr ht))]
 case pick=>rw [val_ag fun t ht=>h t (.inl ht),val_ag fun t ht=>h t (.inr (.inl ht)),val_ag fun t ht=>h t (.inr (.inr ht))]
 case slcS x a b=>
  rw [val_ag fun t ht=>h t (.inl ht)]
  have ha:∀ d,boundO F d a=boundO G d a:=fun d=>bound_ag fun t ht=>h t (.inr (.inl ht))
  have hb':∀ d,boundO F d b=boundO G d b:=fun d=>bound_ag fun t ht=>h t (.inr (.inr ht))
  simp only [ha,hb']
 case slcV n x a b=>
  rw [val_ag fun t ht=>h t (.inl ht)]
  have ha:∀ d,boundO F d a=boundO G d a:=fun d=>bound_ag fun t ht=>h t (.inr (.inl ht))
  have hb':∀ d,boundO F d b=boundO G d b:=fun d=>bound_ag fun t ht=>h t (.inr (.inr ht))
  simp only [ha,hb']
 all_goals first
  | rfl
  | rw [val_ag h]
  | rw [val_ag fun t ht=>h t (.inl ht),val_ag fun t ht=>h t (.inr ht)]
theorem rows_ag (hb:F.blk=G.blk) {n:Nat} {v:AV}:F.rows n v=G.rows n v:=by unfold FF.rows;rw [hb]
theorem reify_ag (hb:F.blk=G.blk):∀ (n:Nat) (v:AV),F.reify n v=G.reify n v
 | 0,v=>by cases v<;>simp [FF.reify,rows_ag hb]
 | n+1,v=>by
  have ih:F.reify n=G.reify n:=funext (reify_ag hb n)
  cases v<;>simp [FF.reify,rows_ag hb,ih,hb]
theorem evDel_ag {op:AOp} {d:Nat} (h:∀ t∈op.reads,F.var t=G.var t) (hb:op.plain=true∨F.blk=G.blk):evDel F d op=evDel G d op:=by
 cases op
 case alloc=>rfl
 case allocR=>rfl
 case box x=>simp only [evDel,evN];rw [val_ag h]
 case bslice=>simp only [evDel,evN];rw [parts_ag h]
 case mksl e n b z l c=>
  simp only [evDel,evN]
  simp only [AOp.reads,List.mem_append] at h
  rw [val_ag fun t ht=>h t (.inl ht),val_ag fun t ht=>h t (.inr ht)]
 case store n x v=>
  have hb:F.blk=G.blk:=by simpa [AOp.plain] using hb
  simp only [evDel,evS]
  simp only [AOp.reads,List.mem_append] at h
  rw [val_ag fun t ht=>h t (.inl ht),val_ag fun t ht=>h t (.inr ht),hb]
 case app e n b s x=>
  have hb:F.blk=G.blk:=by simpa [AOp.plain] using hb
  have hr:F.rows n=G.rows n:=funext fun v=>rows_ag hb
  simp only [evDel,evA]
  simp only [AOp.reads,List.mem_append] at h
  rw [val_ag fun t ht=>h t (.inl ht),val_ag fun t ht=>h t (.inr ht),hb,hr]
 case b2s x=>
  have hb:F.blk=G.blk:=by simpa [AOp.plain] using hb
  have hr:F.rows 1=G.rows 1:=funext fun v=>rows_ag hb
  simp only [evDel,evC]
  rw [val_ag h,hr]
 case s2b e x=>simp only [evDel,evC];rw [val_ag h]
 case cpy n x y=>
  have hb:F.blk=G.blk:=by simpa [AOp.plain] using hb
  have hr:F.rows n=G.rows n:=funext fun v=>rows_ag hb
  simp only [evDel,evC]
  simp only [AOp.reads,List.mem_append] at h
  rw [val_ag fun t ht=>h t (.inl ht),val_ag fun t ht=>h t (.inr ht),hb,hr]
 all_goals (simp only [evDel];rw [evV_ag h hb])
theorem exCall_ag {P:Program} {d:Nat} {f:FuncId} {vs:List AV} {δ:Del} (hb:F.blk=G.blk) (h:exCall P F d f vs δ):exCall P G d f vs δ:=by
 rcases h with h | ⟨ps,v,h1,h2⟩ | ⟨M0,K,v,M1,h1,h2⟩ | ⟨ps,e0,sz,rows,h1,h2⟩
 ·exact .inl h
 rotate_left
 ·exact .inr (.inr (.inl ⟨M0,K,v,M1,by rw [←hb];exact h1,h2⟩))
 ·refine .inr (.inr (.inr ⟨ps,e0,sz,rows,?_,h2⟩))
  rw [←h1]
  unfold FF.reifyL
  rw [show F.reify 4=G.reify 4 from funext (reify_ag hb 4)]
 ·refine .inr (.inl ⟨ps,v,?_,h2⟩)
  rw [←h1]
  unfold FF.reifyL
  rw [show F.reify 4=G.reify 4 from funext (reify_ag hb 4)]
theorem awpStep_ag {P:Program} {i:AB} {ok:Del→Bool} {K:Del→Prop} (h:∀ t∈i.op.reads,F.var t=G.var t) (hb:i.op.plain=true∨F.blk=G.blk) (e:awpStep P F i ok K):awpStep P G i ok K:=by
 unfold awpStep at e ⊢
 generalize i.op=op at *
 cases op
 case call f args=>
  dsimp only at e ⊢
  have hb:F.blk=G.blk:=by simpa [AOp.plain] using hb
  rw [←vals_ag h]
  cases h1:F.vals args with
  | none=>rw [h1] at e;exact e.elim
  | some vs=>
   rw [h1] at e
   obtain ⟨δ,h2,h3⟩:=e
   exact ⟨δ,exCall_ag hb h2,h3⟩
 case callv x args=>
  dsimp only at e ⊢
  have hb:F.blk=G.blk:=by simpa [AOp.plain] using hb
  simp only [AOp.reads,List.mem_append] at h
  rw [←val_ag fun t ht=>h t (.inl ht),←vals_ag fun t ht=>h t (.inr ht)]
  cases h1:F.val x with
  | none=>simp only [h1] at e
  | some u=>
   cases h2:F.vals args with
   | none=>simp only [h1,h2] at e
   | some vs=>
    simp only [h1,h2] at e ⊢
    split at e
    ·rename_i f fi ca h3
     obtain ⟨δ,h4,h5⟩:=e
     exact ⟨δ,exCall_ag hb h4,h5⟩
    ·exact e.elim
 all_goals (dsimp only at e ⊢;rw [←evDel_ag h hb];exact e)
theorem awpI_ag {P:Program} {i:AB} {ok:Del→Bool} {K:Del→Prop} (h:∀ t∈i.op.reads++(i.guard.map (·.1)).toList,F.var t=G.var t) (hb:i.op.plain=true∨F.blk=G.blk) (e:awpI P F i ok K):awpI P G i ok K:=by
 have h1:∀ t∈i.op.reads,F.var t=G.var t:=fun t ht=>h t (List.mem_append.2 (.inl ht))
 unfold awpI at e ⊢
 split at e
 ·exact awpStep_ag h1 hb e
 ·rename_i t want hg
  rw [←h t (by simp [hg])]
  split at e
  ·exact ⟨fun q=>awpStep_ag h1 hb (e.1 q),e.2⟩
  ·exact e
  ·exact e.elim
end
theorem awpStep_mono' {P:Program} {G:FF} {i:AB} {ok ok':Del→Bool} {K K':Del→Prop} (ho:∀ δ,exOp P G (i.dst.getD 0) i.op δ→ok δ=true→ok' δ=true) (h:∀ δ,exOp P G (i.dst.getD 0) i.op δ→K δ→K' δ) (e:awpStep P G i ok K):awpStep P G i ok' K':=by
 unfold awpStep at *
 split at e
 ·rename_i f args hop
  split at e
  ·rename_i vs h1
   obtain ⟨δ,h2,h3,h4⟩:=e
   have hx:exOp P G (i.dst.getD 0) i.op δ:=by rw [hop];exact ⟨vs,h1,h2⟩
   exact ⟨δ,h2,ho δ hx h3,h δ hx h4⟩
  ·exact e
 ·rename_i x args hop
  split at e
  ·rename_i u vs h1 h2
   split at e
   ·rename_i f fi ca h3
    obtain ⟨δ,h4,h5,h6⟩:=e
    have hx:exOp P G (i.dst.getD 0) i.op δ:=by rw [hop];exact ⟨u,vs,f,fi,ca,h1,h2,h3,h4⟩
    exact ⟨δ,h4,ho δ hx h5,h δ hx h6⟩
   ·exact e
  ·exact e
 ·rename_i h1 h2
  split at e
  ·rename_i δ hδ
   have hx:exOp P G (i.dst.getD 0) i.op δ:=by
    generalize i.op=op at *
    cases op<;>first | exact hδ | exact absurd rfl (h1 _ _) | exact absurd rfl (h2 _ _)
   exact ⟨ho δ hx e.1,h δ hx e.2⟩
  ·exact e
theorem awpI_mono' {P:Program} {G:FF} {i:AB} {ok ok':Del→Bool} {K K':Del→Prop} (ho:∀ δ,exOp P G (i.dst.getD 0) i.op δ→ok δ=true→ok' δ=true) (h:∀ δ,(exOp P G (i.dst.getD 0) i.op δ∨δ=⟨.p (.tup []),[],[]⟩)→K δ→K' δ) (e:awpI P G i ok K):awpI P G i ok' K':=by
 unfold awpI at *
 split at e
 ·exact awpStep_mono' ho (fun δ hx=>h δ (.inl hx)) e
 ·split at e
  ·exact ⟨fun q=>awpStep_mono' ho (fun δ hx=>h δ (.inl hx)) (e.1 q),fun q=>h _ (.inr rfl) (e.2 q)⟩
  ·exact h _ (.inr rfl) e
  ·exact e
def addN (k:Nat) (l:List Slot) (hn:List (Nat×List Slot)):List (Nat×List Slot):=match l with
 | []=>hn
 | l=>(k,l) :: hn
def okP (hn:List (Nat×List Slot)) (na:List Nat) (δ:Del):Bool:=hn.all fun h=>!(na.contains h.1) || h.2.all fun s=>δ.noSlot s
def okX (F0:Fr) (hist:List Del) (hn:List (Nat×List Slot)) (i:AI) (δ:Del):Bool:=
 ((newS i.b.op δ).all fun s=>F0.noSlot s && hist.all fun h=>h.noSlot s) && okP hn i.na δ && δ.owners.all fun o=>i.keys.contains o
def awpX (P:Program) (F0:Fr):Nat→List Del→List (Nat×List Slot)→List AI→(Fr→Prop)→Fr→Prop
 | _,_,_,[],K,F=>K F
 | k,hist,hn,i :: l,K,F=>match i.pl with
  | 0=>awpI P (F.erase i.drop i.dropS).ff i.b (okX F0 hist hn i) fun δ=>awpX P F0 (k+1) (δ :: hist) (addN k (newS i.b.op δ) hn) l K (F.app i.b.dst δ)
  | 1=>awpI P F.ff i.b (okX F0 hist hn i) fun δ=>awpX P F0 (k+1) (δ :: hist) (addN k (newS i.b.op δ) hn) l K (F.app i.b.dst δ)
  | _=>awpI P F.ff i.b (okP hn i.na) fun δ=>awpX P F0 (k+1) (δ :: hist) hn l K (F.app i.b.dst δ)
def okPl (l:List AI):Bool:=l.all AI.plOk
theorem newS_plain {P:Program} {F:FF} {d:Nat} {op:AOp} {δ:Del} (hp:op.plain=true∨op.load?=true) (h:exOp P F d op δ∨δ=⟨.p (.tup []),[],[]⟩):δ.blks=[]∧δ.del=[]:=by
 rcases h with h | rfl
 ·cases op<;>simp [AOp.plain,AOp.load?] at hp
  all_goals (simp only [exOp,evDel,Option.map_eq_some_iff] at h;obtain ⟨v,-,rfl⟩:=h;exact ⟨rfl,rfl⟩)
 ·exact ⟨rfl,rfl⟩
theorem okP_all {hist:List (Nat×Del×List Slot)} {hn:List (Nat×List Slot)} (hh:∀ x∈hist,x.2.2=[]∨(x.1,x.2.2)∈hn) {na:List Nat} {δ:Del} (h:okP hn na δ=true):(hist.all fun h=>!(na.contains h.1) || h.2.2.all fun s=>δ.noSlot s)=true:=by
 rw [List.all_eq_true]
 intro x hx
 rcases hh x hx with h1 | h1
 ·simp [h1]
 ·exact List.all_eq_true.1 h _ h1
theorem awpX_ok {P:Program} {F0:Fr} {K:Fr→Prop}:∀ {l:List AI} {k:Nat} {hist:List (Nat×Del×List Slot)} {hn:List (Nat×List Slot)} {F:Fr},okPl l=true→(∀ x∈hist,x.2.2=[]∨(x.1,x.2.2)∈hn) →
  awpX P F0 k (hist.map (·.2.1)) hn l K F→awpD P F0 k hist l K F
 | [],_,_,_,_,_,_,h=>h
 | i :: l,k,hist,hn,F,hp,hh,h=>by
  simp only [okPl,List.all_cons,Bool.and_eq_true] at hp
  have hpl:okPl l=true:=hp.2
  have hadd:∀ δ:Del,∀ x∈(k,δ,newS i.b.op δ) :: hist,x.2.2=[]∨(x.1,x.2.2)∈addN k (newS i.b.op δ) hn:=by
   intro δ x hx
   simp only [List.mem_cons] at hx
   unfold addN
   rcases hx with rfl | hx
   ·split
    ·rename_i e;exact .inl e
    ·exact .inr (List.mem_cons_self ..)
   ·rcases hh x hx with h1 | h1
    ·exact .inl h1
    ·split
     ·exact .inr h1
     ·exact .inr (List.mem_cons_of_mem _ h1)
  have hok:∀ δ:Del,okX F0 (hist.map (·.2.1)) hn i δ=true→okD F0 hist i δ=true:=by
   intro δ h
   simp only [okX,Bool.and_eq_true] at h
   simp only [okD,Bool.and_eq_true]
   refine ⟨⟨?_,okP_all hh h.1.2⟩,h.2⟩
   rw [List.all_eq_true]
   intro s hs
   have:=List.all_eq_true.1 h.1.1 s hs
   simpa [List.all_map,Function.comp_def] using this
  have hvar:∀ {dropS:List Nat},((i.b.op.reads++(i.b.guard.map (·.1)).toList).all fun t=>!i.drop.contains t)=true→∀ t∈i.b.op.reads++(i.b.guard.map (·.1)).toList,F.ff.var t=(F.erase i.drop dropS).ff.var t:=by
   intro dropS h t ht
   have:=List.all_eq_true.1 h t ht
   simp only [Fr.ff,Fr.var,Fr.erase]
   rw [look_filter (fun x=>!i.drop.contains x),if_pos this]
  have hblk:i.dropS.isEmpty=true→F.ff.blk=(F.erase i.drop i.dropS).ff.blk:=by
   intro h
   have:i.dropS=[]:=by simpa using h
   funext s
   simp only [Fr.ff,Fr.blk,Fr.erase,this]
   rw [look_filter (fun x:Slot=>!([]:List Nat).contains x.1)];rfl
  have hpl':=hp.1
  unfold AI.plOk at hpl'
  simp only [awpD]
  simp only [awpX] at h
  split at h
  ·exact awpI_mono' (fun δ _=>hok δ) (fun δ _ q=>awpX_ok hpl (hadd δ) q) h
  ·rename_i h1
   simp only [h1,Bool.and_eq_true] at hpl'
   exact awpI_ag (hvar hpl'.1) (.inr (hblk hpl'.2)) (awpI_mono' (fun δ _=>hok δ) (fun δ _ q=>awpX_ok hpl (hadd δ) q) h)
  ·rename_i h1 h2
   have hpl'':((i.b.op.reads++(i.b.guard.map (·.1)).toList).all (fun t=>!i.drop.contains t) && (i.b.op.plain || (i.b.op.load? && i.dropS.isEmpty)))=true:=by
    split at hpl'
    ·rename_i e;exact absurd e h1
    ·rename_i e;exact absurd e h2
    ·exact hpl'
   simp only [Bool.and_eq_true,Bool.or_eq_true] at hpl''
   have hpn:i.b.op.plain=true∨i.b.op.load?=true:=hpl''.2.imp id (·.1)
   refine awpI_ag (hvar hpl''.1) (hpl''.2.imp id fun q=>hblk q.2) (awpI_mono' (fun δ hx q=>?_) (fun δ hx q=>?_) h)
   ·obtain ⟨e1,e2⟩:=newS_plain hpn (.inl hx)
    simp only [okD,Bool.and_eq_true]
    refine ⟨⟨?_,okP_all hh q⟩,by simp [Del.owners,e1,e2]⟩
    have:newS i.b.op δ=[]:=by unfold newS;split<;>simp [e1]
    rw [this];rfl
   ·obtain ⟨e1,e2⟩:=newS_plain hpn hx
    have hn0:newS i.b.op δ=[]:=by unfold newS;split<;>simp [e1]
    refine awpX_ok hpl (fun x hx=>?_) q
    simp only [List.mem_cons] at hx
    rcases hx with rfl | hx
    ·exact .inl hn0
    ·exact hh x hx
theorem awpX_D {P:Program} {F:Fr} {l:List AI} {K:Fr→Prop} (hp:okPl l=true) (h:awpX P F 0 [] [] l K F):awpD P F 0 [] l K F:=awpX_ok hp (by simp) h
theorem okP_nil {na:List Nat} {δ:Del}:okP [] na δ=true:=rfl
theorem okX_p {F0:Fr} {hist:List Del} {hn:List (Nat×List Slot)} {i:AI} {v:PV}:okX F0 hist hn i ⟨.p v,[],[]⟩=true:=by
 have:newS i.b.op ⟨.p v,[],[]⟩=[]:=by unfold newS;split<;>rfl
 simp [okX,this,okP,Del.owners,Del.noSlot,AV.noSlot]
end Go.Abs
namespace Go.Abs
open Go
set_option linter.unusedSimpArgs false
set_option linter.unusedVariables false
inductive AC where
 | skip
 | seq (x y:AC)
 | cond (c:Opd) (x y:AC)
 | block (id:Nat) (x:AC)
 | loop (x:AC)
 | exit (id:Nat)
 | ret
 | reg (l:List AB)
 | draw (l:List AI)
 | ghost (g:Ghost) (x:AC)
 | rfun (g:Opd) (ps dd:List Nat) (x y:AC)
 | scope (x:AC)
 | label (l:Nat)
 deriving Inhabited
def AC.strip:AC→AC
 | .seq x y=>.seq x.strip y.strip
 | .cond c x y=>.cond c x.strip y.strip
 | .block id x=>.block id x.strip
 | .loop x=>.loop x.strip
 | .draw l=>.draw (l.map fun i=>⟨i.b,[],[],[],[],0⟩)
 | .ghost _ x=>x.strip
 | .rfun g ps _ x y=>.rfun g ps [] x.strip y.strip
 | .scope x=>.scope x.strip
 | c=>c
def AC.dsts:AC→List Nat
 | .seq x y=>x.dsts++y.dsts
 | .cond _ x y=>x.dsts++y.dsts
 | .block _ x=>x.dsts
 | .loop x=>x.dsts
 | .scope x=>x.dsts
 | .ghost _ x=>x.dsts
 | .reg l=>l.filterMap (·.dst)
 | .draw l=>l.filterMap (·.b.dst)
 | _=>[]
def AC.okAll:AC→Bool
 | .seq x y=>x.okAll && y.okAll
 | .cond _ x y=>x.okAll && y.okAll
 | .block _ x=>x.okAll
 | .loop x=>x.okAll
 | .scope x=>x.okAll
 | .draw l=>okMarks l && okPl l
 | .ghost _ x=>x.okAll
 | .rfun _ ps dd x y=>x.okAll && y.okAll && (ps++(x.dsts++y.dsts)).all fun t=>dd.contains t
 | _=>true
def resolveIs (P:Program) (N:Nat) (ops:Array Oper):List Oper→Option (List AB)
 | []=>some []
 | o :: l=>match resolveI P N ops o,resolveIs P N ops l with
  | some i,some r=>some (i :: r)
  | _,_=>none
def resolveC (P:Program) (N:Nat):Code→Option AC
 | .skip=>some .skip
 | .region _ ops d=>match resolveIs P N ops ops.toList with
  | some l=>some (if d then .draw (l.map fun i=>⟨i,[],[],[],[],0⟩) else .reg l)
  | none=>none
 | .seq a b=>match resolveC P N a,resolveC P N b with
  | some x,some y=>some (.seq x y)
  | _,_=>none
 | .cond c a b=>match rO c,resolveC P N a,resolveC P N b with
  | some c,some x,some y=>some (.cond c x y)
  | _,_,_=>none
 | .block id a=>(resolveC P N a).map (.block id)
 | .loop a=>(resolveC P N a).map .loop
 | .scope a=>(resolveC P N a).map .scope
 | .label l=>some (.label l)
 | .exit id=>some (.exit id)
 | .ret=>some .ret
 | .rangeFunc g ps a b=>match rO g,resolveC P N a,resolveC P N b with
  | some g,some x,some y=>if ps.toList.all (fun t=>decide (t<N)) then some (.rfun g ps.toList [] x y) else none
  | _,_,_=>none
 | _=>none
def lp (b:APT):Nat→APT
 | 0=>fun _ _=>False
 | n+1=>fun K F=>b (fun e F'=>match e with | .normal=>lp b n K F' | e=>K e F') F
def awp (P:Program):AC→APT
 | .skip=>fun K F=>K .normal F
 | .seq x y=>fun K F=>awp P x (fun e F'=>match e with | .normal=>awp P y K F' | e=>K e F') F
 | .cond c x y=>fun K F=>match F.ff.val c with
  | some (.p (.bool b))=>(b=true→awp P x K F)∧(b=false→awp P y K F)
  | _=>False
 | .block id x=>fun K F=>awp P x (fun e F'=>match e with | .exit i=>if i=id then K .normal F' else K (.exit i) F' | e=>K e F') F
 | .loop x=>fun K F=>∃ n,lp (awp P x) n K F
 | .scope x=>awp P x
 | .label _=>fun K F=>K .normal F
 | .exit id=>fun K F=>K (.exit id) F
 | .ret=>fun K F=>K .ret F
 | .reg l=>fun K F=>awpR P l (K .normal) F
 | .draw l=>fun K F=>awpX P F 0 [] [] l (K .normal) F
 | .ghost g x=>fun K F=>match g.app F with
  | some F'=>awp P x K F'
  | none=>False
 | .rfun g ps dd x y=>fun K F=>match F.ff.val g with
  | some u=>match cloOf u with
   | some (f,fi,ca)=>∃ fi' ca' xs,allP fi=some fi'∧allP ca=some ca'∧Gens P f fi' ca' xs∧rounds (awp P x) (awp P y) ps dd xs K F
   | none=>False
  | none=>False
section
variable {P:Program} {N:Nat} {w0:Base}
theorem resolveIs_get {ops:Array Oper}:∀ {l:List Oper} {r:List AB},resolveIs P N ops l=some r→r.length=l.length∧∀ (j:Nat) (i:AB),r[j]?=some i→∃ o,l[j]?=some o∧resolveI P N ops o=some i
 | [],r,h=>by simp [resolveIs] at h;subst h;simp
 | o :: l,r,h=>by
  simp only [resolveIs] at h
  split at h
  ·rename_i i r' e1 e2
   simp at h;subst h
   obtain ⟨h1,h2⟩:=resolveIs_get e2
   refine ⟨by simp [h1],fun j i' e=>?_⟩
   cases j with
   | zero=>simp at e;subst e;exact ⟨o,rfl,e1⟩
   | succ j=>simp at e ⊢;exact h2 j i' e
  ·simp at h
theorem least {p:Nat→Prop} (h:∃ n,p n):∃ n,p n∧∀ m,m<n→¬p m:=by
 obtain ⟨n,hn⟩:=h
 induction n using Nat.strongRecOn with
 | _ n ih=>
  by_cases hq:∃ m,m<n∧p m
  ·obtain ⟨m,h1,h2⟩:=hq;exact ih m h1 h2
  ·exact ⟨n,hn,fun m hm hp=>hq ⟨m,hm,hp⟩⟩
open Classical in
noncomputable def leastOf (p:Nat→Prop):Nat:=if h:∃ n,p n then (least h).choose else 0
theorem leastOf_spec {p:Nat→Prop} (h:∃ n,p n):p (leastOf p)∧∀ m,p m→leastOf p≤m:=by
 unfold leastOf
 rw [dif_pos h]
 have:=(least h).choose_spec
 exact ⟨this.1,fun m hm=>Nat.le_of_not_lt fun hlt=>this.2 m hlt hm⟩
theorem resolveIs_ops {ops:Array Oper} {r:List AB} (h:resolveIs P N ops ops.toList=some r):NoDefer ops∧∀ (k:Nat) (o:Oper),ops[k]?=some o→∃ i,r[k]?=some i∧i.dst=o.dst:=by
 obtain ⟨q1,q2⟩:=resolveIs_get h
 have key:∀ (k:Nat) (o:Oper),ops[k]?=some o→∃ i,r[k]?=some i∧resolveI P N ops o=some i:=by
  intro k o ho
  have hlt:k<r.length:=by rw [q1];have:=(Array.getElem?_eq_some_iff.1 ho).1;simpa using this
  obtain ⟨o',h1,h2⟩:=q2 k r[k] (by simp [hlt])
  rw [Array.getElem?_toList,ho] at h1
  simp at h1;subst h1
  exact ⟨_,by simp [hlt],h2⟩
 refine ⟨fun k o ho c hc=>?_,fun k o ho=>?_⟩
 ·obtain ⟨i,_,h2⟩:=key k o ho
  unfold resolveI at h2
  rw [hc] at h2
  simp [resolveOp] at h2
 ·obtain ⟨i,h1,h2⟩:=key k o ho
  refine ⟨i,h1,?_⟩
  unfold resolveI at h2
  split at h2
  ·simp at h2
  ·split at h2
   ·split at h2
    ·simp at h2;subst h2;rfl
    ·split at h2
     ·simp at h2;subst h2;rfl
     ·simp at h2
   ·simp at h2
theorem stepR_scope {b:Frame} {a:Act} {k:List Item} {cs:List Frame} {w:World} {c:Code}:step P (lone (b.atR a (.code (.scope c) :: k)) cs w)=.next (lone (b.atR a (.code c :: .inScope c :: k)) cs w):=
 step_lone_go (by simp [stepG,stepG.exec,Frame.atR])
theorem stepR_inScope {b:Frame} {a:Act} {k:List Item} {cs:List Frame} {w:World} {c:Code}:step P (lone (b.atR a (.inScope c :: k)) cs w)=.next (lone (b.atR a k) cs w):=
 step_lone_go (by simp [stepG,stepG.exec,Frame.atR])
theorem wpIn_scope {F:Fence} {n:Nat} {Q:Exit→Act→World→Prop} {a:Act} {w:World} {c:Code} (h:c.wpIn F n P (Exit.noGoto Q) a w):(Code.scope c).wpIn F n P Q a w:=by
 intro b k cs hro hb hr
 have h0:(lone (b.atR a (.code (.scope c) :: k)) cs w).fenced P F:=fenced_calm hb hr rfl
 obtain ⟨e,a₁,w₁,hq,harr⟩:=h b (.inScope c :: k) cs hro hb hr
 cases e with
 | normal=>exact ⟨.normal,a₁,w₁,hq,.head h0 stepR_scope (StepsIn.trans harr (.one (fenced_calm hb hr rfl) stepR_inScope))⟩
 | exit id=>
  have hx:exitTo id (.inScope c :: k)=exitTo id k:=by simp [exitTo]
  exact ⟨.exit id,a₁,w₁,hq,fun k' hk=>.head h0 stepR_scope (harr.1 k' (by rw [hx];exact hk)),
   fun hr' hk=>let ⟨k₁,h1,h2⟩:=harr.2 hr' (by rw [hx];exact hk);⟨k₁,h1,.head h0 stepR_scope h2⟩⟩
 | goto l=>exact hq.elim
 | ret=>exact ⟨_,a₁,w₁,hq,.of_steps (.one h0 stepR_scope) harr⟩
 | panic ch=>exact ⟨_,a₁,w₁,hq,.of_steps (.one h0 stepR_scope) harr⟩
 | outgrown=>exact ⟨_,a₁,w₁,hq,.of_steps (.one h0 stepR_scope) harr⟩
theorem awp_ok (hm:P.follows .mixedOrders=true):∀ (ac:AC) (c:Code) (D:Nat→Prop),resolveC P N c=some ac.strip→ac.okAll=true→(∀ t∈ac.dsts,D t)→Sound P N D (awp P ac) c:=by
 intro ac
 induction ac with
 | ghost g x ih=>
  intro c D hr ho hD r n w0 K F ι S a w Q hb h hst hQ
  simp only [awp] at h
  split at h
  ·rename_i F' hF
   obtain ⟨ι',S',hst'⟩:=ghost_ok hst hF
   exact ih c D hr ho hD r n w0 K F' ι' S' a w Q hb h hst' hQ
  ·exact h.elim
 | skip=>
  intro c D hr ho hD r n w0 K F ι S a w Q hb h hst hQ
  cases c<;>simp only [resolveC,AC.strip] at hr
  ·exact wpIn_skip (hQ .normal F w0 ι S a w h hst (.refl _) hb (.refl _ _))
  all_goals (try simp only [Option.map_eq_some_iff] at hr)
  all_goals (repeat' split at hr)
  all_goals (simp at hr)
 | seq x y ihx ihy=>
  intro c D hr ho hD r n w0 K F ι S a w Q hb h hst hQ
  simp only [AC.okAll,Bool.and_eq_true] at ho
  simp only [AC.dsts,List.mem_append] at hD
  cases c<;>simp only [resolveC,AC.strip] at hr
  case seq a' b'=>
   split at hr
   ·rename_i x' y' h1 h2
    simp at hr
    obtain ⟨rfl,rfl⟩:=hr
    refine wpIn_seq (ihx _ D h1 ho.1 (fun t ht=>hD t (.inl ht)) r n w0 _ F ι S a w _ hb h hst fun e F' w0' ι' S' a' w' hk hst' hx hb' hs=>?_)
    cases e with
    | normal=>exact ihy _ D h2 ho.2 (fun t ht=>hD t (.inr ht)) r n w0' K F' ι' S' a' w' Q hb' hk hst' fun e F'' w0'' ι'' S'' a'' w'' hk'' hst'' hx'' hb'' hs''=>hQ e F'' w0'' ι'' S'' a'' w'' hk'' hst'' (hx.trans hx'') hb'' (hs.trans hs'')
    | exit id=>exact hQ (.exit id) F' w0' ι' S' a' w' hk hst' hx hb' hs
    | ret=>exact hQ .ret F' w0' ι' S' a' w' hk hst' hx hb' hs
   ·simp at hr
  all_goals (try simp only [Option.map_eq_some_iff] at hr)
  all_goals (repeat' split at hr)
  all_goals (simp at hr)
 | cond c' x y ihx ihy=>
  intro c D hr ho hD r n w0 K F ι S a w Q hb h hst hQ
  simp only [AC.okAll,Bool.and_eq_true] at ho
  simp only [AC.dsts,List.mem_append] at hD
  cases c<;>simp only [resolveC,AC.strip] at hr
  case cond c'' a' b'=>
   split at hr
   ·rename_i q x' y' h1 h2 h3
    simp at hr
    obtain ⟨rfl,rfl,rfl⟩:=hr
    simp only [awp] at h
    split at h
    ·rename_i b hbv
     have:=inv_bool (hst.val h1 hbv)
     refine wpIn_cond_split this (fun ht=>?_) (fun hf=>?_)
     ·exact ihx _ D h2 ho.1 (fun t ht=>hD t (.inl ht)) r n w0 K F ι S a w Q hb (h.1 ht) hst hQ
     ·exact ihy _ D h3 ho.2 (fun t ht=>hD t (.inr ht)) r n w0 K F ι S a w Q hb (h.2 hf) hst hQ
    ·exact h.elim
   ·simp at hr
  all_goals (try simp only [Option.map_eq_some_iff] at hr)
  all_goals (repeat' split at hr)
  all_goals (simp at hr)
 | block id x ih=>
  intro c D hr ho hD r n w0 K F ι S a w Q hb h hst hQ
  cases c<;>simp only [resolveC,AC.strip] at hr
  case block id' a'=>
   simp only [Option.map_eq_some_iff,AC.block.injEq] at hr
   obtain ⟨x',h1,rfl,rfl⟩:=hr
   refine wpIn_block (ih _ D h1 ho hD r n w0 _ F ι S a w _ hb h hst fun e F' w0' ι' S' a' w' hk hst' hx hb' hs=>?_)
   cases e with
   | normal=>exact hQ .normal F' w0' ι' S' a' w' hk hst' hx hb' hs
   | exit i=>
    simp only [AE.toExit,Exit.inBlock]
    dsimp only at hk
    split
    ·rename_i hi;rw [if_pos hi] at hk;exact hQ .normal F' w0' ι' S' a' w' hk hst' hx hb' hs
    ·rename_i hi;rw [if_neg hi] at hk;exact hQ (.exit i) F' w0' ι' S' a' w' hk hst' hx hb' hs
   | ret=>exact hQ .ret F' w0' ι' S' a' w' hk hst' hx hb' hs
  all_goals (try simp only [Option.map_eq_some_iff] at hr)
  all_goals (repeat' split at hr)
  all_goals (simp at hr)
 | loop x ih=>
  intro c D hr ho hD r n w0 K F ι S a w Q hb h hst hQ
  cases c<;>simp only [resolveC,AC.strip] at hr
  case loop a0=>
   simp only [Option.map_eq_some_iff,AC.loop.injEq] at hr
   obtain ⟨x',h1,rfl⟩:=hr
   let J:Act→World→Nat→Prop:=fun a' w' n=>∃ F ι S w0',lp (awp P x) n K F∧St N w0' ι S F.ff a' w'∧Ext w0 w0'∧BOk r w0'∧Same D a a'
   refine wpIn_loop (fun a w=>∃ n,J a w n) (fun a w=>leastOf (J a w)) ?_ ?_
   ·obtain ⟨n,hn⟩:=h;exact ⟨n,F,ι,S,w0,hn,hst,.refl _,hb,.refl _ _⟩
   ·intro a1 w1 hI
    obtain ⟨⟨F1,ι1,S1,b1,hlp,hst1,hx1,hb1,hs1⟩,hmin⟩:=leastOf_spec hI
    generalize hn:leastOf (J a1 w1)=n at *
    cases n with
    | zero=>exact hlp.elim
    | succ m=>
     refine ih _ D h1 ho hD r _ b1 _ F1 ι1 S1 a1 w1 _ hb1 hlp hst1 fun e F' w0' ι' S' a' w' hk hst' hx hb' hs=>?_
     cases e with
     | normal=>
      have hJ:J a' w' m:=⟨F',ι',S',w0',hk,hst',hx1.trans hx,hb',hs1.trans hs⟩
      refine ⟨⟨m,hJ⟩,?_⟩
      have:=(leastOf_spec ⟨m,hJ⟩).2 m hJ
      omega
     | exit id=>exact hQ (.exit id) F' w0' ι' S' a' w' hk hst' (hx1.trans hx) hb' (hs1.trans hs)
     | ret=>exact hQ .ret F' w0' ι' S' a' w' hk hst' (hx1.trans hx) hb' (hs1.trans hs)
  all_goals (try simp only [Option.map_eq_some_iff] at hr)
  all_goals (repeat' split at hr)
  all_goals (simp at hr)
 | scope x ih=>
  intro c D hr ho hD r n w0 K F ι S a w Q hb h hst hQ
  cases c<;>simp only [resolveC,AC.strip] at hr
  case scope a0=>
   simp only [Option.map_eq_some_iff,AC.scope.injEq] at hr
   obtain ⟨x',h1,rfl⟩:=hr
   refine wpIn_scope (ih _ D h1 ho hD r n w0 _ F ι S a w _ hb h hst fun e F' w0' ι' S' a' w' hk hst' hx hb' hs=>?_)
   cases e with
   | normal=>exact hQ .normal F' w0' ι' S' a' w' hk hst' hx hb' hs
   | exit i=>exact hQ (.exit i) F' w0' ι' S' a' w' hk hst' hx hb' hs
   | ret=>exact hQ .ret F' w0' ι' S' a' w' hk hst' hx hb' hs
  all_goals (try simp only [Option.map_eq_some_iff] at hr)
  all_goals (repeat' split at hr)
  all_goals (simp at hr)
 | label l=>
  intro c D hr ho hD r n w0 K F ι S a w Q hb h hst hQ
  cases c<;>simp only [resolveC,AC.strip] at hr
  case label l'=>exact wpIn_label (hQ .normal F w0 ι S a w h hst (.refl _) hb (.refl _ _))
  all_goals (try simp only [Option.map_eq_some_iff] at hr)
  all_goals (repeat' split at hr)
  all_goals (simp at hr)
 | exit id=>
  intro c D hr ho hD r n w0 K F ι S a w Q hb h hst hQ
  cases c<;>simp only [resolveC,AC.strip] at hr
  case exit id'=>
   simp at hr;subst hr
   exact wpIn_exit (hQ (.exit id') F w0 ι S a w h hst (.refl _) hb (.refl _ _))
  all_goals (try simp only [Option.map_eq_some_iff] at hr)
  all_goals (repeat' split at hr)
  all_goals (simp at hr)
 | ret=>
  intro c D hr ho hD r n w0 K F ι S a w Q hb h hst hQ
  cases c<;>simp only [resolveC,AC.strip] at hr
  case ret=>exact wpIn_ret (hQ .ret F w0 ι S a w h hst (.refl _) hb (.refl _ _))
  all_goals (try simp only [Option.map_eq_some_iff] at hr)
  all_goals (repeat' split at hr)
  all_goals (simp at hr)
 | reg l=>
  intro c D hr ho hD r n w0 K F ι S a w Q hb h hst hQ
  cases c<;>simp only [resolveC,AC.strip] at hr
  case region id ops d=>
   split at hr
   ·rename_i l' h1
    cases d with
    | true=>simp at hr
    | false=>
     simp at hr;subst hr
     obtain ⟨q1,q2⟩:=resolveIs_get h1
     obtain ⟨q3,q4⟩:=resolveIs_ops h1
     refine wpIn_region ?_
     have:List.range ops.size=List.range' 0 l'.length:=by rw [q1,List.range_eq_range'];simp
     rw [this]
     refine toIn (D:=D) (a0:=a) (X:=fun a' w'=>∃ F' ι' S',K .normal F'∧St N w0 ι' S' F'.ff a' w') (fun k o ho d hd=>?_) q3 ?_ _ a w ?_ (.refl _ _)
     ·obtain ⟨i,g1,g2⟩:=q4 k o ho
      exact hD d (List.mem_filterMap.2 ⟨i,List.mem_of_getElem? g1,by rw [g2,hd]⟩)
     ·rintro a' w' ⟨F',ι',S',g1,g2⟩ g3
      exact hQ .normal F' w0 ι' S' a' w' g1 g2 (.refl _) hb g3
     ·exact awpR_ok (Q:=Qn _) l' 0 F ι S a w (fun j i hj=>by simpa using q2 j i hj) h hst (fun F' ι' S' a' w' hk hst'=>⟨F',ι',S',hk,hst'⟩)
   ·simp at hr
  all_goals (try simp only [Option.map_eq_some_iff] at hr)
  all_goals (repeat' split at hr)
  all_goals (simp at hr)
 | draw l=>
  intro c D hr ho hD r n w0 K F ι S a w Q hb h hst hQ
  cases c<;>simp only [resolveC,AC.strip] at hr
  case region id ops d=>
   split at hr
   ·rename_i l' h1
    cases d with
    | false=>simp at hr
    | true=>
     simp only [if_true,Option.some.injEq,AC.draw.injEq] at hr
     obtain ⟨q1,q2⟩:=resolveIs_get h1
     obtain ⟨q3,q4⟩:=resolveIs_ops h1
     have hb':l'=l.map (·.b):=by
      have:=congrArg (List.map (·.b)) hr
      simpa [List.map_map,Function.comp_def] using this
     refine wpIn_region_any hm ?_
     refine toAny (D:=D) (a0:=a) (X:=fun a' w'=>∃ F' ι' S',K .normal F'∧St N w0 ι' S' F'.ff a' w') (fun k o ho d hd=>?_) q3 ?_ _ _ a _ ?_ (.refl _ _)
     ·obtain ⟨i,g1,g2⟩:=q4 k o ho
      rw [hb',List.getElem?_map,Option.map_eq_some_iff] at g1
      obtain ⟨i',g1,g5⟩:=g1
      exact hD d (List.mem_filterMap.2 ⟨i',List.mem_of_getElem? g1,by rw [g5,g2,hd]⟩)
     ·rintro a' w' ⟨F',ι',S',g1,g2⟩ g3
      exact hQ .normal F' w0 ι' S' a' w' g1 g2 (.refl _) hb g3
     refine awpD_ok (Q:=Qn _) (K:=K .normal) (F0:=F) (l:=l) ?_ (fun k i hk=>?_) (Bool.and_eq_true _ _ ▸ ho).1 (awpX_D (Bool.and_eq_true _ _ ▸ ho).2 h) (hst.step0 (S':=S) (Keep.drew w) (fun _ _ q=>q) (fun x v q=>hst.snap x v q) (fun x v q=>.inl q)) (fun F' ι' S' a' w' hk hst'=>⟨F',ι',S',hk,hst'⟩)
     ·rw [hb'] at q1;simpa using q1
     ·obtain ⟨o,h2,h3⟩:=q2 k i.b (by rw [hb'];simp [hk])
      exact ⟨o,by simpa using h2,h3⟩
   ·simp at hr
  all_goals (try simp only [Option.map_eq_some_iff] at hr)
  all_goals (repeat' split at hr)
  all_goals (simp at hr)
 | rfun g ps dd x y ihx ihy=>
  intro c D hr ho hD r n w0 K F ι S a w Q hb h hst hQ
  simp only [AC.okAll,Bool.and_eq_true,List.all_eq_true,List.contains_iff_mem,List.mem_append] at ho
  cases c<;>simp only [resolveC,AC.strip] at hr
  case rangeFunc g' ps' a' b'=>
   split at hr
   ·rename_i q x' y' h1 h2 h3
    split at hr
    ·rename_i hps
     simp at hr
     obtain ⟨rfl,rfl,rfl,rfl⟩:=hr
     simp only [awp] at h
     split at h
     ·rename_i u hu
      split at h
      ·rename_i f fi ca hc
       obtain ⟨fi',ca',xs,e1,e2,hG,hR⟩:=h
       simp only [List.all_eq_true,decide_eq_true_eq] at hps
       exact rfun_ok (D:=fun t=>t∈x.dsts∨t∈y.dsts) (ihx _ _ h2 ho.1.1 fun t ht=>.inl ht) (ihy _ _ h3 ho.1.2 fun t ht=>.inr ht) (fun t ht=>ho.2 t (.inr ht)) (fun p hp=>⟨hps p hp,ho.2 p (.inl hp)⟩) hb hst (hst.val h1 hu) hc e1 e2 hG hR hQ
      ·exact h.elim
     ·exact h.elim
    ·simp at hr
   ·simp at hr
  all_goals (try simp only [Option.map_eq_some_iff] at hr)
  all_goals (repeat' split at hr)
  all_goals (simp at hr)
end
inductive RO where
 | tmp (t:Nat)
 | cell (a:Nat) (agg:Bool) (n:Nat)
def resolveRs (P:Program):List ResultVar→Option (List RO)
 | []=>some []
 | .tmp t :: l=>(resolveRs P l).map (.tmp t :: ·)
 | .cell a t :: l=>match aggB P t,sizeO P t,resolveRs P l with
  | some b,some n,some r=>some (.cell a b (if b then n else 1) :: r)
  | _,_,_=>none
def evR (F:FF):RO→Option AV
 | .tmp t=>F.var t
 | .cell a agg n=>(F.var a).bind fun v=>(F.read v n).bind (headO agg)
def evRl (F:FF):List RO→Option (List AV)
 | []=>some []
 | r :: l=>match evR F r,evRl F l with
  | some v,some vs=>some (v :: vs)
  | _,_=>none
def evRs (F:FF) (l:List RO):Option AV:=match evRl F l with
 | some [v]=>some v
 | some vs=>some (mkTup vs)
 | none=>none
def OkV (v:Slot→AV):Prop:=∀ (ι ι':Inj) (S:Snap) (s s':Slot) (x:Value),ι' s'=ι s→AVRel ι S (v s) x→AVRel ι' S (v s') x
def resOf (F:FF) (u:AV):Res→Prop
 | .p v=>F.reify 4 u=some v
 | .own v k=>OkV v∧∃ s e size rows,k=.sl e size rows∧u=v s∧F.blk s=some k
def retK (rs:List RO) (r:Res):AE→Fr→Prop:=fun e F=>(match e with | .exit _=>False | _=>True)∧∃ u,evRs F.ff rs=some u∧resOf F.ff u r
def initFr (args:List PV):Fr:=⟨args.zipIdx.map fun x=>(x.2,.p x.1),[]⟩
section
variable {P:Program} {N:Nat} {w0:Base} {ι:Inj} {S:Snap} {F:FF} {a:Act} {w:World}
def resVar (tmps:Array Value):ResultVar→Sem Value
 | .tmp t=>pure (tmps.getD t undef)
 | .cell a t=>do loadVar t (←asAddr (tmps.getD a undef))
theorem results_eq (fn:Func) (tmps:Array Value):results fn tmps=(do
  let vs ←fn.results.mapM (resVar tmps)
  pure (if h:vs.size=1 then vs[0] else .tuple vs)):=by
 unfold results
 rfl
theorem evRl_ok (h:St N w0 ι S F a w) {g:ResultVar→Sem Value} (hg1:∀ t,g (.tmp t)=pure (a.tmps.getD t undef)) (hg2:∀ c t,g (.cell c t)=do loadVar t (←asAddr (a.tmps.getD c undef))) :
  ∀ {rv:List ResultVar} {rs:List RO} {vs:List AV},resolveRs P rv=some rs→evRl F rs=some vs→∃ xs:List Value,(rv.mapM g).run P w=.ok xs w∧Rs ι S vs xs
 | [],rs,vs,h1,h2=>by
  simp [resolveRs] at h1;subst h1
  simp [evRl] at h2;subst h2
  exact ⟨[],by simp,.nil⟩
 | .tmp t :: l,rs,vs,h1,h2=>by
  simp only [resolveRs,Option.map_eq_some_iff] at h1
  obtain ⟨r,h1,rfl⟩:=h1
  simp only [evRl] at h2
  split at h2
  ·rename_i v vs' e1 e2
   simp at h2;subst h2
   obtain ⟨xs,g1,g2⟩:=evRl_ok h hg1 hg2 h1 e2
   obtain ⟨x,g3,g4⟩:=h.vars t v e1
   refine ⟨x :: xs,?_,.cons g4 g2⟩
   have:a.tmps.getD t undef=x:=by simp [Array.getD_eq_getD_getElem?,g3]
   simp only [List.mapM_cons,Sem.run_bind,hg1,Sem.run_pure,Result.andThen_ok,this,g1]
  ·simp at h2
 | .cell c t :: l,rs,vs,h1,h2=>by
  simp only [resolveRs] at h1
  split at h1
  ·rename_i b n r hb hn h1'
   simp at h1;subst h1
   simp only [evRl] at h2
   split at h2
   ·rename_i v vs' e1 e2
    simp at h2;subst h2
    obtain ⟨xs,g1,g2⟩:=evRl_ok h hg1 hg2 h1' e2
    simp only [evR,Option.bind_eq_some_iff] at e1
    obtain ⟨u,e3,cs,e4,e5⟩:=e1
    obtain ⟨y,g3,g4⟩:=h.vars c u e3
    obtain ⟨x,g5,g6⟩:=load_ok (P:=P) h hb hn g4 e4 e5
    refine ⟨x :: xs,?_,.cons g6 g2⟩
    obtain ⟨p,hp,_⟩:=h.read g4 e4
    subst hp
    have hy:(asAddr (a.tmps.getD c undef)).run P w=.ok p w:=by
     have:a.tmps.getD c undef=.pointer (some p):=by simp [Array.getD_eq_getD_getElem?,g3]
     rw [this];rfl
    simp only [Instr.loadAt,Instr.sureAddr,Sem.run_bind,Sem.run_pure,Result.andThen_ok] at g5
    simp only [List.mapM_cons,Sem.run_bind,hg2,Result.andThen_ok,hy,g5,g1,Sem.run_pure]
   ·simp at h2
  ·simp at h1
theorem results_ok (h:St N w0 ι S F a w) {fn:Func} {rs:List RO} {u:AV} (h1:resolveRs P fn.results.toList=some rs) (h2:evRs F rs=some u):∃ x,(results fn a.tmps).run P w=.ok x w∧AVRel ι S u x:=by
 unfold evRs at h2
 have hgen:∀ vs,evRl F rs=some vs→∃ xs:List Value,(results fn a.tmps).run P w=.ok (if h:xs.toArray.size=1 then xs.toArray[0] else .tuple xs.toArray) w∧Rs ι S vs xs:=by
  intro vs hvs
  rw [results_eq]
  simp only [Sem.run_bind]
  obtain ⟨xs,g1,g2⟩:=evRl_ok (P:=P) h (g:=resVar a.tmps) (fun _=>rfl) (fun _ _=>rfl) h1 hvs
  refine ⟨xs,?_,g2⟩
  rw [←Array.toArray_toList (xs:=fn.results),List.mapM_toArray]
  simp only [Sem.run_map]
  exact (congrArg (fun r=>((r.andThen fun a w'=>Result.ok a.toArray w').andThen fun a w'=>Sem.run P (pure (if h:a.size=1 then a[0] else Value.tuple a)) w')) g1)
 split at h2
 ·rename_i v e
  simp at h2;subst h2
  obtain ⟨xs,g1,g2⟩:=hgen _ e
  obtain ⟨x,xs',rfl,g3,g4⟩:=g2.uncons
  have:xs'=[]:=List.eq_nil_of_length_eq_zero (by simpa using g4.1)
  subst this
  exact ⟨x,g1,g3⟩
 ·rename_i vs hne e
  simp at h2;subst h2
  obtain ⟨xs,g1,g2⟩:=hgen _ e
  refine ⟨.tuple xs.toArray,?_,mkTup_rel g2⟩
  have hl:¬(xs.toArray.size=1):=by
   intro hl
   have:vs.length=1:=by rw [←g2.1];simpa using hl
   obtain ⟨v,rfl⟩:=List.length_eq_one_iff.1 this
   exact hne v rfl
  rw [g1,dif_neg hl]
 ·simp at h2
theorem look_zipIdx:∀ (args:List PV) (k t:Nat) (v:AV),look t ((args.zipIdx k).map fun x=>(x.2,AV.p x.1))=some v→∃ p,v=.p p∧k≤t∧args[t - k]?=some p
 | [],k,t,v,h=>by simp [look] at h
 | p :: l,k,t,v,h=>by
  simp only [List.zipIdx_cons,List.map_cons,look] at h
  split at h
  ·rename_i e;subst e;simp at h;exact ⟨p,h.symm,Nat.le_refl _,by simp⟩
  ·rename_i hne
   obtain ⟨q,h1,h2,h3⟩:=look_zipIdx l (k+1) t v h
   refine ⟨q,h1,by omega,?_⟩
   have:t - k=(t - (k+1))+1:=by omega
   rw [this];simpa using h3
theorem leavesM_ok {fn:Func} {R:Ending→World→Prop}:∀ (D:List Nat) (b:Base) (F:FF) (a:Act) (w:World),b.D=D→D.Nodup→(∀ m∈D,b.O m=some (.deferred (some [])))→St N b ι S F a w →
  (∀ b' w',b'.w=b.w→b'.S=b.S→b'.M=b.M→b'.J=b.J→St N b' ι S F { a with defers:=[] } w'→∃ v,(results fn a.tmps).run P w'=.ok v w'∧R (.returned v) w')→LeavesInM Fence.wide 0 P fn a.tmps R (D.map markOf) .returning w
 | [],b,F,a,w,hb,hn,hm,h,hf=>by
  have hd:a.defers=[]:=by rw [h.df,hb];rfl
  exact hf b w rfl rfl rfl rfl (by rw [←hd];exact h)
 | m :: D,b,F,a,w,hb,hn,hm,h,hf=>by
  have ho:=hm m (by simp)
  have hh:=(h.ob m _ ho).2.1
  refine ⟨by simp,.inl ⟨m,_,rfl,run_takeDeferred hh,?_⟩⟩
  have h1:=h.putObj (.deferred none) ho (by simp)
  have hn':=List.nodup_cons.1 hn
  have h2:St N { (b.obj m (some (.deferred none))) with D:=D } ι S F { a with defers:=D.map markOf } (w.putObj m (.deferred none)):=
   h1.other (w0':={ (b.obj m (some (.deferred none))) with D:=D }) rfl rfl rfl rfl h1.nb (fun _ _ q=>q) h.nt rfl (fun t v e=>h1.vars t v e) (fun _ _ q=>q)
  exact leavesM_ok D _ F { a with defers:=D.map markOf } _ rfl hn'.2 (fun m' hm'=>by
   have:m'≠m:=fun q=>hn'.1 (q ▸ hm')
   simp only [Base.obj,if_neg this]
   exact hm m' (by simp [hm'])) h2 (fun b' w' e1 e2 e3 e4 h3=>hf b' w' e1 e2 e3 e4 h3)
theorem best_of_awp (hm:P.follows .mixedOrders=true) {f:FuncId} {fn:Func} {c:Code} {ac:AC} {rs:List RO} (hf:P.funcs[f]?=some fn) (hn:(fn.name == "runtime.NumGoroutine")=false) (hN:fn.ntmps≤BIG) (hb:fn.body=some c) (hc:resolveC P fn.ntmps c=some ac.strip) (ho:ac.okAll=true)
  (hr:resolveRs P fn.results.toList=some rs) {args:List PV} (hl:args.length≤fn.ntmps) {r:Res} (h:awp P ac (retK rs r) (initFr args)):Best P f args r:=by
 refine ⟨⟨fn,hf,by simp [hb],hn⟩,fun S w xs hS hxs=>?_⟩
 refine callsIn_fz' (r:=none) (n:=0) (callsIn_of_wp_marks (F:=Fence.wide) (n:=0) hf hb trivial ?_)
 have hlen:xs.length=args.length:=hxs.1
 have hst:St fn.ntmps { w:=w,S:=S } (fun _=>none) S (initFr args).ff { tmps:=xs.toArray++Array.replicate (fn.ntmps - xs.toArray.size) undef,defers:=[] } w:=by
  refine ⟨by simp;omega,hN,fun _ _=>rfl,rfl,fun r o e=>by simp at e,(Keep.refl w).toX,fun _ _ q=>q,fun _ _ q=>.inl q,hS,fun t v e=>?_,fun s k e=>by simp [initFr,Fr.ff,Fr.blk,look] at e,fun s k e=>by simp [initFr,Fr.ff,Fr.blk,look] at e,fun s s' k k' e=>by simp [initFr,Fr.ff,Fr.blk,look] at e⟩
  obtain ⟨p,rfl,_,h2⟩:=look_zipIdx args 0 t v e
  simp only [Nat.sub_zero] at h2
  have hlt:t<xs.length:=by have:=(List.getElem?_eq_some_iff.1 h2).1;omega
  refine ⟨xs[t],by simp [Array.getElem?_append,hlt],.p _ _ (hxs.2 t p _ h2 (by simp))⟩
 have hbok:BOk none { w:=w,S:=S }:=⟨List.nodup_nil,by simp,fun l e=>by simp at e⟩
 refine awp_ok (N:=fn.ntmps) hm ac c (fun t=>t∈ac.dsts) hc ho (fun _ q=>q) none 0 { w:=w,S:=S } (retK rs r) (initFr args) _ S _ w _ hbok h hst fun e F' b' ι' S' a' w' hk hst' hx hb' _=>?_
 obtain ⟨he,u,h1,h2⟩:=hk
 have fin:LeavesInM Fence.wide 0 P fn a'.tmps (fun e w'=>∃ (x:Value) (S':Snap),e=.returned x∧Keep w w'∧S.le S'∧S'.holds w'∧(∀ a v,S' a=some v→S a=some v∨w.heap.size≤a.block)∧ResAt w S' w' x r) a'.defers .returning w':=by
  rw [hst'.df]
  refine leavesM_ok _ b' F'.ff a' w' rfl hb'.nd hb'.dm hst' fun b2 w2 ew eS eM eJ hst2=>?_
  obtain ⟨x,h3,h4⟩:=results_ok (P:=P) hst2 hr h1
  have ew':b2.w=w:=by rw [ew,hx.w]
  have eS':b2.S=S:=by rw [eS,hx.S]
  have k1:=hst2.keep
  have k2:=hst2.sle
  have k3:=hst2.snew
  have eM':b2.M=fun _=>False:=by rw [eM,hx.M]
  rw [ew',eM'] at k1
  replace k1:=k1.keep fun _ q=>q
  rw [ew',eM'] at k3
  rw [eS'] at k2 k3
  replace k3:∀ a v,S' a=some v→S a=some v∨w.heap.size≤a.block:=fun a v q=>(k3 a v q).imp id fun q=>q.elim id False.elim
  have k4:∀ s k,F'.ff.blk s=some k→∀ b t,ι' s=some (b,t)→w.heap.size≤b∧∀ x:Addr,x.block=b→S' x=none:=by
   intro s k e b t hi
   have:=hst2.own s k e b t hi
   rw [ew',eM'] at this
   exact ⟨this.1.elim id False.elim,this.2⟩
  cases r with
  | p v=>
   simp only [resOf] at h2
   have ⟨T,hT⟩:∃ T:Snap,T=fun a=>match S' a with | some v=>some v | none=>if w.heap.size≤a.block then w2.cell? a else none:=⟨_,rfl⟩
   have hST:S'.le T:=fun a v q=>by rw [hT];simp only [q]
   refine ⟨x,h3,x,T,rfl,k1,fun a v q=>hST a v (k2 a v q),fun a v q=>?_,fun a v q=>?_,?_⟩
   ·rw [hT] at q
    dsimp only at q
    split at q
    ·rename_i u hu;simp at q;subst q;exact hst2.snap a u hu
    ·split at q
     ·exact q
     ·simp at q
   ·rw [hT] at q
    dsimp only at q
    split at q
    ·rename_i u hu;simp at q;subst q;exact k3 a u hu
    ·split at q
     ·rename_i hlt;exact .inr hlt
     ·simp at q
   ·refine reify_T hst2 hST (fun s k b t hk hi a ha u hu=>?_) 4 h2 h4
    have:=k4 s k hk b t hi
    rw [hT]
    dsimp only
    rw [this.2 a ha]
    simp only
    rw [if_pos (by rw [ha];exact this.1)]
    exact hu
  | own v k=>
   refine ⟨x,h3,x,S',rfl,k1,k2,hst2.snap,k3,?_⟩
   obtain ⟨hv,s,e',size,rows,rfl,rfl,hblk⟩:=h2
   refine ⟨ι' s,fun b t hi=>k4 s _ hblk b t hi,fun ι s' hs=>⟨hv ι' ι S' s s' x hs h4,?_⟩⟩
   obtain ⟨hwf,hmm⟩:=hst2.mem s _ hblk
   refine ⟨hwf,?_⟩
   rw [hs]
   refine hmm.imp id fun ⟨b,total,t',c,e1,e2,e3,e4,e5,e6,e7⟩=>⟨b,total,t',c,e1,e2,e3,e4,e5,e6,fun i j av q=>?_⟩
   obtain ⟨v,v1,v2⟩:=e7 i j av q
   refine ⟨v,v1,?_⟩
   simp only [Blk.cell,Option.map_eq_some_iff] at q
   obtain ⟨p,_,rfl⟩:=q
   exact .p _ _ v2.inv_p
 cases e with
 | normal=>exact fin
 | exit id=>exact he.elim
 | ret=>exact fin
def factOf (P:Program) (f:FuncId):Option (AC×List RO×Nat):=match P.funcs[f]? with
 | some fn=>if (fn.name == "runtime.NumGoroutine")=false∧fn.ntmps≤1000000 then
   match fn.body.bind (resolveC P fn.ntmps),resolveRs P fn.results.toList with
   | some ac,some rs=>some (ac,rs,fn.ntmps)
   | _,_=>none
  else none
 | none=>none
theorem best (hm:P.follows .mixedOrders=true) {f:FuncId} {ac:AC} {rs:List RO} {n:Nat} (hf:factOf P f=some (ac.strip,rs,n)) (ho:ac.okAll=true) {args:List PV} (hl:args.length≤n) {r:Res} (h:awp P ac (retK rs r) (initFr args)):Best P f args r:=by
 unfold factOf at hf
 split at hf
 ·rename_i fn h1
  split at hf
  ·rename_i h2
   split at hf
   ·rename_i ac' rs' h3 h4
    simp only [Option.some.injEq,Prod.mk.injEq] at hf
    obtain ⟨rfl,rfl,rfl⟩:=hf
    simp only [Option.bind_eq_some_iff] at h3
    obtain ⟨c,h5,h6⟩:=h3
    exact best_of_awp hm h1 h2.1 h2.2 h5 h6 ho h4 hl h
   ·simp at hf
  ·simp at hf
 ·simp at hf
def retM (F:FF):List (Slot×Blk)→Prop
 | []=>True
 | x :: l=>F.blk x.1=some x.2∧retM F l
theorem retM_look {F:FF}:∀ {l:List (Slot×Blk)},retM F l→∀ s k,look s l=some k→F.blk s=some k
 | [],_,s,k,h=>by simp [look] at h
 | x :: l,hr,s,k,h=>by
  simp only [look] at h
  split at h
  ·rename_i e;simp at h;subst e;subst h;exact hr.1
  ·exact retM_look hr.2 s k h
def retF (rs:List RO) (v:AV) (M1:List (Slot×Blk)):AE→Fr→Prop:=fun e F=>(match e with | .exit _=>False | _=>True)∧evRs F.ff rs=some v∧retM F.ff M1
def initFF (args:List AV) (M0:List (Slot×Blk)):Fr:=⟨args.zipIdx.map fun x=>(x.2,x.1),M0⟩
theorem look_zipIdxF:∀ (args:List AV) (k t:Nat) (v:AV),look t ((args.zipIdx k).map fun x=>(x.2,x.1))=some v→k≤t∧args[t - k]?=some v
 | [],k,t,v,h=>by simp [look] at h
 | p :: l,k,t,v,h=>by
  simp only [List.zipIdx_cons,List.map_cons,look] at h
  split at h
  ·rename_i e;subst e;simp at h;exact ⟨Nat.le_refl _,by simp [h]⟩
  ·rename_i hne
   obtain ⟨h2,h3⟩:=look_zipIdxF l (k+1) t v h
   refine ⟨by omega,?_⟩
   have:t - k=(t - (k+1))+1:=by omega
   rw [this];simpa using h3
theorem bestF_of_awp (hm:P.follows .mixedOrders=true) {f:FuncId} {fn:Func} {c:Code} {ac:AC} {rs:List RO} (hf:P.funcs[f]?=some fn) (hn:(fn.name == "runtime.NumGoroutine")=false) (hN:fn.ntmps≤BIG) (hb:fn.body=some c) (hc:resolveC P fn.ntmps c=some ac.strip) (ho:ac.okAll=true)
  (hr:resolveRs P fn.results.toList=some rs) {args:List AV} (hl:args.length≤fn.ntmps) {M0:List (Slot×Blk)} {K:List Slot} {v:AV} {M1:List (Slot×Blk)} (hK:∀ s∈K,fixS s) (h:awp P ac (retF rs v M1) (initFF args M0)):BestF P f M0 args K v M1:=by
 refine ⟨⟨fn,hf,by simp [hb],hn⟩,fun ι S w xs hS hP hxs=>?_⟩
 refine callsIn_fz' (r:=none) (n:=0) (callsIn_of_wp_marks (F:=Fence.wide) (n:=0) hf hb trivial ?_)
 have hlen:xs.length=args.length:=hxs.1
 have hst:St fn.ntmps { w:=w,S:=S,M:=Lent ι M0,J:=ι } ι S (initFF args M0).ff { tmps:=xs.toArray++Array.replicate (fn.ntmps - xs.toArray.size) undef,defers:=[] } w:=by
  refine ⟨by simp;omega,hN,fun _ _=>rfl,rfl,fun r o e=>by simp at e,(Keep.refl w).toX,fun _ _ q=>q,fun _ _ q=>.inl q,hS,fun t v e=>?_,hP.mem,fun s k e b t hi=>⟨.inr ⟨s,k,t,e,hi⟩,hP.own s k e b t hi⟩,hP.sep⟩
  obtain ⟨_,h2⟩:=look_zipIdxF args 0 t v e
  simp only [Nat.sub_zero] at h2
  have hlt:t<xs.length:=by have:=(List.getElem?_eq_some_iff.1 h2).1;omega
  exact ⟨xs[t],by simp [Array.getElem?_append,hlt],hxs.2 t v _ h2 (by simp)⟩
 have hbok:BOk none { w:=w,S:=S,M:=Lent ι M0,J:=ι }:=⟨List.nodup_nil,by simp,fun l e=>by simp at e⟩
 refine awp_ok (N:=fn.ntmps) hm ac c (fun t=>t∈ac.dsts) hc ho (fun _ q=>q) none 0 { w:=w,S:=S,M:=Lent ι M0,J:=ι } (retF rs v M1) (initFF args M0) ι S _ w _ hbok h hst fun e F' b' ι' S' a' w' hk hst' hx hb' _=>?_
 obtain ⟨he,h1,h2⟩:=hk
 have fin:LeavesInM Fence.wide 0 P fn a'.tmps (fun e w'=>∃ (x:Value) (ι':Inj) (S':Snap),e=.returned x∧KeepX (Lent ι M0) w w'∧S.le S'∧S'.holds w'∧(∀ a v,S' a=some v→S a=some v∨w.heap.size≤a.block∨Lent ι M0 a.block) ∧
   AVRel ι' S' v x∧Pl ι' S' w' M1∧(∀ s∈K,ι' s=ι s)∧∀ s k,look s M1=some k→∀ b t,ι' s=some (b,t)→w.heap.size≤b∨Lent ι M0 b) a'.defers .returning w':=by
  rw [hst'.df]
  refine leavesM_ok _ b' F'.ff a' w' rfl hb'.nd hb'.dm hst' fun b2 w2 ew eS eM eJ hst2=>?_
  obtain ⟨x,h3,h4⟩:=results_ok (P:=P) hst2 hr h1
  have k1:=hst2.keep
  have k2:=hst2.sle
  have k3:=hst2.snew
  have k4:=hst2.own
  have k5:=hst2.fix
  rw [ew,hx.w,eM,hx.M] at k1 k3
  rw [eS,hx.S] at k2 k3
  rw [ew,hx.w,eM,hx.M] at k4
  rw [eJ,hx.J] at k5
  have hl:=retM_look h2
  exact ⟨x,h3,x,ι',S',rfl,k1,k2,hst2.snap,k3,h4,⟨fun s k e=>hst2.mem s k (hl s k e),fun s k e b t hi=>(k4 s k (hl s k e) b t hi).2,fun s s' k k' e e'=>hst2.sep s s' k k' (hl s k e) (hl s' k' e')⟩,fun s hs=>k5 s (hK s hs),fun s k e b t hi=>(k4 s k (hl s k e) b t hi).1⟩
 cases e with
 | normal=>exact fin
 | exit id=>exact he.elim
 | ret=>exact fin
theorem bestF (hm:P.follows .mixedOrders=true) {f:FuncId} {ac:AC} {rs:List RO} {n:Nat} (hf:factOf P f=some (ac.strip,rs,n)) (ho:ac.okAll=true) {args:List AV} (hl:args.length≤n) {M0:List (Slot×Blk)} {K:List Slot} {v:AV} {M1:List (Slot×Blk)} (hK:∀ s∈K,fixS s) (h:awp P ac (retF rs v M1) (initFF args M0)):BestF P f M0 args K v M1:=by
 unfold factOf at hf
 split at hf
 ·rename_i fn h1
  split at hf
  ·rename_i h2
   split at hf
   ·rename_i ac' rs' h3 h4
    simp only [Option.some.injEq,Prod.mk.injEq] at hf
    obtain ⟨rfl,rfl,rfl⟩:=hf
    simp only [Option.bind_eq_some_iff] at h3
    obtain ⟨c,h5,h6⟩:=h3
    exact bestF_of_awp hm h1 h2.1 h2.2 h5 h6 ho h4 hl hK h
   ·simp at hf
  ·simp at hf
 ·simp at hf
theorem okV_ref (size off len:Nat):OkV fun s=>.ref s size off len:=by
 intro ι ι' S s s' x hi h
 cases h with
 | ref _ _ _ _ b total cap p h1 h2 h3 h4=>exact .ref s' size off len b total cap p (hi.trans h1) h2 h3 h4
 | refnil _ _ h1=>exact .refnil s' size (hi.trans h1)
end
end Go.Abs
